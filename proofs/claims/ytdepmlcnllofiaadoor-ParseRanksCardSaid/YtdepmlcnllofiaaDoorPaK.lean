/-
  Proved here: the statement called with any numbers returns true.
-/
import Derived.Test.YtdepmlcnllofiaaDoorPaKa
import Derived.Test.YtdepmlcnllofiaaDoorPaKb
import Derived.Test.YtdepmlcnllofiaaDoorPaKc
import Derived.Test.YtdepmlcnllofiaaDoorPaKd
import Derived.Test.YtdepmlcnllofiaaDoorEnvQ
import Derived.Test.YtdepmlcnllofiaaDoorTmod
namespace Go.Proofs.YtdepmlcnllofiaaDoor.PaK
open Go.EY Go.EX Go.SX Go.RowKit Env
theorem all_0 (q0 q1 c1a c1b c2a c2b : AV) (i1 : Nat) (h1 : i1 < 8) : okT (Pa.g5 c1a c1b (.lit (.int .i64 (.ofNat 0))) c2a c2b (.lit (.int .i64 (.ofNat i1))) [] q0 q1 .nil 1) = true := by
  match i1, h1 with
  | 0, _ => exact Pa.runK_0_0 q0 q1 c1a c1b c2a c2b
  | 1, _ => exact Pa.runK_0_1 q0 q1 c1a c1b c2a c2b
  | 2, _ => exact Pa.runK_0_2 q0 q1 c1a c1b c2a c2b
  | 3, _ => exact Pa.runK_0_3 q0 q1 c1a c1b c2a c2b
  | 4, _ => exact Pa.runK_0_4 q0 q1 c1a c1b c2a c2b
  | 5, _ => exact Pa.runK_0_5 q0 q1 c1a c1b c2a c2b
  | 6, _ => exact Pa.runK_0_6 q0 q1 c1a c1b c2a c2b
  | 7, _ => exact Pa.runK_0_7 q0 q1 c1a c1b c2a c2b
  | _ + 8, h => exact absurd h (by omega)
theorem all_1 (q0 q1 c1a c1b c2a c2b : AV) (i1 : Nat) (h1 : i1 < 8) : okT (Pa.g5 c1a c1b (.lit (.int .i64 (.ofNat 1))) c2a c2b (.lit (.int .i64 (.ofNat i1))) [] q0 q1 .nil 1) = true := by
  match i1, h1 with
  | 0, _ => exact Pa.runK_1_0 q0 q1 c1a c1b c2a c2b
  | 1, _ => exact Pa.runK_1_1 q0 q1 c1a c1b c2a c2b
  | 2, _ => exact Pa.runK_1_2 q0 q1 c1a c1b c2a c2b
  | 3, _ => exact Pa.runK_1_3 q0 q1 c1a c1b c2a c2b
  | 4, _ => exact Pa.runK_1_4 q0 q1 c1a c1b c2a c2b
  | 5, _ => exact Pa.runK_1_5 q0 q1 c1a c1b c2a c2b
  | 6, _ => exact Pa.runK_1_6 q0 q1 c1a c1b c2a c2b
  | 7, _ => exact Pa.runK_1_7 q0 q1 c1a c1b c2a c2b
  | _ + 8, h => exact absurd h (by omega)
theorem all_2 (q0 q1 c1a c1b c2a c2b : AV) (i1 : Nat) (h1 : i1 < 8) : okT (Pa.g5 c1a c1b (.lit (.int .i64 (.ofNat 2))) c2a c2b (.lit (.int .i64 (.ofNat i1))) [] q0 q1 .nil 1) = true := by
  match i1, h1 with
  | 0, _ => exact Pa.runK_2_0 q0 q1 c1a c1b c2a c2b
  | 1, _ => exact Pa.runK_2_1 q0 q1 c1a c1b c2a c2b
  | 2, _ => exact Pa.runK_2_2 q0 q1 c1a c1b c2a c2b
  | 3, _ => exact Pa.runK_2_3 q0 q1 c1a c1b c2a c2b
  | 4, _ => exact Pa.runK_2_4 q0 q1 c1a c1b c2a c2b
  | 5, _ => exact Pa.runK_2_5 q0 q1 c1a c1b c2a c2b
  | 6, _ => exact Pa.runK_2_6 q0 q1 c1a c1b c2a c2b
  | 7, _ => exact Pa.runK_2_7 q0 q1 c1a c1b c2a c2b
  | _ + 8, h => exact absurd h (by omega)
theorem all_3 (q0 q1 c1a c1b c2a c2b : AV) (i1 : Nat) (h1 : i1 < 8) : okT (Pa.g5 c1a c1b (.lit (.int .i64 (.ofNat 3))) c2a c2b (.lit (.int .i64 (.ofNat i1))) [] q0 q1 .nil 1) = true := by
  match i1, h1 with
  | 0, _ => exact Pa.runK_3_0 q0 q1 c1a c1b c2a c2b
  | 1, _ => exact Pa.runK_3_1 q0 q1 c1a c1b c2a c2b
  | 2, _ => exact Pa.runK_3_2 q0 q1 c1a c1b c2a c2b
  | 3, _ => exact Pa.runK_3_3 q0 q1 c1a c1b c2a c2b
  | 4, _ => exact Pa.runK_3_4 q0 q1 c1a c1b c2a c2b
  | 5, _ => exact Pa.runK_3_5 q0 q1 c1a c1b c2a c2b
  | 6, _ => exact Pa.runK_3_6 q0 q1 c1a c1b c2a c2b
  | 7, _ => exact Pa.runK_3_7 q0 q1 c1a c1b c2a c2b
  | _ + 8, h => exact absurd h (by omega)
theorem all_4 (q0 q1 c1a c1b c2a c2b : AV) (i1 : Nat) (h1 : i1 < 8) : okT (Pa.g5 c1a c1b (.lit (.int .i64 (.ofNat 4))) c2a c2b (.lit (.int .i64 (.ofNat i1))) [] q0 q1 .nil 1) = true := by
  match i1, h1 with
  | 0, _ => exact Pa.runK_4_0 q0 q1 c1a c1b c2a c2b
  | 1, _ => exact Pa.runK_4_1 q0 q1 c1a c1b c2a c2b
  | 2, _ => exact Pa.runK_4_2 q0 q1 c1a c1b c2a c2b
  | 3, _ => exact Pa.runK_4_3 q0 q1 c1a c1b c2a c2b
  | 4, _ => exact Pa.runK_4_4 q0 q1 c1a c1b c2a c2b
  | 5, _ => exact Pa.runK_4_5 q0 q1 c1a c1b c2a c2b
  | 6, _ => exact Pa.runK_4_6 q0 q1 c1a c1b c2a c2b
  | 7, _ => exact Pa.runK_4_7 q0 q1 c1a c1b c2a c2b
  | _ + 8, h => exact absurd h (by omega)
theorem all_5 (q0 q1 c1a c1b c2a c2b : AV) (i1 : Nat) (h1 : i1 < 8) : okT (Pa.g5 c1a c1b (.lit (.int .i64 (.ofNat 5))) c2a c2b (.lit (.int .i64 (.ofNat i1))) [] q0 q1 .nil 1) = true := by
  match i1, h1 with
  | 0, _ => exact Pa.runK_5_0 q0 q1 c1a c1b c2a c2b
  | 1, _ => exact Pa.runK_5_1 q0 q1 c1a c1b c2a c2b
  | 2, _ => exact Pa.runK_5_2 q0 q1 c1a c1b c2a c2b
  | 3, _ => exact Pa.runK_5_3 q0 q1 c1a c1b c2a c2b
  | 4, _ => exact Pa.runK_5_4 q0 q1 c1a c1b c2a c2b
  | 5, _ => exact Pa.runK_5_5 q0 q1 c1a c1b c2a c2b
  | 6, _ => exact Pa.runK_5_6 q0 q1 c1a c1b c2a c2b
  | 7, _ => exact Pa.runK_5_7 q0 q1 c1a c1b c2a c2b
  | _ + 8, h => exact absurd h (by omega)
theorem all_6 (q0 q1 c1a c1b c2a c2b : AV) (i1 : Nat) (h1 : i1 < 8) : okT (Pa.g5 c1a c1b (.lit (.int .i64 (.ofNat 6))) c2a c2b (.lit (.int .i64 (.ofNat i1))) [] q0 q1 .nil 1) = true := by
  match i1, h1 with
  | 0, _ => exact Pa.runK_6_0 q0 q1 c1a c1b c2a c2b
  | 1, _ => exact Pa.runK_6_1 q0 q1 c1a c1b c2a c2b
  | 2, _ => exact Pa.runK_6_2 q0 q1 c1a c1b c2a c2b
  | 3, _ => exact Pa.runK_6_3 q0 q1 c1a c1b c2a c2b
  | 4, _ => exact Pa.runK_6_4 q0 q1 c1a c1b c2a c2b
  | 5, _ => exact Pa.runK_6_5 q0 q1 c1a c1b c2a c2b
  | 6, _ => exact Pa.runK_6_6 q0 q1 c1a c1b c2a c2b
  | 7, _ => exact Pa.runK_6_7 q0 q1 c1a c1b c2a c2b
  | _ + 8, h => exact absurd h (by omega)
theorem all_7 (q0 q1 c1a c1b c2a c2b : AV) (i1 : Nat) (h1 : i1 < 8) : okT (Pa.g5 c1a c1b (.lit (.int .i64 (.ofNat 7))) c2a c2b (.lit (.int .i64 (.ofNat i1))) [] q0 q1 .nil 1) = true := by
  match i1, h1 with
  | 0, _ => exact Pa.runK_7_0 q0 q1 c1a c1b c2a c2b
  | 1, _ => exact Pa.runK_7_1 q0 q1 c1a c1b c2a c2b
  | 2, _ => exact Pa.runK_7_2 q0 q1 c1a c1b c2a c2b
  | 3, _ => exact Pa.runK_7_3 q0 q1 c1a c1b c2a c2b
  | 4, _ => exact Pa.runK_7_4 q0 q1 c1a c1b c2a c2b
  | 5, _ => exact Pa.runK_7_5 q0 q1 c1a c1b c2a c2b
  | 6, _ => exact Pa.runK_7_6 q0 q1 c1a c1b c2a c2b
  | 7, _ => exact Pa.runK_7_7 q0 q1 c1a c1b c2a c2b
  | _ + 8, h => exact absurd h (by omega)
theorem all (q0 q1 c1a c1b c2a c2b : AV) (i0 : Nat) (h0 : i0 < 8) (i1 : Nat) (h1 : i1 < 8) : okT (Pa.g5 c1a c1b (.lit (.int .i64 (.ofNat i0))) c2a c2b (.lit (.int .i64 (.ofNat i1))) [] q0 q1 .nil 1) = true := by
  match i0, h0 with
  | 0, _ => exact all_0 q0 q1 c1a c1b c2a c2b i1 h1
  | 1, _ => exact all_1 q0 q1 c1a c1b c2a c2b i1 h1
  | 2, _ => exact all_2 q0 q1 c1a c1b c2a c2b i1 h1
  | 3, _ => exact all_3 q0 q1 c1a c1b c2a c2b i1 h1
  | 4, _ => exact all_4 q0 q1 c1a c1b c2a c2b i1 h1
  | 5, _ => exact all_5 q0 q1 c1a c1b c2a c2b i1 h1
  | 6, _ => exact all_6 q0 q1 c1a c1b c2a c2b i1 h1
  | 7, _ => exact all_7 q0 q1 c1a c1b c2a c2b i1 h1
  | _ + 8, h => exact absurd h (by omega)
/-- names for the errors that the variables hold -/
def errRho (aE : Nat → Addr) : Rho := ⟨[], fun i => .pointer (some (aE i))⟩
theorem errEE {w0 : World} {base : Nat} {aE : Nat → Addr} (hS : EnvS w0 base aE) : EE w0 base (errRho aE) Pa.envE := by
  have key : ∀ i g, sentG[i]? = some g → ∃ u, inst (errRho aE) (.iface 108 (.opq i)) = some u ∧ w0.cell? ⟨g, 0, none⟩ = some u ∧ g < base := fun i g hi => ⟨_, rfl, hS.at_ i g hi, hS.lt g (List.mem_of_getElem? hi)⟩
  intro g v hv
  unfold Pa.envE at hv
  simp only [lookE] at hv
  split at hv
  · rename_i hb
    cases hv
    obtain rfl := beqT hb
    exact key 0 _ rfl
  split at hv
  · rename_i hb
    cases hv
    obtain rfl := beqT hb
    exact key 1 _ rfl
  split at hv
  · rename_i hb
    cases hv
    obtain rfl := beqT hb
    exact key 2 _ rfl
  split at hv
  · rename_i hb
    cases hv
    obtain rfl := beqT hb
    exact key 3 _ rfl
  split at hv
  · rename_i hb
    cases hv
    obtain rfl := beqT hb
    exact key 4 _ rfl
  split at hv
  · rename_i hb
    cases hv
    obtain rfl := beqT hb
    exact key 5 _ rfl
  split at hv
  · rename_i hb
    cases hv
    obtain rfl := beqT hb
    exact key 6 _ rfl
  split at hv
  · rename_i hb
    cases hv
    obtain rfl := beqT hb
    exact key 7 _ rfl
  split at hv
  · rename_i hb
    cases hv
    obtain rfl := beqT hb
    exact key 8 _ rfl
  split at hv
  · rename_i hb
    cases hv
    obtain rfl := beqT hb
    exact key 9 _ rfl
  split at hv
  · rename_i hb
    cases hv
    obtain rfl := beqT hb
    exact key 10 _ rfl
  split at hv
  · rename_i hb
    cases hv
    obtain rfl := beqT hb
    exact key 11 _ rfl
  split at hv
  · rename_i hb
    cases hv
    obtain rfl := beqT hb
    exact key 12 _ rfl
  split at hv
  · rename_i hb
    cases hv
    obtain rfl := beqT hb
    exact key 13 _ rfl
  split at hv
  · rename_i hb
    cases hv
    obtain rfl := beqT hb
    exact key 14 _ rfl
  split at hv
  · rename_i hb
    cases hv
    obtain rfl := beqT hb
    exact key 15 _ rfl
  split at hv
  · rename_i hb
    cases hv
    obtain rfl := beqT hb
    exact key 16 _ rfl
  cases hv
theorem errOPQ {w0 : World} {base : Nat} {aE : Nat → Addr} (hS : EnvS w0 base aE) : OPQ w0 base (errRho aE) := ⟨aE, fun _ _ => rfl, hS.blk, hS.ne⟩
theorem first_run : okT (Pa.g6 [.nil] .nil 1) = true := by kernel_rfl
theorem law_c {w0 : World} {base : Nat} {aE : Nat → Addr} (hS : EnvS w0 base aE) (n0 n1 : Int) : FnC Tryd.prog 5 #[.int .i64 n0, .int .i64 n1] (WA w0 base []) (fun _ : Unit => .bool true) (fun _ => WA w0 base []) := by
  obtain ⟨i0, h0, e0⟩ := numI_ok n0 (show 0 < 8 by decide)
  obtain ⟨i1, h1, e1⟩ := numI_ok n1 (show 0 < 8 by decide)
  obtain ⟨T2, n2, hF0⟩ := okT_eq first_run
  have hF1 := Pa.g6_ok [.nil] .nil 1
  rw [hF0] at hF1
  exact okT_c (vs := [.int .i64 n0, .int .i64 n1]) (Pa.g5_ok (.lit (.int .i64 (n0.tmod (Int.ofNat 8)))) (.lit (.int .i64 (n0.tmod (Int.ofNat 8) + Int.ofNat 8))) (.lit (.int .i64 (.ofNat i0))) (.lit (.int .i64 (n1.tmod (Int.ofNat 8)))) (.lit (.int .i64 (n1.tmod (Int.ofNat 8) + Int.ofNat 8))) (.lit (.int .i64 (.ofNat i1))) (.lit (.int .i64 n0)) (.lit (.int .i64 n1)) (fun W ρ af hx => remA hx n0 (by decide)) (fun W ρ af hx => addA hx n0 (by decide) (by decide)) (fun W ρ af hx => remB hx e0 (by decide)) (fun W ρ af hx => remA hx n1 (by decide)) (fun W ρ af hx => addA hx n1 (by decide) (by decide)) (fun W ρ af hx => remB hx e1 (by decide)) [] .nil 1 (GOk.quiet hF1 rfl)) (all (.lit (.int .i64 n0)) (.lit (.int .i64 n1)) (.lit (.int .i64 (n0.tmod (Int.ofNat 8)))) (.lit (.int .i64 (n0.tmod (Int.ofNat 8) + Int.ofNat 8))) (.lit (.int .i64 (n1.tmod (Int.ofNat 8)))) (.lit (.int .i64 (n1.tmod (Int.ofNat 8) + Int.ofNat 8))) i0 h0 i1 h1) (errRho aE) (errEE hS) (errOPQ hS) (fun _ _ => rfl)
end Go.Proofs.YtdepmlcnllofiaaDoor.PaK
