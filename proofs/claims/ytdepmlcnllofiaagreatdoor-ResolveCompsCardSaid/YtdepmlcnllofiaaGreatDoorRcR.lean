/-
  Proved here: the statement called with any numbers returns true.
-/
import Derived.Test.YtdepmlcnllofiaaGreatDoorRcRa
import Derived.Test.YtdepmlcnllofiaaGreatDoorRcRb
import Derived.Test.YtdepmlcnllofiaaGreatDoorEnvQ
import Derived.Test.YtdepmlcnllofiaaGreatDoorNmc
namespace Go.Proofs.YtdepmlcnllofiaaGreatDoor.RcR
open Go.EY Go.EX Go.SX Go.RowKit Env
theorem all (q0 : AV) (i0 : Nat) (h0 : i0 < 12) (b : Bool) : okT (Rc.g8 (.lit (.int .i64 (.ofNat i0))) (12) [] q0 (.lit (.bool b)) .nil 1) = true := by
  match i0, h0 with
  | 0, _ => cases b with
    | false => exact Rc.run_0_f q0
    | true => exact Rc.run_0_t q0
  | 1, _ => cases b with
    | false => exact Rc.run_1_f q0
    | true => exact Rc.run_1_t q0
  | 2, _ => cases b with
    | false => exact Rc.run_2_f q0
    | true => exact Rc.run_2_t q0
  | 3, _ => cases b with
    | false => exact Rc.run_3_f q0
    | true => exact Rc.run_3_t q0
  | 4, _ => cases b with
    | false => exact Rc.run_4_f q0
    | true => exact Rc.run_4_t q0
  | 5, _ => cases b with
    | false => exact Rc.run_5_f q0
    | true => exact Rc.run_5_t q0
  | 6, _ => cases b with
    | false => exact Rc.run_6_f q0
    | true => exact Rc.run_6_t q0
  | 7, _ => cases b with
    | false => exact Rc.run_7_f q0
    | true => exact Rc.run_7_t q0
  | 8, _ => cases b with
    | false => exact Rc.run_8_f q0
    | true => exact Rc.run_8_t q0
  | 9, _ => cases b with
    | false => exact Rc.run_9_f q0
    | true => exact Rc.run_9_t q0
  | 10, _ => cases b with
    | false => exact Rc.run_10_f q0
    | true => exact Rc.run_10_t q0
  | 11, _ => cases b with
    | false => exact Rc.run_11_f q0
    | true => exact Rc.run_11_t q0
  | _ + 12, h => exact absurd h (by omega)
/-- names for the errors that the variables hold -/
def errRho (aE : Nat → Addr) : Rho := ⟨[], fun i => .pointer (some (aE i))⟩
theorem errEE {w0 : World} {base : Nat} {aE : Nat → Addr} (hS : EnvS w0 base aE) : EE w0 base (errRho aE) Rc.envE := by
  have key : ∀ i g, sentG[i]? = some g → ∃ u, inst (errRho aE) (.iface 253 (.opq i)) = some u ∧ w0.cell? ⟨g, 0, none⟩ = some u ∧ g < base := fun i g hi => ⟨_, rfl, hS.at_ i g hi, hS.lt g (List.mem_of_getElem? hi)⟩
  intro g v hv
  unfold Rc.envE at hv
  simp only [lookE] at hv
  split at hv
  · rename_i hb
    cases hv
    obtain rfl := beqT hb
    exact key 0 _ rfl
  split at hv
  · rename_i hb
    cases hv
    obtain rfl := beqT hb
    exact key 1 _ rfl
  split at hv
  · rename_i hb
    cases hv
    obtain rfl := beqT hb
    exact key 2 _ rfl
  split at hv
  · rename_i hb
    cases hv
    obtain rfl := beqT hb
    exact key 3 _ rfl
  split at hv
  · rename_i hb
    cases hv
    obtain rfl := beqT hb
    exact key 4 _ rfl
  split at hv
  · rename_i hb
    cases hv
    obtain rfl := beqT hb
    exact key 5 _ rfl
  split at hv
  · rename_i hb
    cases hv
    obtain rfl := beqT hb
    exact key 6 _ rfl
  split at hv
  · rename_i hb
    cases hv
    obtain rfl := beqT hb
    exact key 7 _ rfl
  split at hv
  · rename_i hb
    cases hv
    obtain rfl := beqT hb
    exact key 8 _ rfl
  split at hv
  · rename_i hb
    cases hv
    obtain rfl := beqT hb
    exact key 9 _ rfl
  split at hv
  · rename_i hb
    cases hv
    obtain rfl := beqT hb
    exact key 10 _ rfl
  split at hv
  · rename_i hb
    cases hv
    obtain rfl := beqT hb
    exact key 11 _ rfl
  split at hv
  · rename_i hb
    cases hv
    obtain rfl := beqT hb
    exact key 12 _ rfl
  split at hv
  · rename_i hb
    cases hv
    obtain rfl := beqT hb
    exact key 13 _ rfl
  split at hv
  · rename_i hb
    cases hv
    obtain rfl := beqT hb
    exact key 14 _ rfl
  split at hv
  · rename_i hb
    cases hv
    obtain rfl := beqT hb
    exact key 15 _ rfl
  split at hv
  · rename_i hb
    cases hv
    obtain rfl := beqT hb
    exact key 16 _ rfl
  cases hv
theorem errOPQ {w0 : World} {base : Nat} {aE : Nat → Addr} (hS : EnvS w0 base aE) : OPQ w0 base (errRho aE) := ⟨aE, fun _ _ => rfl, hS.blk, hS.ne⟩
theorem first_run : okT (Rc.g24 [.nil] .nil 1) = true := by kernel_rfl
theorem law_c {w0 : World} {base : Nat} {aE : Nat → Addr} (hS : EnvS w0 base aE) (n0 : Int) (b : Bool) : FnC Tryz.prog 8 #[.int .i64 n0, .bool b] (WA w0 base []) (fun _ : Unit => .bool true) (fun _ => WA w0 base []) := by
  obtain ⟨i0, h0, e0⟩ := numI_ok n0 (show 0 < 12 by omega)
  obtain ⟨T2, n2, hF0⟩ := okT_eq first_run
  have hF1 := Rc.g24_ok [.nil] .nil 1
  rw [hF0] at hF1
  exact okT_c (vs := [.int .i64 n0, .bool b]) (Rc.g8_ok (.lit (.int .i64 (.ofNat i0))) (12) (.lit (.int .i64 n0)) (.lit (.bool b)) (fun z ro T nx => number_is _ n0 (by omega) (by omega) e0 z ro T nx) [] .nil 1 (GOk.quiet hF1 rfl)) (all (.lit (.int .i64 n0)) i0 h0 b) (errRho aE) (errEE hS) (errOPQ hS) (fun _ _ => rfl)
end Go.Proofs.YtdepmlcnllofiaaGreatDoor.RcR
