/-
  Proved here: the statement called with any numbers returns true.
-/
import Derived.Test.YtlljgagoboapaaaGreatDoorVfRa
import Derived.Test.YtlljgagoboapaaaGreatDoorEnvQ
import Derived.Test.YtlljgagoboapaaaGreatDoorNmc
namespace Go.Proofs.YtlljgagoboapaaaGreatDoor.VfR
open Go.EY Go.EX Go.SX Go.RowKit Env
theorem all (q0 : AV) (i0 : Nat) (h0 : i0 < 20) : okT (Vf.g4 (.lit (.int .i64 (.ofNat i0))) (20) [] q0 .nil 1) = true := by
  match i0, h0 with
  | 0, _ => exact Vf.run_0 q0
  | 1, _ => exact Vf.run_1 q0
  | 2, _ => exact Vf.run_2 q0
  | 3, _ => exact Vf.run_3 q0
  | 4, _ => exact Vf.run_4 q0
  | 5, _ => exact Vf.run_5 q0
  | 6, _ => exact Vf.run_6 q0
  | 7, _ => exact Vf.run_7 q0
  | 8, _ => exact Vf.run_8 q0
  | 9, _ => exact Vf.run_9 q0
  | 10, _ => exact Vf.run_10 q0
  | 11, _ => exact Vf.run_11 q0
  | 12, _ => exact Vf.run_12 q0
  | 13, _ => exact Vf.run_13 q0
  | 14, _ => exact Vf.run_14 q0
  | 15, _ => exact Vf.run_15 q0
  | 16, _ => exact Vf.run_16 q0
  | 17, _ => exact Vf.run_17 q0
  | 18, _ => exact Vf.run_18 q0
  | 19, _ => exact Vf.run_19 q0
  | _ + 20, h => exact absurd h (by omega)
/-- names for the errors that the variables hold -/
def errRho (aE : Nat → Addr) : Rho := ⟨[], fun i => .pointer (some (aE i))⟩
theorem errEE {w0 : World} {base : Nat} {aE : Nat → Addr} (hS : EnvS w0 base aE) : EE w0 base (errRho aE) Vf.envE := by
  have key : ∀ i g, sentG[i]? = some g → ∃ u, inst (errRho aE) (.iface 347 (.opq i)) = some u ∧ w0.cell? ⟨g, 0, none⟩ = some u ∧ g < base := fun i g hi => ⟨_, rfl, hS.at_ i g hi, hS.lt g (List.mem_of_getElem? hi)⟩
  intro g v hv
  unfold Vf.envE at hv
  simp only [lookE] at hv
  split at hv
  · rename_i hb
    cases hv
    obtain rfl := beqT hb
    exact key 0 _ rfl
  split at hv
  · rename_i hb
    cases hv
    obtain rfl := beqT hb
    exact key 1 _ rfl
  split at hv
  · rename_i hb
    cases hv
    obtain rfl := beqT hb
    exact key 2 _ rfl
  split at hv
  · rename_i hb
    cases hv
    obtain rfl := beqT hb
    exact key 3 _ rfl
  split at hv
  · rename_i hb
    cases hv
    obtain rfl := beqT hb
    exact key 4 _ rfl
  split at hv
  · rename_i hb
    cases hv
    obtain rfl := beqT hb
    exact key 5 _ rfl
  split at hv
  · rename_i hb
    cases hv
    obtain rfl := beqT hb
    exact key 6 _ rfl
  split at hv
  · rename_i hb
    cases hv
    obtain rfl := beqT hb
    exact key 7 _ rfl
  split at hv
  · rename_i hb
    cases hv
    obtain rfl := beqT hb
    exact key 8 _ rfl
  split at hv
  · rename_i hb
    cases hv
    obtain rfl := beqT hb
    exact key 9 _ rfl
  split at hv
  · rename_i hb
    cases hv
    obtain rfl := beqT hb
    exact key 10 _ rfl
  split at hv
  · rename_i hb
    cases hv
    obtain rfl := beqT hb
    exact key 11 _ rfl
  split at hv
  · rename_i hb
    cases hv
    obtain rfl := beqT hb
    exact key 12 _ rfl
  split at hv
  · rename_i hb
    cases hv
    obtain rfl := beqT hb
    exact key 13 _ rfl
  split at hv
  · rename_i hb
    cases hv
    obtain rfl := beqT hb
    exact key 14 _ rfl
  split at hv
  · rename_i hb
    cases hv
    obtain rfl := beqT hb
    exact key 15 _ rfl
  split at hv
  · rename_i hb
    cases hv
    obtain rfl := beqT hb
    exact key 16 _ rfl
  cases hv
theorem errOPQ {w0 : World} {base : Nat} {aE : Nat → Addr} (hS : EnvS w0 base aE) : OPQ w0 base (errRho aE) := ⟨aE, fun _ _ => rfl, hS.blk, hS.ne⟩
theorem first_run : okT (Vf.g6 [.nil] .nil 1) = true := by kernel_rfl
theorem law_c {w0 : World} {base : Nat} {aE : Nat → Addr} (hS : EnvS w0 base aE) (n0 : Int) : FnC Tryz.prog 4 #[.int .i64 n0] (WA w0 base []) (fun _ : Unit => .bool true) (fun _ => WA w0 base []) := by
  obtain ⟨i0, h0, e0⟩ := numI_ok n0 (show 0 < 20 by omega)
  obtain ⟨T2, n2, hF0⟩ := okT_eq first_run
  have hF1 := Vf.g6_ok [.nil] .nil 1
  rw [hF0] at hF1
  exact okT_c (vs := [.int .i64 n0]) (Vf.g4_ok (.lit (.int .i64 (.ofNat i0))) (20) (.lit (.int .i64 n0)) (fun z ro T nx => number_is _ n0 (by omega) (by omega) e0 z ro T nx) [] .nil 1 (GOk.quiet hF1 rfl)) (all (.lit (.int .i64 n0)) i0 h0) (errRho aE) (errEE hS) (errOPQ hS) (fun _ _ => rfl)
end Go.Proofs.YtlljgagoboapaaaGreatDoor.VfR
