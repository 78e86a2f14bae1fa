/-
  Proved here: AstTrees, called with any two numbers, returns true.
-/
import Derived.Test.YtggoogbloaennaaDoorTrRa
import Derived.Test.YtggoogbloaennaaDoorTrRb
import Derived.Test.YtggoogbloaennaaDoorTrRc
import Derived.Test.YtggoogbloaennaaDoorTrRd
import Derived.Test.YtggoogbloaennaaDoorSee
import Derived.Test.YtggoogbloaennaaDoorNmb
namespace Go.Proofs.YtggoogbloaennaaDoor
open Go.EY Go.EX Go.SX Go.RowKit Go.Lex
theorem treeRuns (q0 q1 : AV) (i j : Nat) (hi : i < 20) (hj : j < 5) : okT (Tr.g3 (.int .i64 (.ofNat i)) (.int .i64 (.ofNat j)) [] q0 q1 .nil 1) = true := by
  match i, hi with
  | 0, _ => exact Tr.run0 q0 q1 j hj
  | 1, _ => exact Tr.run1 q0 q1 j hj
  | 2, _ => exact Tr.run2 q0 q1 j hj
  | 3, _ => exact Tr.run3 q0 q1 j hj
  | 4, _ => exact Tr.run4 q0 q1 j hj
  | 5, _ => exact Tr.run5 q0 q1 j hj
  | 6, _ => exact Tr.run6 q0 q1 j hj
  | 7, _ => exact Tr.run7 q0 q1 j hj
  | 8, _ => exact Tr.run8 q0 q1 j hj
  | 9, _ => exact Tr.run9 q0 q1 j hj
  | 10, _ => exact Tr.run10 q0 q1 j hj
  | 11, _ => exact Tr.run11 q0 q1 j hj
  | 12, _ => exact Tr.run12 q0 q1 j hj
  | 13, _ => exact Tr.run13 q0 q1 j hj
  | 14, _ => exact Tr.run14 q0 q1 j hj
  | 15, _ => exact Tr.run15 q0 q1 j hj
  | 16, _ => exact Tr.run16 q0 q1 j hj
  | 17, _ => exact Tr.run17 q0 q1 j hj
  | 18, _ => exact Tr.run18 q0 q1 j hj
  | 19, _ => exact Tr.run19 q0 q1 j hj
  | _ + 20, h => exact absurd h (by omega)
/-- names for the errors that the variables hold -/
def errRho (aE : Nat → Addr) : Rho := ⟨[], fun i => .pointer (some (aE i))⟩
theorem errEE {w0 : World} {base : Nat} {aE : Nat → Addr} (hS : EnvS w0 base aE) : EE w0 base (errRho aE) Tr.envE := by
  have key : ∀ i g, sentG[i]? = some g → ∃ u, inst (errRho aE) (.iface 143 (.opq i)) = some u ∧ w0.cell? ⟨g, 0, none⟩ = some u ∧ g < base := fun i g hi => ⟨_, rfl, hS.at_ i g hi, hS.lt g (List.mem_of_getElem? hi)⟩
  intro g v hv
  unfold Tr.envE at hv
  simp only [lookE] at hv
  split at hv
  · rename_i hb
    cases hv
    obtain rfl := beqT hb
    exact key 0 _ rfl
  split at hv
  · rename_i hb
    cases hv
    obtain rfl := beqT hb
    exact key 1 _ rfl
  split at hv
  · rename_i hb
    cases hv
    obtain rfl := beqT hb
    exact key 2 _ rfl
  split at hv
  · rename_i hb
    cases hv
    obtain rfl := beqT hb
    exact key 3 _ rfl
  split at hv
  · rename_i hb
    cases hv
    obtain rfl := beqT hb
    exact key 4 _ rfl
  split at hv
  · rename_i hb
    cases hv
    obtain rfl := beqT hb
    exact key 5 _ rfl
  split at hv
  · rename_i hb
    cases hv
    obtain rfl := beqT hb
    exact key 6 _ rfl
  split at hv
  · rename_i hb
    cases hv
    obtain rfl := beqT hb
    exact key 7 _ rfl
  split at hv
  · rename_i hb
    cases hv
    obtain rfl := beqT hb
    exact key 8 _ rfl
  split at hv
  · rename_i hb
    cases hv
    obtain rfl := beqT hb
    exact key 9 _ rfl
  split at hv
  · rename_i hb
    cases hv
    obtain rfl := beqT hb
    exact key 10 _ rfl
  split at hv
  · rename_i hb
    cases hv
    obtain rfl := beqT hb
    exact key 11 _ rfl
  split at hv
  · rename_i hb
    cases hv
    obtain rfl := beqT hb
    exact key 12 _ rfl
  split at hv
  · rename_i hb
    cases hv
    obtain rfl := beqT hb
    exact key 13 _ rfl
  split at hv
  · rename_i hb
    cases hv
    obtain rfl := beqT hb
    exact key 14 _ rfl
  split at hv
  · rename_i hb
    cases hv
    obtain rfl := beqT hb
    exact key 15 _ rfl
  split at hv
  · rename_i hb
    cases hv
    obtain rfl := beqT hb
    exact key 16 _ rfl
  cases hv
theorem errOPQ {w0 : World} {base : Nat} {aE : Nat → Addr} (hS : EnvS w0 base aE) : OPQ w0 base (errRho aE) := ⟨aE, fun _ _ => rfl, hS.blk, hS.ne⟩
theorem trees_c {w0 : World} {base : Nat} {aE : Nat → Addr} (hS : EnvS w0 base aE) (n0 n1 : Int) : FnC Tryd.prog 3 #[.int .i64 n0, .int .i64 n1] (WA w0 base []) (fun _ : Unit => .bool true) (fun _ => WA w0 base []) := by
  obtain ⟨i, hi, ei⟩ := numI_ok n0 (show 0 < 20 by decide)
  obtain ⟨j, hj, ej⟩ := numI_ok n1 (show 0 < 5 by decide)
  have hC1 : ∀ ro T nx, GOk Tryd.prog Tr.envE 13 [.lit (.int .i64 n0), .lit (.int .i64 (.ofNat 20))] ro T nx (.ok (.val (.lit (.int .i64 (.ofNat i)))) T nx) := fun ro T nx => by
    have := number_ok Tr.envE n0 20 (by decide) (by decide) ro T nx
    rw [ei] at this
    exact this
  have hC2 : ∀ ro T nx, GOk Tryd.prog Tr.envE 13 [.lit (.int .i64 n1), .lit (.int .i64 (.ofNat 5))] ro T nx (.ok (.val (.lit (.int .i64 (.ofNat j)))) T nx) := fun ro T nx => by
    have := number_ok Tr.envE n1 5 (by decide) (by decide) ro T nx
    rw [ej] at this
    exact this
  exact okT_c (vs := [.int .i64 n0, .int .i64 n1]) (Tr.g3_ok _ _ _ _ hC1 hC2 [] .nil 1) (treeRuns _ _ i j hi hj) (errRho aE) (errEE hS) (errOPQ hS) (fun _ _ => rfl)
end Go.Proofs.YtggoogbloaennaaDoor
