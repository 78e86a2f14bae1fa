/-
  Proved here: regions that draw their order, in which two effects may come in either order: plans that fork. No program stands here.
-/
import Derived.Test.YtfbenelagdcdgaaGreatDoorMg
namespace Go.SX
open Go.RowKit
section
variable {P : Program} {ops : Array Oper} {Q : Exit → Act → World → Prop} {md : Region.Mode} {S : World → Prop}
inductive Pl where
  | done
  | step (i : Nat) (k : Kd) (r : Pl)
  | fork (i j : Nat) (ri rj : Pl)
end
section
variable {P : Program} {ops : Array Oper} {n : Nat} {D : List Deferred} {l l' : Fr} {W W' S : World → Prop} {o : Oper} {d : Nat} {v : Value} {Q : Exit → Act → World → Prop} {r ri rj : Pl} {pend : List Nat} {i j : Nat}
end
/-- how often something stands in a list -/
noncomputable def cnt {α : Type} (x : α) : List α → Nat
  | [] => 0
  | y :: r => (open Classical in if y = x then 1 else 0) + cnt x r
theorem cnt_nil {α : Type} (x : α) : cnt x [] = 0 := rfl
theorem cnt_cons {α : Type} (x y : α) (r : List α) : cnt x (y :: r) = (open Classical in if y = x then 1 else 0) + cnt x r := rfl
theorem cnt_append {α : Type} (x : α) : ∀ (a b : List α), cnt x (a ++ b) = cnt x a + cnt x b
  | [], b => by rw [cnt_nil, Nat.zero_add]; rfl
  | y :: r, b => by rw [List.cons_append, cnt_cons, cnt_cons, cnt_append x r b, Nat.add_assoc]
theorem perm_cnt {α : Type} {a b : List α} (h : ∀ x, cnt x a = cnt x b) : a.Perm b := by
  classical
  refine List.perm_iff_count.2 fun x => ?_
  have e : ∀ l : List α, List.count x l = cnt x l := by
    intro l
    induction l with
    | nil => rfl
    | cons y r ih => rw [List.count_cons, cnt_cons, ih, Nat.add_comm]; simp
  rw [e, e, h]
end Go.SX
