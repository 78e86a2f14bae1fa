/-
  Proved here: plain: which trees, texts and programs are light. No program stands here.
-/
import Derived.Test.YtgijpgkckiknjaaGreatDoorCkP
namespace Go.Ck
open Go.SX
def treeB (l : List Nd) : Prop := l.length ≤ 300 ∧ ∀ x ∈ l, x.kids.length ≤ 300 ∧ x.s.length ≤ 300
def textsB (ss : List (List UInt8)) (m n : Nat) : Prop := ss.length ≤ m ∧ ∀ s ∈ ss, s.length ≤ n
def lightB (p : Pg) : Prop := (p.funcs.length ≤ 20 ∧ treeB p.consts ∧ textsB p.globals 50 100 ∧ textsB p.names 50 100) ∧ ∀ f ∈ p.funcs, f.code.length ≤ 300 ∧ f.name.length ≤ 100 ∧ textsB f.names 50 100
noncomputable instance (l : List Nd) : Decidable (treeB l) := Classical.propDecidable _
noncomputable instance (ss : List (List UInt8)) (m n : Nat) : Decidable (textsB ss m n) := Classical.propDecidable _
noncomputable instance (p : Pg) : Decidable (lightB p) := Classical.propDecidable _
theorem take_next {α : Type} {Q : α → Prop} {l : List α} {j : Nat} {x : α} (h : ∀ y ∈ l.take j, Q y) (hx : l[j]? = some x) (hq : Q x) : ∀ y ∈ l.take (j + 1), Q y := fun y hy => by
  rw [List.take_add_one, hx] at hy
  rcases List.mem_append.1 hy with hy | hy
  · exact h y hy
  · obtain rfl : y = x := by simpa using hy
    exact hq
theorem take_all {α : Type} {Q : α → Prop} {l : List α} {j : Nat} (h : ∀ y ∈ l.take j, Q y) (hj : l.length ≤ j) : ∀ y ∈ l, Q y := by rwa [List.take_of_length_le hj] at h
end Go.Ck
