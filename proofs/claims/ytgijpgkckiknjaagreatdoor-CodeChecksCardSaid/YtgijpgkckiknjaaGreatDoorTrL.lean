/-
  Proved here: plain: a constant stands in a tree that may be just if it is one. No program stands here.
-/
import Derived.Test.YtgijpgkckiknjaaGreatDoorTrV
import Derived.Test.YtgijpgkckiknjaaGreatDoorCkP
namespace Go.Tr
open Go.SX
variable {B : List UInt8 → Bool} {op n pos : Int} {s : List UInt8} {ks : List Int}
def leafL (op n : Int) (s : List UInt8) (ks : List Int) : List Nd := [⟨op, n, 0, s, ks⟩, ⟨35, 0, 0, [], [0]⟩, ⟨47, 0, 0, [], [1]⟩]
theorem leaf_rest (h : op = 1 ∨ op = 2 ∨ op = 3 ∨ op = 4 ∨ op = 5) (hn : n = 0) (hf : fitsB (leafL op n s []) B 1 ⟨op, n, 0, s, []⟩ = true) : valid (leafL op n s []) B = none := by
  have h0 : (leafL op n s [])[0]? = some ⟨op, n, 0, s, []⟩ := rfl
  have h1 : (leafL op n s [])[1]? = some ⟨35, 0, 0, [], [0]⟩ := rfl
  have h2 : (leafL op n s [])[2]? = some ⟨47, 0, 0, [], [1]⟩ := rfl
  have f0 : fresh [] 0 [false, false, false] = some [false, false, false] := rfl
  have f1 : fresh [0] 1 [false, false, false] = some [true, false, false] := by decide
  have f2 : fresh [1] 2 [true, false, false] = some [true, true, false] := by decide
  have e1 : fitsB (leafL op n s []) B 2 ⟨35, 0, 0, [], [0]⟩ = true := by
    rcases h with rfl | rfl | rfl | rfl | rfl <;> simp [fitsB, kidsB, exprs, allB, nd, exprB, leafL]
  have e2 : fitsB (leafL op n s []) B 3 ⟨47, 0, 0, [], [1]⟩ = true := by
    simp [fitsB, kidsB, allB, nd, stmtB, leafL]
  have s0 := scan_next (B := B) h0 f0 hn hf
  have s1 := scan_next (B := B) h1 f1 rfl e1
  have s2 := scan_next (B := B) h2 f2 rfl e2
  have u0 := used_next h0 f0
  have u1 := used_next h1 f1
  have u2 := used_next h2 f2
  have hs : scan (leafL op n s []) B (leafL op n s []) 0 (List.replicate (leafL op n s []).length false) = none := by
    refine (s0.symm.trans (s1.symm.trans (s2.symm.trans ?_)))
    rfl
  have hu : used (leafL op n s []) 0 (List.replicate (leafL op n s []).length false) = [true, true, false] := by
    refine (u0.symm.trans (u1.symm.trans (u2.symm.trans ?_)))
    rfl
  rw [valid_none hs hu, if_neg]
  have hp : places (leafL op n s []) (leafL op n s []).length ((leafL op n s []).length - 1) true false false = true := by
    simp [leafL, places, nd]
  rw [hp]
  simp [leafL, nd]
theorem leaf_valid (h : op = 1 ∨ op = 2 ∨ op = 3 ∨ op = 4 ∨ op = 5) : valid (leafL op n s ks) B = none ↔ Ck.leafOk ⟨op, n, pos, s, ks⟩ := by
  have h0 : (leafL op n s ks)[0]? = some ⟨op, n, 0, s, ks⟩ := rfl
  cases ks with
  | cons k r =>
    have f0 : fresh (k :: r) 0 (List.replicate (leafL op n s (k :: r)).length false) = none := by
      unfold fresh
      rw [if_pos]
      omega
    have := valid_some (scan_none (B := B) h0 f0)
    constructor
    · intro e; rw [this] at e; cases e
    · intro e; cases e.2.1
  | nil =>
    by_cases hg : n = 0 ∧ fitsB (leafL op n s []) B 1 ⟨op, n, 0, s, []⟩ = true
    · refine ⟨fun _ => ⟨hg.1, rfl, ?_⟩, fun _ => leaf_rest h hg.1 hg.2⟩
      have hf := hg.2
      rcases h with rfl | rfl | rfl | rfl | rfl <;> simp [fitsB, kidsB] at hf ⊢ <;> exact hf
    · have hb : n ≠ 0 ∨ fitsB (leafL op n s []) B 1 ⟨op, n, 0, s, []⟩ = false := by
        by_cases hn : n = 0
        · right
          cases hq : fitsB (leafL op n s []) B 1 ⟨op, n, 0, s, []⟩ with
          | true => exact absurd ⟨hn, hq⟩ hg
          | false => rfl
        · exact .inl hn
      have := valid_some (scan_bad (B := B) (u := List.replicate (leafL op n s []).length false) h0 (v := List.replicate (leafL op n s []).length false) rfl hb)
      constructor
      · intro e; rw [this] at e; cases e
      · rintro ⟨e1, _, e2⟩
        refine absurd ⟨e1, ?_⟩ hg
        rcases h with rfl | rfl | rfl | rfl | rfl <;> simp [fitsB, kidsB] at e2 ⊢ <;> exact e2
end Go.Tr
