/-
  Proved here: plain: the checker of nodes, one node on. No program stands here.
-/
import Derived.Test.YtickdimknfeddaaGreatDoorTrQ
namespace Go.Tr
open Go.SX
/-- what is known of the nodes ahead -/
def Okay (l : List Nd) (j : Nat) : Prop := Ahead l j ∧ ∀ (q : Nat) (x : Nd), q < j → l[q]? = some x → x.op = 45 → 0 < x.kids.length
theorem Okay.zero (l : List Nd) : Okay l 0 := ⟨fun j _ h => absurd h (Nat.not_lt_zero j), fun q _ h => absurd h (Nat.not_lt_zero q)⟩
theorem fresh_in : ∀ {ks : List Int} {i : Nat} {u v : List Bool}, fresh ks i u = some v → ∀ k ∈ ks, 0 ≤ k ∧ k < (i : Int)
  | [], _, _, _, _, k, hk => by cases hk
  | a :: r, i, u, v, h, k, hk => by
    unfold fresh at h
    split at h
    · cases h
    · next hn =>
      rcases List.mem_cons.1 hk with rfl | hk
      · omega
      · exact fresh_in h k hk
theorem kids_def {l : List Nd} {n : Nat} {x : Nd} (h : kidsB l n x = true) (h2 : x.op = 45) : 0 < x.kids.length := by
  unfold kidsB at h
  repeat (first | rw [if_neg (by omega)] at h | rw [if_pos h2] at h)
  simp only [Bool.and_eq_true, decide_eq_true_eq] at h
  exact h.1.1
theorem fits_def {l : List Nd} {B : List UInt8 → Bool} {n : Nat} {x : Nd} (h : fitsB l B n x = true) (h2 : x.op = 45) : 0 < x.kids.length := by
  unfold fitsB at h
  rw [if_pos (by omega)] at h
  rw [Bool.and_eq_true] at h
  exact kids_def h.2 h2
theorem drop_at {l : List Nd} {j : Nat} {x : Nd} (hx : l[j]? = some x) : l.drop j = x :: l.drop (j + 1) := by
  obtain ⟨h1, h2⟩ := List.getElem?_eq_some_iff.1 hx
  rw [List.drop_eq_getElem_cons h1, h2]
variable {l : List Nd} {B : List UInt8 → Bool} {j : Nat} {x : Nd} {u v : List Bool}
theorem Okay.next (h : Okay l j) (hx : l[j]? = some x) (hf : fresh x.kids j u = some v) {n : Nat} (hb : fitsB l B n x = true) : Okay l (j + 1) := by
  refine ⟨fun q y hq hy => ?_, fun q y hq hy => ?_⟩
  · rcases Nat.lt_or_ge q j with h1 | h1
    · exact h.1 q y h1 hy
    · obtain rfl : q = j := by omega
      rw [hx] at hy
      cases hy
      exact fresh_in hf
  · rcases Nat.lt_or_ge q j with h1 | h1
    · exact h.2 q y h1 hy
    · obtain rfl : q = j := by omega
      rw [hx] at hy
      cases hy
      exact fits_def hb
theorem scan_none (hx : l[j]? = some x) (h : fresh x.kids j u = none) : scan l B (l.drop j) j u = some j := by
  rw [drop_at hx, scan, h]
theorem scan_bad (hx : l[j]? = some x) (h : fresh x.kids j u = some v) (h2 : x.n ≠ 0 ∨ fitsB l B (j + 1) x = false) : scan l B (l.drop j) j u = some j := by
  rw [drop_at hx, scan, h]
  exact if_pos h2
theorem scan_next (hx : l[j]? = some x) (h : fresh x.kids j u = some v) (h2 : x.n = 0) (h3 : fitsB l B (j + 1) x = true) : scan l B (l.drop (j + 1)) (j + 1) v = scan l B (l.drop j) j u := by
  rw [drop_at hx, scan, h]
  exact (if_neg (by rw [h2, h3]; simp)).symm
theorem used_next (hx : l[j]? = some x) (h : fresh x.kids j u = some v) : used (l.drop (j + 1)) (j + 1) v = used (l.drop j) j u := by
  rw [drop_at hx, used, h]; rfl
theorem scan_end (h : l.length ≤ j) : scan l B (l.drop j) j u = none := by rw [List.drop_of_length_le h]; rfl
theorem used_end (h : l.length ≤ j) : used (l.drop j) j u = u := by rw [List.drop_of_length_le h]; rfl
theorem valid_some {i : Nat} (h : scan l B l 0 (List.replicate l.length false) = some i) : valid l B = some i := by
  unfold valid; rw [h]
theorem valid_none (h : scan l B l 0 (List.replicate l.length false) = none) (h2 : used l 0 (List.replicate l.length false) = u) :
    valid l B = if l.length = 0 ∨ (nd l ((l.length : Int) - 1)).op ≠ 47 ∨ false ∈ u.take (l.length - 1) ∨ places l l.length ((l.length : Int) - 1) true false false = false then some (l.length - 1) else none := by
  unfold valid; rw [h, h2]
theorem blk_lies {w0 w : World} {base : Nat} {its : List It} {i b T : Nat} {cs : List Value} (hw : WA w0 base its w) (hi : its[i]? = some (blk b cs T)) : Lies w w.heap.size ⟨b, 0, none⟩ cs := ⟨fun j u hj => by
  have h := hw.cell hi hj
  have e : (Addr.add ⟨b, 0, none⟩ j) = ⟨b, j, none⟩ := by rw [Addr.add_mid, Nat.zero_add]
  rw [e]
  exact ⟨by have := World.block_lt_of_cell? _ _ h; exact this, h⟩⟩
/-- a variable of the program's that is there -/
structure EnvV (w0 : World) (base g : Nat) (e : Value) : Prop where
  at_ : w0.cell? ⟨g, 0, none⟩ = some e
  lt : g < base
  one : e.oneCell' = true
end Go.Tr
