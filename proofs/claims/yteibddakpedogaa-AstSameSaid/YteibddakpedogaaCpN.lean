/-
  Proved here: copies of nodes in rows that a call owns, as plain values. No program stands here.
-/
import Derived.Test.YteibddakpedogaaTrQ
namespace Go.Ck
open Go.SX
open Go.Tr (ndA Nd)
variable {w0 w : World} {base : Nat}
theorem kids_A {its ds : List It} (hw : WA w0 base its w) {i e c : Nat} {g : Option Nat} {ks : List Int} (hi : its[i]? = some (.row g c ks.length e 1 (ks.map iv))) (hin : ∀ z ∈ ks, inI z) (hm : It.row g c ks.length e 1 (ks.map iv) ∈ ds) (hb : ks.length ≤ 9223372036854775807) :
    SlA 1 intA (See w0 base ds) (rv g ks.length c) ks := by
  refine row_sl hm (by simp) (fun h => ?_) (fun _ _ h => .inr h) ⟨hb, (row_len (hw.get hi)).2⟩ (fun q z hz => ?_)
  · cases g with
    | some b => rfl
    | none =>
      have := (row_none2 (hw.get hi)).1
      omega
  · exact ⟨Go.Tr.map_A hz, hin z (List.mem_of_getElem? hz)⟩
def NdsF (w0 : World) (base : Nat) (rs : List It) (cells : List Value) (l : List Nd) : Prop := cells.length = l.length * 5 ∧ ∀ (i : Nat) (x : Nd), l[i]? = some x → ndA (See w0 base rs) ((cells.drop (i * 5)).take 5) x
theorem NdsF.next {rs : List It} {cells : List Value} {l : List Nd} (h : NdsF w0 base rs cells l) {y : Nd} {five : List Value} {r : It} (h5 : five.length = 5) (hy : ndA (See w0 base (r :: rs)) five y) : NdsF w0 base (r :: rs) (cells ++ five) (l ++ [y]) := by
  refine ⟨by rw [List.length_append, List.length_append, h.1, h5]; simp; omega, fun i x hx => ?_⟩
  rcases Nat.lt_or_ge i l.length with hi | hi
  · rw [List.getElem?_append_left hi] at hx
    have hle : i * 5 + 5 ≤ cells.length := by rw [h.1]; omega
    rw [List.drop_append_of_le_length (by omega), List.take_append_of_le_length (by rw [List.length_drop]; omega)]
    exact Kept.mono (See.more fun it hit => List.mem_cons_of_mem _ hit) (h.2 i x hx)
  · rw [List.getElem?_append_right hi] at hx
    have hz : i - l.length = 0 := by
      have := (List.getElem?_eq_some_iff.1 hx).1
      simpa using this
    rw [hz] at hx
    obtain rfl : y = x := by simpa using hx
    have e : i = l.length := by omega
    subst e
    rw [← h.1, List.drop_left, List.take_of_length_le (by omega)]
    exact hy
theorem NdsF.lies {rs : List It} {cells : List Value} {l : List Nd} (h : NdsF w0 base rs cells l) {its : List It} (hw : WA w0 base its w) (hs : ∀ it ∈ rs, it ∈ its) {j e c : Nat} {g : Option Nat} (hj : its[j]? = some (.row g c l.length e 5 cells)) : SlAt 5 ndA (Lies w w.heap.size) (g.map fun b => ⟨b, 0, none⟩) l :=
  Go.Tr.row_at hw hj rfl (by decide) fun i z hz => Kept.mono (fun a c q => See.lies hw a c (See.more hs a c q)) (h.2 i z hz)
theorem kids_in {M : Rd} {ak : Option Addr} {ks : List Int} (h : SlAt 1 intA M ak ks) : ∀ z ∈ ks, inI z := fun z hz => by
  obtain ⟨i, hi⟩ := List.mem_iff_getElem?.1 hz
  obtain ⟨_, _, _, _, _, _, h2⟩ := h i z hi
  exact h2
theorem NdsF.liesM {rs : List It} {cells : List Value} {l : List Nd} (h : NdsF w0 base rs cells l) {its : List It} (hw : WA w0 base its w) (hs : ∀ it ∈ rs, it ∈ its) {e c : Nat} {g : Option Nat} (hm : It.row g c l.length e 5 cells ∈ its) : SlAt 5 ndA (Lies w w.heap.size) (g.map fun b => ⟨b, 0, none⟩) l := by
  obtain ⟨j, hj⟩ := List.mem_iff_getElem?.1 hm
  exact h.lies hw hs hj
end Go.Ck
