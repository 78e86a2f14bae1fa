/-
  Proved here: copies of nodes in rows that a call owns, as plain values. No program stands here.
-/
import Derived.Test.YtgijpgkckiknjaaGreatDoorTrQ
import Derived.Test.YtgijpgkckiknjaaGreatDoorCkS
namespace Go.Ck
open Go.SX
open Go.Tr (ndA)
variable {w0 w : World} {base : Nat}
theorem kids_A {its ds : List It} (hw : WA w0 base its w) {i e c : Nat} {g : Option Nat} {ks : List Int} (hi : its[i]? = some (.row g c ks.length e 1 (ks.map iv))) (hin : ∀ z ∈ ks, inI z) (hm : It.row g c ks.length e 1 (ks.map iv) ∈ ds) (hb : ks.length ≤ 9223372036854775807) :
    SlA 1 intA (See w0 base ds) (rv g ks.length c) ks := by
  refine row_sl hm (by simp) (fun h => ?_) (fun _ _ h => .inr h) ⟨hb, (row_len (hw.get hi)).2⟩ (fun q z hz => ?_)
  · cases g with
    | some b => rfl
    | none =>
      have := (row_none2 (hw.get hi)).1
      omega
  · exact ⟨Go.Tr.map_A hz, hin z (List.mem_of_getElem? hz)⟩
def NdsF (w0 : World) (base : Nat) (rs : List It) (cells : List Value) (l : List Nd) : Prop := cells.length = l.length * 5 ∧ ∀ (i : Nat) (x : Nd), l[i]? = some x → ndA (See w0 base rs) ((cells.drop (i * 5)).take 5) x
theorem NdsF.next {rs : List It} {cells : List Value} {l : List Nd} (h : NdsF w0 base rs cells l) {y : Nd} {five : List Value} {r : It} (h5 : five.length = 5) (hy : ndA (See w0 base (r :: rs)) five y) : NdsF w0 base (r :: rs) (cells ++ five) (l ++ [y]) := by
  refine ⟨by rw [List.length_append, List.length_append, h.1, h5]; simp; omega, fun i x hx => ?_⟩
  rcases Nat.lt_or_ge i l.length with hi | hi
  · rw [List.getElem?_append_left hi] at hx
    have hle : i * 5 + 5 ≤ cells.length := by rw [h.1]; omega
    rw [List.drop_append_of_le_length (by omega), List.take_append_of_le_length (by rw [List.length_drop]; omega)]
    exact Kept.mono (See.more fun it hit => List.mem_cons_of_mem _ hit) (h.2 i x hx)
  · rw [List.getElem?_append_right hi] at hx
    have hz : i - l.length = 0 := by
      have := (List.getElem?_eq_some_iff.1 hx).1
      simpa using this
    rw [hz] at hx
    obtain rfl : y = x := by simpa using hx
    have e : i = l.length := by omega
    subst e
    rw [← h.1, List.drop_left, List.take_of_length_le (by omega)]
    exact hy
theorem NdsF.lies {rs : List It} {cells : List Value} {l : List Nd} (h : NdsF w0 base rs cells l) {its : List It} (hw : WA w0 base its w) (hs : ∀ it ∈ rs, it ∈ its) {j e c : Nat} {g : Option Nat} (hj : its[j]? = some (.row g c l.length e 5 cells)) : SlAt 5 ndA (Lies w w.heap.size) (g.map fun b => ⟨b, 0, none⟩) l :=
  Go.Tr.row_at hw hj rfl (by decide) fun i z hz => Kept.mono (fun a c q => See.lies hw a c (See.more hs a c q)) (h.2 i z hz)
theorem kids_in {M : Rd} {ak : Option Addr} {ks : List Int} (h : SlAt 1 intA M ak ks) : ∀ z ∈ ks, inI z := fun z hz => by
  obtain ⟨i, hi⟩ := List.mem_iff_getElem?.1 hz
  obtain ⟨_, _, _, _, _, _, h2⟩ := h i z hi
  exact h2
/-- functions in a row, their parts in rows that are owned -/
def FnsF (w0 : World) (base : Nat) (rs : List It) (cells : List Value) (l : List Fc) : Prop := cells.length = l.length * 6 ∧ ∀ (i : Nat) (x : Fc), l[i]? = some x → fnA (See w0 base rs) ((cells.drop (i * 6)).take 6) x
theorem FnsF.next {rs : List It} {cells : List Value} {l : List Fc} (h : FnsF w0 base rs cells l) {y : Fc} {six : List Value} {r1 r2 : It} (h6 : six.length = 6) (hy : fnA (See w0 base (r1 :: r2 :: rs)) six y) : FnsF w0 base (r1 :: r2 :: rs) (cells ++ six) (l ++ [y]) := by
  refine ⟨by rw [List.length_append, List.length_append, h.1, h6]; simp; omega, fun i x hx => ?_⟩
  rcases Nat.lt_or_ge i l.length with hi | hi
  · rw [List.getElem?_append_left hi] at hx
    have hle : i * 6 + 6 ≤ cells.length := by rw [h.1]; omega
    rw [List.drop_append_of_le_length (by omega), List.take_append_of_le_length (by rw [List.length_drop]; omega)]
    exact Kept.mono (See.more fun it hit => List.mem_cons_of_mem _ (List.mem_cons_of_mem _ hit)) (h.2 i x hx)
  · rw [List.getElem?_append_right hi] at hx
    have hz : i - l.length = 0 := by
      have := (List.getElem?_eq_some_iff.1 hx).1
      simpa using this
    rw [hz] at hx
    obtain rfl : y = x := by simpa using hx
    have e : i = l.length := by omega
    subst e
    rw [← h.1, List.drop_left, List.take_of_length_le (by omega)]
    exact hy
theorem FnsF.lies {rs : List It} {cells : List Value} {l : List Fc} (h : FnsF w0 base rs cells l) {its : List It} (hw : WA w0 base its w) (hs : ∀ it ∈ rs, it ∈ its) {j e c : Nat} {g : Option Nat} (hj : its[j]? = some (.row g c l.length e 6 cells)) : SlAt 6 fnA (Lies w w.heap.size) (g.map fun b => ⟨b, 0, none⟩) l :=
  Go.Tr.row_at hw hj rfl (by decide) fun i z hz => Kept.mono (fun a c q => See.lies hw a c (See.more hs a c q)) (h.2 i z hz)
theorem NdsF.liesM {rs : List It} {cells : List Value} {l : List Nd} (h : NdsF w0 base rs cells l) {its : List It} (hw : WA w0 base its w) (hs : ∀ it ∈ rs, it ∈ its) {e c : Nat} {g : Option Nat} (hm : It.row g c l.length e 5 cells ∈ its) : SlAt 5 ndA (Lies w w.heap.size) (g.map fun b => ⟨b, 0, none⟩) l := by
  obtain ⟨j, hj⟩ := List.mem_iff_getElem?.1 hm
  exact h.lies hw hs hj
theorem texts_M {its : List It} (hw : WA w0 base its w) {e c : Nat} {g : Option Nat} {ks : List (List UInt8)} (hm : It.row g c ks.length e 1 (ks.map str) ∈ its) : SlAt 1 strA (Lies w w.heap.size) (g.map fun b => ⟨b, 0, none⟩) ks := by
  obtain ⟨j, hj⟩ := List.mem_iff_getElem?.1 hm
  exact Go.Tr.row_at hw hj rfl (by decide) (fun i z h => Go.Tr.map_A h)
/-- instructions in a row -/
def insR (l : List Ins) : List Value := l.flatMap insCs
theorem insR_len (l : List Ins) : (insR l).length = l.length * 4 := by
  induction l with
  | nil => rfl
  | cons x r ih => rw [insR, List.flatMap_cons, List.length_append, List.length_cons, ← insR, ih]; show 4 + _ = _; omega
theorem insR_at : ∀ {l : List Ins} {i : Nat} {z : Ins}, l[i]? = some z → ((insR l).drop (i * 4)).take 4 = insCs z
  | [], _, _, h => by cases h
  | x :: r, 0, z, h => by cases h; rfl
  | x :: r, i + 1, z, h => by
    have := insR_at (l := r) (i := i) (z := z) h
    rw [show insR (x :: r) = insCs x ++ insR r from rfl, show (i + 1) * 4 = (insCs x).length + i * 4 by show _ = 4 + _; omega, ← List.drop_drop, List.drop_left]
    exact this
theorem code_A {its ds : List It} (hw : WA w0 base its w) {i e c : Nat} {g : Option Nat} {ks : List Ins} (hi : its[i]? = some (.row g c ks.length e 4 (insR ks))) (hin : ∀ z ∈ ks, inI z.op ∧ inI z.a ∧ inI z.b ∧ inI z.pos) (hm : It.row g c ks.length e 4 (insR ks) ∈ ds) (hb : ks.length ≤ 9223372036854775807) :
    SlA 4 insA (See w0 base ds) (rv g ks.length c) ks := by
  refine row_sl hm (insR_len ks) (fun h => ?_) (fun _ _ h => .inr h) ⟨hb, (row_len (hw.get hi)).2⟩ (fun q z hz => ?_)
  · cases g with
    | some b => rfl
    | none =>
      have := (row_none2 (hw.get hi)).1
      omega
  · exact ⟨insR_at hz, hin z (List.mem_of_getElem? hz)⟩
theorem texts_A {its ds : List It} (hw : WA w0 base its w) {i e c : Nat} {g : Option Nat} {ks : List (List UInt8)} (hi : its[i]? = some (.row g c ks.length e 1 (ks.map str))) (hm : It.row g c ks.length e 1 (ks.map str) ∈ ds) (hb : ks.length ≤ 9223372036854775807) :
    SlA 1 strA (See w0 base ds) (rv g ks.length c) ks := by
  refine row_sl hm (by simp) (fun h => ?_) (fun _ _ h => .inr h) ⟨hb, (row_len (hw.get hi)).2⟩ (fun q z hz => ?_)
  · cases g with
    | some b => rfl
    | none =>
      have := (row_none2 (hw.get hi)).1
      omega
  · exact Go.Tr.map_A hz
theorem insR_take {l : List Ins} {q : Nat} {i : Ins} (h : l[q]? = some i) : insR (l.take (q + 1)) = insR (l.take q) ++ insCs i := by
  unfold insR
  rw [List.take_add_one, h, List.flatMap_append]
  simp
theorem code_in {M : Rd} {ak : Option Addr} {ks : List Ins} (h : SlAt 4 insA M ak ks) : ∀ z ∈ ks, inI z.op ∧ inI z.a ∧ inI z.b ∧ inI z.pos := fun z hz => by
  obtain ⟨i, hi⟩ := List.mem_iff_getElem?.1 hz
  obtain ⟨_, _, _, _, _, _, h2⟩ := h i z hi
  exact h2
end Go.Ck
