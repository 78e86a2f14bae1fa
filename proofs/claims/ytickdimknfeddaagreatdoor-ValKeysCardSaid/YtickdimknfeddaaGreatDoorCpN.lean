/-
  Proved here: copies of nodes in rows that a call owns, as plain values. No program stands here.
-/
import Derived.Test.YtickdimknfeddaaGreatDoorTrQ
import Derived.Test.YtickdimknfeddaaGreatDoorKyU
namespace Go.Ck
open Go.SX
open Go.Tr (ndA Nd)
variable {w0 w : World} {base : Nat}
theorem kids_A {its ds : List It} (hw : WA w0 base its w) {i e c : Nat} {g : Option Nat} {ks : List Int} (hi : its[i]? = some (.row g c ks.length e 1 (ks.map iv))) (hin : ∀ z ∈ ks, inI z) (hm : It.row g c ks.length e 1 (ks.map iv) ∈ ds) (hb : ks.length ≤ 9223372036854775807) :
    SlA 1 intA (See w0 base ds) (rv g ks.length c) ks := by
  refine row_sl hm (by simp) (fun h => ?_) (fun _ _ h => .inr h) ⟨hb, (row_len (hw.get hi)).2⟩ (fun q z hz => ?_)
  · cases g with
    | some b => rfl
    | none =>
      have := (row_none2 (hw.get hi)).1
      omega
  · exact ⟨Go.Tr.map_A hz, hin z (List.mem_of_getElem? hz)⟩
def NdsF (w0 : World) (base : Nat) (rs : List It) (cells : List Value) (l : List Nd) : Prop := cells.length = l.length * 5 ∧ ∀ (i : Nat) (x : Nd), l[i]? = some x → ndA (See w0 base rs) ((cells.drop (i * 5)).take 5) x
theorem NdsF.next {rs : List It} {cells : List Value} {l : List Nd} (h : NdsF w0 base rs cells l) {y : Nd} {five : List Value} {r : It} (h5 : five.length = 5) (hy : ndA (See w0 base (r :: rs)) five y) : NdsF w0 base (r :: rs) (cells ++ five) (l ++ [y]) := by
  refine ⟨by rw [List.length_append, List.length_append, h.1, h5]; simp; omega, fun i x hx => ?_⟩
  rcases Nat.lt_or_ge i l.length with hi | hi
  · rw [List.getElem?_append_left hi] at hx
    have hle : i * 5 + 5 ≤ cells.length := by rw [h.1]; omega
    rw [List.drop_append_of_le_length (by omega), List.take_append_of_le_length (by rw [List.length_drop]; omega)]
    exact Kept.mono (See.more fun it hit => List.mem_cons_of_mem _ hit) (h.2 i x hx)
  · rw [List.getElem?_append_right hi] at hx
    have hz : i - l.length = 0 := by
      have := (List.getElem?_eq_some_iff.1 hx).1
      simpa using this
    rw [hz] at hx
    obtain rfl : y = x := by simpa using hx
    have e : i = l.length := by omega
    subst e
    rw [← h.1, List.drop_left, List.take_of_length_le (by omega)]
    exact hy
theorem NdsF.lies {rs : List It} {cells : List Value} {l : List Nd} (h : NdsF w0 base rs cells l) {its : List It} (hw : WA w0 base its w) (hs : ∀ it ∈ rs, it ∈ its) {j e c : Nat} {g : Option Nat} (hj : its[j]? = some (.row g c l.length e 5 cells)) : SlAt 5 ndA (Lies w w.heap.size) (g.map fun b => ⟨b, 0, none⟩) l :=
  Go.Tr.row_at hw hj rfl (by decide) fun i z hz => Kept.mono (fun a c q => See.lies hw a c (See.more hs a c q)) (h.2 i z hz)
theorem kids_in {M : Rd} {ak : Option Addr} {ks : List Int} (h : SlAt 1 intA M ak ks) : ∀ z ∈ ks, inI z := fun z hz => by
  obtain ⟨i, hi⟩ := List.mem_iff_getElem?.1 hz
  obtain ⟨_, _, _, _, _, _, h2⟩ := h i z hi
  exact h2
theorem NdsF.liesM {rs : List It} {cells : List Value} {l : List Nd} (h : NdsF w0 base rs cells l) {its : List It} (hw : WA w0 base its w) (hs : ∀ it ∈ rs, it ∈ its) {e c : Nat} {g : Option Nat} (hm : It.row g c l.length e 5 cells ∈ its) : SlAt 5 ndA (Lies w w.heap.size) (g.map fun b => ⟨b, 0, none⟩) l := by
  obtain ⟨j, hj⟩ := List.mem_iff_getElem?.1 hm
  exact h.lies hw hs hj
end Go.Ck

namespace Go.Ky
open Go.SX Go.RowKit
open Go.Tr (ndA Nd)
open Go.Ck (NdsF)
variable {w0 w : World} {base : Nat}
theorem nds_more {rs rs' : List It} {cells : List Value} {l : List Nd} (h : NdsF w0 base rs cells l) (hs : ∀ it ∈ rs, it ∈ rs') : NdsF w0 base rs' cells l := ⟨h.1, fun i x hx => Kept.mono (See.more hs) (h.2 i x hx)⟩
theorem nds_snoc {rs : List It} {cells : List Value} {l : List Nd} (h : NdsF w0 base rs cells l) {y : Nd} {five : List Value} (h5 : five.length = 5) (hy : ndA (See w0 base rs) five y) : NdsF w0 base rs (cells ++ five) (l ++ [y]) := by
  refine ⟨by rw [List.length_append, List.length_append, h.1, h5]; simp; omega, fun i x hx => ?_⟩
  rcases Nat.lt_or_ge i l.length with hi | hi
  · rw [List.getElem?_append_left hi] at hx
    have hle : i * 5 + 5 ≤ cells.length := by rw [h.1]; omega
    rw [List.drop_append_of_le_length (by omega), List.take_append_of_le_length (by rw [List.length_drop]; omega)]
    exact h.2 i x hx
  · rw [List.getElem?_append_right hi] at hx
    have hz : i - l.length = 0 := by
      have := (List.getElem?_eq_some_iff.1 hx).1
      simpa using this
    rw [hz] at hx
    obtain rfl : y = x := by simpa using hx
    have e : i = l.length := by omega
    subst e
    rw [← h.1, List.drop_left, List.take_of_length_le (by omega)]
    exact hy
theorem cells_to {a : Addr} {l : List Nd} (h : SlAt 5 ndA (Lies w0 base) (some a) l) : ∀ k, k ≤ l.length → ∃ cells, NdsF w0 base [] cells (l.take k) ∧ cells.all (·.oneCell') = true ∧ ∀ (q : Nat) u, cells[q]? = some u → a.block < base ∧ w0.cell? (a.add q) = some u
  | 0, _ => ⟨[], ⟨rfl, fun i x hx => by simp at hx⟩, rfl, fun q u hu => by simp at hu⟩
  | k + 1, hk => by
    obtain ⟨cells, hn, h1, hc⟩ := cells_to h k (by omega)
    obtain ⟨x, hx⟩ : ∃ x, l[k]? = some x := ⟨_, List.getElem?_eq_getElem (by omega)⟩
    obtain ⟨a2, cs, e, h5, hL, hA⟩ := h k x hx
    cases e
    have hA2 := hA
    obtain ⟨vk, rfl, hks, hin⟩ := hA2
    obtain ⟨ak, ck, rfl, _⟩ := hks.sl
    refine ⟨cells ++ [.int .i64 x.op, .int .i64 x.n, .int .i64 x.pos, str x.s, .slice ak x.kids.length ck], ?_, ?_, fun q u hu => ?_⟩
    · rw [List.take_add_one, hx]
      exact nds_snoc hn rfl (Kept.mono See.old hA)
    · rw [List.all_append, h1]; rfl
    · have hlen : cells.length = k * 5 := by rw [hn.1, List.length_take, Nat.min_eq_left (by omega)]
      rcases Nat.lt_or_ge q cells.length with hq | hq
      · rw [List.getElem?_append_left hq] at hu
        exact hc q u hu
      · rw [List.getElem?_append_right hq] at hu
        obtain ⟨h2, h3⟩ := hL.at_ _ u hu
        rw [add_block] at h2
        rw [Addr.add_add, show k * 5 + (q - cells.length) = q by omega] at h3
        exact ⟨h2, h3⟩
theorem cells_of {a : Addr} {l : List Nd} (h : SlAt 5 ndA (Lies w0 base) (some a) l) : ∃ cells, NdsF w0 base [] cells l ∧ cells.all (·.oneCell') = true ∧ ∀ (q : Nat) u, cells[q]? = some u → a.block < base ∧ w0.cell? (a.add q) = some u := by
  obtain ⟨cells, h1, h2⟩ := cells_to h l.length (Nat.le_refl _)
  rw [List.take_length] at h1
  exact ⟨cells, h1, h2⟩
/-- the two nodes behind an expression's -/
@[reducible] def tailN (l : List Nd) : List Nd := l ++ [⟨35, 0, 0, [], [(l.length : Int) - 1]⟩, ⟨47, 0, 0, [], [(l.length : Int)]⟩]
@[reducible] def tailC (cells : List Value) (g1 c1 g2 c2 : Nat) : List Value := cells ++ [.int .i64 35, .int .i64 0, .int .i64 0, str [], rv (some g1) 1 c1, .int .i64 47, .int .i64 0, .int .i64 0, str [], rv (some g2) 1 c2]
theorem nds_two {its : List It} (hw : WA w0 base its w) {rs : List It} {cells : List Value} {l : List Nd} (h : NdsF w0 base rs cells l) (h3 : l.length ≤ 300) {i j g1 g2 c1 c2 e : Nat}
    (hi : its[i]? = some (.row (some g1) c1 1 e 1 ([(l.length : Int) - 1].map iv))) (hj : its[j]? = some (.row (some g2) c2 1 e 1 ([(l.length : Int)].map iv))) :
    NdsF w0 base (.row (some g2) c2 1 e 1 ([(l.length : Int)].map iv) :: .row (some g1) c1 1 e 1 ([(l.length : Int) - 1].map iv) :: rs) (tailC cells g1 c1 g2 c2) (tailN l) := by
  have hb : ∀ z ∈ [(l.length : Int)], inI z := fun z hz => by
    rw [List.mem_singleton.1 hz]; unfold inI; omega
  have ha : ∀ z ∈ [(l.length : Int) - 1], inI z := fun z hz => by
    rw [List.mem_singleton.1 hz]; unfold inI; omega
  have h0 : ∀ k : Int, k = 0 ∨ k = 35 ∨ k = 47 → inI k := fun k hk => by unfold inI; omega
  have h1 := nds_snoc (nds_more h (rs' := .row (some g2) c2 1 e 1 ([(l.length : Int)].map iv) :: .row (some g1) c1 1 e 1 ([(l.length : Int) - 1].map iv) :: rs) (fun it hm => List.mem_cons_of_mem _ (List.mem_cons_of_mem _ hm))) (y := ⟨35, 0, 0, [], [(l.length : Int) - 1]⟩) (five := [.int .i64 35, .int .i64 0, .int .i64 0, str [], rv (some g1) 1 c1]) rfl ⟨_, rfl, Go.Ck.kids_A hw hi ha (List.mem_cons_of_mem _ List.mem_cons_self) (by simp), h0 35 (.inr (.inl rfl)), h0 0 (.inl rfl), h0 0 (.inl rfl)⟩
  have h2 := nds_snoc h1 (y := ⟨47, 0, 0, [], [(l.length : Int)]⟩) (five := [.int .i64 47, .int .i64 0, .int .i64 0, str [], rv (some g2) 1 c2]) rfl ⟨_, rfl, Go.Ck.kids_A hw hj hb List.mem_cons_self (by simp), h0 47 (.inr (.inr rfl)), h0 0 (.inl rfl), h0 0 (.inl rfl)⟩
  rw [List.append_assoc, List.append_assoc] at h2
  exact h2
theorem nds_tail {its : List It} (hw : WA w0 base its w) {rs : List It} {cells : List Value} {l : List Nd} (h : NdsF w0 base rs cells l) (h3 : l.length ≤ 300) {i j g1 g2 c1 c2 e c f : Nat} {g : Option Nat} (hr : ∀ it ∈ rs, it ∈ its)
    (hi : its[i]? = some (.row (some g1) c1 1 e 1 ([(l.length : Int) - 1].map iv))) (hj : its[j]? = some (.row (some g2) c2 1 e 1 ([(l.length : Int)].map iv))) (hm : It.row g c (l.length + 2) f 5 (tailC cells g1 c1 g2 c2) ∈ its) :
    SlAt 5 ndA (Lies w w.heap.size) (g.map fun b => ⟨b, 0, none⟩) (tailN l) := by
  have h2 := nds_two hw h h3 hi hj
  rw [show l.length + 2 = (tailN l).length by simp] at hm
  refine h2.liesM hw (fun it hq => ?_) hm
  rcases List.mem_cons.1 hq with rfl | hq
  · exact List.mem_of_getElem? hj
  · rcases List.mem_cons.1 hq with rfl | hq
    · exact List.mem_of_getElem? hi
    · exact hr it hq
end Go.Ky
