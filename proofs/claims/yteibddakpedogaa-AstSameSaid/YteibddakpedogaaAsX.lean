/-
  Proved here: plain: two lists of nodes that are alike but for their places; a node's text turned in memory. No program stands here.
-/
import Derived.Test.YteibddakpedogaaAsS
import Derived.Test.YteibddakpedogaaPaQ
namespace Go.As
open Go.Tr (Nd)
/-- alike, but for places -/
structure Alk (l m : List Nd) : Prop where
  len : m.length = l.length
  at_ : ∀ (q : Nat) x y, l[q]? = some x → m[q]? = some y → y.op = x.op ∧ y.n = x.n ∧ y.s = x.s ∧ y.kids = x.kids
section
variable {l m : List Nd} {x y : Nd} {k : Nat}
theorem Alk.nil : Alk (l.take 0) [] := ⟨by simp, fun q x y h => by simp at h⟩
theorem Alk.next {j : Nat} (h : Alk (l.take j) m) (hx : l[j]? = some x) (hy : y.op = x.op ∧ y.n = x.n ∧ y.s = x.s ∧ y.kids = x.kids) : Alk (l.take (j + 1)) (m ++ [y]) := by
  have hj := (List.getElem?_eq_some_iff.1 hx).1
  have hl := h.len
  rw [List.length_take, Nat.min_eq_left (Nat.le_of_lt hj)] at hl
  have e : l.take (j + 1) = l.take j ++ [x] := by rw [List.take_add_one, hx]; rfl
  rw [e]
  have hl2 : (l.take j).length = j := by rw [List.length_take, Nat.min_eq_left (Nat.le_of_lt hj)]
  refine ⟨by rw [List.length_append, List.length_append, hl, hl2]; rfl, fun q a b ha hb => ?_⟩
  rcases Nat.lt_or_ge q j with hq | hq
  · rw [List.getElem?_append_left (by omega)] at ha hb
    exact h.at_ q a b ha hb
  · rw [List.getElem?_append_right (by omega)] at ha hb
    have hz : q - j = 0 := by
      have := (List.getElem?_eq_some_iff.1 ha).1
      simp only [List.length_singleton] at this
      omega
    rw [hl2, hz] at ha
    rw [hl, hz] at hb
    cases ha; cases hb
    exact hy
theorem Alk.kids (h : Alk l m) : m.map (·.kids) = l.map (·.kids) := by
  refine List.ext_getElem? fun q => ?_
  rw [List.getElem?_map, List.getElem?_map]
  rcases Nat.lt_or_ge q l.length with hq | hq
  · have h1 := h.at_ q _ _ (List.getElem?_eq_getElem hq) (List.getElem?_eq_getElem (by rw [h.len]; exact hq))
    rw [List.getElem?_eq_getElem hq, List.getElem?_eq_getElem (by rw [h.len]; exact hq)]
    exact congrArg some h1.2.2.2
  · rw [List.getElem?_eq_none hq, List.getElem?_eq_none (by rw [h.len]; exact hq)]
theorem TreeF.of_kids (t : TreeF l) (h : m.map (·.kids) = l.map (·.kids)) : TreeF m := by
  have hl : m.length = l.length := by have := congrArg List.length h; simpa using this
  have hf : m.flatMap (·.kids) = l.flatMap (·.kids) := by rw [List.flatMap_def, List.flatMap_def, h]
  refine ⟨by rw [hl]; exact t.pos, ⟨fun i x hx k hk => ?_, by rw [hl, hf]; exact t.ft.perm⟩⟩
  have h1 : (m.map (·.kids))[i]? = some x.kids := by rw [List.getElem?_map, hx]; rfl
  rw [h, List.getElem?_map] at h1
  cases hx2 : l[i]? with
  | none => rw [hx2] at h1; cases h1
  | some y =>
    rw [hx2] at h1
    have e : y.kids = x.kids := Option.some.inj h1
    exact t.ft.kid i y hx2 k (e ▸ hk)
theorem kids_of (h : m.map (·.kids) = l.map (·.kids)) : ∀ (q : Nat) a b, l[q]? = some a → m[q]? = some b → b.kids = a.kids := fun q a b ha hb => by
  have h1 : (m.map (·.kids))[q]? = some b.kids := by rw [List.getElem?_map, hb]; rfl
  rw [h, List.getElem?_map, ha] at h1
  exact (Option.some.inj h1).symm
theorem Alk.same (h : Alk l m) : SameN l m := fun q x y hx hy => by
  obtain ⟨h1, h2, h3, _⟩ := h.at_ q x y hx hy
  exact ⟨h1.symm, h2.symm, h3.symm⟩
theorem Alk.back (h : Alk l m) : SameN m l := fun q x y hx hy => by
  obtain ⟨h1, h2, h3, _⟩ := h.at_ q y x hy hx
  exact ⟨h1, h2, h3⟩
/-- one node's text is turned -/
@[reducible] def Nd.more (y : Nd) : Nd := { y with s := y.s ++ [120] }
theorem turn_kids (hy : m[k]? = some y) : (m.set k (Nd.more y)).map (·.kids) = m.map (·.kids) := by
  rw [List.map_set]
  have h1 : (m.map (·.kids))[k]? = some y.kids := by rw [List.getElem?_map, hy]; rfl
  refine List.ext_getElem? fun q => ?_
  rw [List.getElem?_set]
  split
  · next e =>
    subst e
    rw [h1, if_pos (List.getElem?_eq_some_iff.1 h1).1]
  · rfl
theorem turn_not (h : Alk l m) (hy : m[k]? = some y) : ¬ SameN l (m.set k (Nd.more y)) := fun hs => by
  have hk := (List.getElem?_eq_some_iff.1 hy).1
  obtain ⟨x, hx⟩ : ∃ x, l[k]? = some x := ⟨_, List.getElem?_eq_getElem (by rw [← h.len]; exact hk)⟩
  have h1 := (h.at_ k x y hx hy).2.2.1
  have h2 := (hs k x (Nd.more y) hx (List.getElem?_set_self hk)).2.2
  rw [← h1] at h2
  have := congrArg List.length h2
  simp at this
end
end Go.As
namespace Go.Ck
open Go.SX
open Go.Tr (ndA Nd)
theorem NdsF.setS {w0 : World} {base : Nat} {rs : List It} {cells : List Value} {l : List Nd} (h : NdsF w0 base rs cells l) {i : Nat} {x : Nd} (hx : l[i]? = some x) {s : List UInt8} :
    NdsF w0 base rs (cells.set (i * 5 + 3) (str s)) (l.set i { x with s := s }) := by
  obtain ⟨h1, h2, vk, h3, h4, h5, h6, h7⟩ := h.five hx
  refine ⟨by rw [List.length_set, List.length_set, h.1], fun j y hy => ?_⟩
  rcases Nat.lt_trichotomy j i with hj | hj | hj
  · rw [List.getElem?_set_ne (by omega)] at hy
    have := h.2 j y hy
    rw [List.drop_set, if_neg (by omega), List.take_set_of_le (by omega)]
    exact this
  · subst hj
    rw [List.getElem?_set_self h1] at hy
    obtain rfl := Option.some.inj hy
    refine ⟨vk, ?_, h4, h5, h6, h7⟩
    rw [List.drop_set, if_neg (by omega), show j * 5 + 3 - j * 5 = 3 by omega, List.take_set, h3]
    rfl
  · rw [List.getElem?_set_ne (by omega)] at hy
    have := h.2 j y hy
    rw [List.drop_set, if_pos (by omega)]
    exact this
theorem NdsF.at5 {w0 : World} {base : Nat} {rs : List It} {cells : List Value} {l : List Nd} (h : NdsF w0 base rs cells l) {i : Nat} {x : Nd} (hx : l[i]? = some x) : cells[i * 5 + 0]? = some (.int .i64 x.op) ∧ cells[i * 5 + 3]? = some (str x.s) ∧ i * 5 + 5 ≤ cells.length := by
  obtain ⟨h1, h2, vk, h3, _⟩ := h.five hx
  have e : ∀ k, k < 5 → cells[i * 5 + k]? = ((cells.drop (i * 5)).take 5)[k]? := fun k hk => by rw [List.getElem?_take_of_lt hk, List.getElem?_drop]
  exact ⟨by rw [e 0 (by decide), h3]; rfl, by rw [e 3 (by decide), h3]; rfl, h2⟩
end Go.Ck
namespace Go.SX
theorem wrapI (z : Int) : inI (IntKind.i64.wrap z) := by
  unfold inI
  simp only [IntKind.wrap, IntKind.bits, IntKind.signed]
  simp
  split <;> omega
/-- a number below n, of any -/
def nmb (z : Int) (n : Nat) : Nat := ((z.tmod n + n).tmod n).toNat
theorem nmb_at (z : Int) {n : Nat} (hn : 0 < n) : (z.tmod n + n).tmod n = ((nmb z n : Nat) : Int) ∧ nmb z n < n ∧ -(n : Int) < z.tmod n ∧ z.tmod n < n := by
  have h1 : z.tmod n < n := Int.tmod_lt_of_pos z (by omega)
  have h2 : -(n : Int) < z.tmod n := by
    have h3 : (-z).tmod n < n := Int.tmod_lt_of_pos (-z) (by omega)
    rw [Int.neg_tmod] at h3
    omega
  have h4 : (z.tmod n + n).tmod n = (z.tmod n + n) % n := Int.tmod_eq_emod_of_nonneg (by omega)
  have h5 := Int.emod_nonneg (z.tmod n + n) (show (n : Int) ≠ 0 by omega)
  have h6 := Int.emod_lt_of_pos (z.tmod n + n) (show (0 : Int) < n by omega)
  refine ⟨?_, ?_, h2, h1⟩
  · unfold nmb; rw [h4]; omega
  · unfold nmb; rw [h4]; omega
end Go.SX
