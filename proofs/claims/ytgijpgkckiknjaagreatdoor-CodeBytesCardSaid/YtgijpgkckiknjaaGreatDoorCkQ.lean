/-
  Proved here: plain: where a program first goes wrong, one function on. No program stands here.
-/
import Derived.Test.YtgijpgkckiknjaaGreatDoorCkP
namespace Go.Ck
open Go.SX
variable {p : Pg} {f : Fc} {j : Nat} {i : Ins}
theorem firstBad_some (hi : f.code[j]? = some i) (hb : ¬fits p f i) (h : ∀ y ∈ f.code.take j, fits p f y) : firstBad p f = some j := by
  obtain ⟨h1, h2⟩ := List.getElem?_eq_some_iff.1 hi
  unfold firstBad
  rw [List.findIdx?_eq_some_iff_getElem]
  refine ⟨h1, by rw [h2]; simpa using hb, fun q hq => ?_⟩
  have := h (f.code[q]'(by omega)) (by
    rw [List.mem_iff_getElem?]
    exact ⟨q, by rw [List.getElem?_take, if_pos hq]; exact List.getElem?_eq_getElem (by omega)⟩)
  simpa using this
theorem firstBad_no (h : ∀ y ∈ f.code, fits p f y) : firstBad p f = none := by
  unfold firstBad
  rw [List.findIdx?_eq_none_iff]
  intro y hy
  simpa using h y hy
/-- as Go says it -/
def ixZ : Option Nat → Int
  | none => -1
  | some k => (k : Int)
theorem drop_f {l : List Fc} {j : Nat} {g : Fc} (hx : l[j]? = some g) : l.drop j = g :: l.drop (j + 1) := by
  obtain ⟨h1, h2⟩ := List.getElem?_eq_some_iff.1 hx
  rw [List.drop_eq_getElem_cons h1, h2]
theorem total_take {l : List Fc} {j : Nat} {g : Fc} (hx : l[j]? = some g) : total (l.take (j + 1)) = total (l.take j) + g.code.length := by
  rw [List.take_add_one, hx]
  exact total_snoc _ _
theorem total_le {c : Nat} : ∀ (l : List Fc), (∀ f ∈ l, f.code.length ≤ c) → total l ≤ c * l.length
  | [], _ => Nat.zero_le _
  | f :: r, h => by
    have h1 := h f (List.mem_cons_self ..)
    have h2 := total_le r (fun g hg => h g (List.mem_cons_of_mem _ hg))
    rw [total, List.length_cons, Nat.mul_add]
    omega
open Classical in
theorem scan_at {l : List Fc} {g : Fc} {n : Nat} (hx : l[j]? = some g) : scan p (l.drop j) n = match firstBad p g with
    | some k => some (n + k)
    | none => if Good p g then scan p (l.drop (j + 1)) (n + g.code.length) else some n := by
  rw [drop_f hx, scan]
  cases firstBad p g with
  | some k => rfl
  | none => rfl
open Classical in
theorem scan_good {l : List Fc} {g : Fc} {n : Nat} (hx : l[j]? = some g) (h : firstBad p g = none) (hg : Good p g) : scan p (l.drop j) n = scan p (l.drop (j + 1)) (n + g.code.length) := by
  rw [scan_at hx, h]
  exact if_pos hg
open Classical in
theorem scan_not {l : List Fc} {g : Fc} {n : Nat} (hx : l[j]? = some g) (h : firstBad p g = none) (hg : ¬Good p g) : scan p (l.drop j) n = some n := by
  rw [scan_at hx, h]
  exact if_neg hg
theorem firstBad_lt {k : Nat} (h : firstBad p f = some k) : k < f.code.length := by
  unfold firstBad at h
  rw [List.findIdx?_eq_some_iff_getElem] at h
  exact h.1
theorem good_next {b c : Bool} {g : Fc} (h : b = true ↔ 0 < p.funcs.length ∧ ∀ g ∈ p.funcs.take j, funcOk g) (hg : p.funcs[j]? = some g) (hc : c = true ↔ b = true ∧ funcOk g) : c = true ↔ 0 < p.funcs.length ∧ ∀ g ∈ p.funcs.take (j + 1), funcOk g := by
  rw [hc, h, List.take_add_one, hg]
  constructor
  · rintro ⟨⟨h1, h2⟩, h3⟩
    refine ⟨h1, fun y hy => ?_⟩
    rcases List.mem_append.1 hy with hy | hy
    · exact h2 y hy
    · obtain rfl : y = g := by simpa using hy
      exact h3
  · rintro ⟨h1, h2⟩
    exact ⟨⟨h1, fun y hy => h2 y (List.mem_append_left _ hy)⟩, h2 g (List.mem_append_right _ (by simp))⟩
theorem good_next2 {b c : Bool} {x : Nd} (h : b = true ↔ (0 < p.funcs.length ∧ ∀ g ∈ p.funcs, funcOk g) ∧ ∀ x ∈ p.consts.take j, leafOk x) (hx : p.consts[j]? = some x) (hc : c = true ↔ b = true ∧ leafOk x) : c = true ↔ (0 < p.funcs.length ∧ ∀ g ∈ p.funcs, funcOk g) ∧ ∀ x ∈ p.consts.take (j + 1), leafOk x := by
  rw [hc, h, List.take_add_one, hx]
  constructor
  · rintro ⟨⟨h1, h2⟩, h3⟩
    refine ⟨h1, fun y hy => ?_⟩
    rcases List.mem_append.1 hy with hy | hy
    · exact h2 y hy
    · obtain rfl : y = x := by simpa using hy
      exact h3
  · rintro ⟨h1, h2⟩
    exact ⟨⟨h1, fun y hy => h2 y (List.mem_append_left _ hy)⟩, h2 x (List.mem_append_right _ (by simp))⟩
theorem good_end {b : Bool} (h : b = true ↔ (0 < p.funcs.length ∧ ∀ g ∈ p.funcs, funcOk g) ∧ ∀ x ∈ p.consts, leafOk x) : b = true ↔ wholeOk p := by
  rw [h]
  unfold wholeOk
  rw [List.length_pos_iff, and_assoc]
open Go.Tr (digitsOk)
theorem leaf_no {x : Nd} (h : x.n ≠ 0 ∨ x.kids.length ≠ 0) : false = decide (leafOk x) := by
  symm
  rw [decide_eq_false_iff_not]
  rintro ⟨h1, h2, _⟩
  rcases h with h | h
  · exact h h1
  · rw [h2] at h; exact h rfl
theorem leaf_1 {x : Nd} (hz : x.n = 0) (hk : x.kids = []) (h : x.op = 1 ∨ x.op = 2 ∨ x.op = 3) : decide (x.s = []) = decide (leafOk x) := by
  rw [decide_eq_decide]
  unfold leafOk
  constructor
  · intro e; exact ⟨hz, hk, .inl ⟨h, e⟩⟩
  · rintro ⟨_, _, (⟨_, e⟩ | ⟨e, _⟩ | e)⟩
    · exact e
    · omega
    · omega
theorem leaf_4 {x : Nd} (hz : x.n = 0) (hk : x.kids = []) (h : x.op = 4) : decide (digitsOk x.s) = decide (leafOk x) := by
  rw [decide_eq_decide]
  unfold leafOk
  constructor
  · intro e; exact ⟨hz, hk, .inr (.inl ⟨h, e⟩)⟩
  · rintro ⟨_, _, (⟨e, _⟩ | ⟨_, e⟩ | e)⟩
    · omega
    · exact e
    · omega
theorem leaf_5 {x : Nd} (hz : x.n = 0) (hk : x.kids = []) (h : ¬(x.op = 1 ∨ x.op = 2 ∨ x.op = 3)) (h4 : x.op ≠ 4) : decide (x.op = 5) = decide (leafOk x) := by
  rw [decide_eq_decide]
  unfold leafOk
  constructor
  · intro e; exact ⟨hz, hk, .inr (.inr e)⟩
  · rintro ⟨_, _, (⟨e, _⟩ | ⟨e, _⟩ | e)⟩
    · exact absurd e h
    · exact absurd e h4
    · exact e
end Go.Ck
