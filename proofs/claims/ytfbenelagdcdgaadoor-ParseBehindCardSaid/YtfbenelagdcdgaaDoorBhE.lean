/-
  Proved here: plain: a line put behind a file changes nothing in it. No program stands here.
-/
import Derived.Test.YtfbenelagdcdgaaDoorBhD
namespace Go.Pa.Bh
open Go.Pa
open Go.Lex (scan tkP nameB dedents Tok)
open Go.Lex.Bh (scan_two tailB)
/-- the end's token -/
def endT (p : Nat) : Tok := ⟨8, [], p⟩
theorem two_of {A : List Tok} {n p q : Nat} {okp : Int → Prop} (T : Tks ((A ++ dedents n p ++ [endT p]).map tkP) nameB okp) : Two ((A ++ dedents n p ++ [endT p]).map tkP) ((A ++ dedents n q ++ tailB q).map tkP) (A.length + n) := by
  have hlen : ((A ++ dedents n p ++ [endT p]).map tkP).length = A.length + n + 1 := by simp [dedents]; omega
  refine ⟨fun i t ht hi => ?_, hlen, fun i t ht => ?_, ⟨tkP ⟨1, [122, 122], q⟩, ?_, rfl⟩⟩
  · rw [List.getElem?_map, List.getElem?_append_left (by simp [dedents]; omega)] at ht
    rw [List.getElem?_map, List.getElem?_append_left (by simp [dedents]; omega)]
    rcases Nat.lt_or_ge i A.length with h | h
    · rw [List.getElem?_append_left h] at ht ⊢
      exact .inl ht
    · rw [List.getElem?_append_right h] at ht ⊢
      unfold dedents at ht ⊢
      rw [List.getElem?_replicate, if_pos (by omega)] at ht ⊢
      cases ht
      exact .inr ⟨rfl, _, rfl, rfl, rfl⟩
  · have := T.fin i t ht
    rw [hlen] at this
    rw [this]
    omega
  · rw [List.getElem?_map, List.getElem?_append_right (by simp [dedents])]
    simp [dedents, tailB]
theorem fuel_more (n K : Nat) (hK : 20 ≤ 4 * K) : n * K + 29 + 20 ≤ (n + 4) * K + 29 := by
  rw [Nat.add_mul]
  omega
theorem behind_ok {t : List UInt8} {l : List Nd} (hl : t.length ≤ 1000) (h : parseP (t ++ [10]) = .ok l) : ∃ m, parseP (t ++ [10, 10, 122, 122, 32, 61, 32, 49, 10]) = .ok m ∧
    ((m.length = l.length + 3 ∧ ∀ i : Nat, i + 1 < l.length → m[i]? = l[i]?) ∨ (l.length = 2 ∧ m.length = 4)) := by
  rcases parse_cases (t ++ [10]) (by simp; omega) with ⟨p, _, he⟩ | ⟨ts, hsc, T, ⟨p, k, _, he⟩ | ⟨s', hr, he, _, hn, _⟩⟩
  · rw [he] at h; cases h
  · rw [he] at h; cases h
  rw [he] at h
  cases h
  obtain ⟨A, n, p, q, rfl, hsc2⟩ := scan_two hsc
  change Tks ((A ++ dedents n p ++ [endT p]).map tkP) _ _ at T
  change s'.out.length ≤ 2 * (A ++ dedents n p ++ [endT p]).length at hn
  change run ((A ++ dedents n p ++ [endT p]).map tkP) nameB (fuel (A ++ dedents n p ++ [endT p]).length + 1) .file st0 = _ at hr
  have hle := T.len
  have hlen : ((A ++ dedents n p ++ [endT p]).map tkP).length = A.length + n + 1 := by simp [dedents]; omega
  have hlen0 : (A ++ dedents n p ++ [endT p]).length = A.length + n + 1 := by simp [dedents]; omega
  have hlen2 : (A ++ dedents n q ++ tailB q).length = A.length + n + 1 + 4 := by simp [dedents, tailB]; omega
  have tl : ∀ k : Nat, ((A ++ dedents n q ++ tailB q).map tkP)[A.length + n + k]? = ((tailB q).map tkP)[k]? := fun k => by
    rw [List.getElem?_map, List.getElem?_append_right (by simp [dedents]), List.getElem?_map]
    congr 2
    simp [dedents]
  rw [hlen] at hle
  obtain ⟨s2, h2, h3⟩ := file_behind (two_of T (q := q)) (tl 0) (tl 1) (tl 2) (tl 3) (tl 4) rfl rfl rfl rfl rfl rfl (by omega) (m := fuel (A ++ dedents n q ++ tailB q).length) (by rw [hlen0, hlen2]; exact fuel_more _ _ (by decide)) (by rw [hlen0] at hn; omega) hr
  exact ⟨s2.out, by rw [parse_run hsc2, h2]; rfl, h3⟩
end Go.Pa.Bh
