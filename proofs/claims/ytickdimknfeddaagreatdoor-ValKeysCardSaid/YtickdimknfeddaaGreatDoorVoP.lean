/-
  Proved here: numbers by their digits, held against each other; lists of keys, in order. No program stands here.
-/
import Derived.Test.YtickdimknfeddaaGreatDoorAgg
namespace Go.Vo
open Go.SX Go.RowKit
/-! digits -/
abbrev B : Nat := 1000000000
/-- a number's digits to the base of 10^9, the lowest first -/
def digs (u : Nat) : List Nat := if _h : u = 0 then [] else u % B :: digs (u / B)
termination_by u
decreasing_by exact Nat.div_lt_self (by omega) (by decide)
theorem digs_0 : digs 0 = [] := by unfold digs; simp
theorem digs_pos {u : Nat} (h : 0 < u) : digs u = u % B :: digs (u / B) := by
  rw [digs, dif_neg (by omega)]
def valD : List Nat → Nat
  | [] => 0
  | d :: l => d + B * valD l
theorem valD_digs (u : Nat) : valD (digs u) = u := by
  induction u using Nat.strongRecOn with
  | _ u ih =>
    rcases Nat.eq_zero_or_pos u with rfl | h
    · rw [digs_0]; rfl
    · rw [digs_pos h]
      show u % B + B * valD (digs (u / B)) = u
      rw [ih _ (Nat.div_lt_self h (by decide))]
      exact Nat.mod_add_div u B
theorem digs_lt (u : Nat) : ∀ d ∈ digs u, d < B := by
  induction u using Nat.strongRecOn with
  | _ u ih =>
    rcases Nat.eq_zero_or_pos u with rfl | h
    · rw [digs_0]; intro d hd; cases hd
    · rw [digs_pos h]
      intro d hd
      rcases List.mem_cons.1 hd with rfl | hd
      · exact Nat.mod_lt _ (by decide)
      · exact ih _ (Nat.div_lt_self h (by decide)) d hd
/-- the highest digit is not nothing -/
theorem digs_top (u : Nat) (h : 0 < (digs u).length) : (digs u).getD ((digs u).length - 1) 0 ≠ 0 := by
  induction u using Nat.strongRecOn with
  | _ u ih =>
    have hu : 0 < u := by
      rcases Nat.eq_zero_or_pos u with e | e
      · rw [e, digs_0] at h; exact absurd h (by simp)
      · exact e
    rw [digs_pos hu]
    rcases Nat.eq_zero_or_pos (u / B) with e | e
    · rw [e, digs_0]
      show u % B ≠ 0
      have : u < B := by
        rcases Nat.lt_or_ge u B with h | h
        · exact h
        · exact absurd e (by have := Nat.div_pos h (by decide); omega)
      rw [Nat.mod_eq_of_lt this]; omega
    · have h1 := ih (u / B) (Nat.div_lt_self hu (by decide)) (by rw [digs_pos e]; simp)
      have h2 : 0 < (digs (u / B)).length := by rw [digs_pos e]; simp
      rw [List.length_cons, Nat.add_sub_cancel]
      obtain ⟨k, hk⟩ : ∃ k, (digs (u / B)).length = k + 1 := ⟨(digs (u / B)).length - 1, by omega⟩
      rw [hk] at h1 ⊢
      exact h1
/-! digits held against each other -/
def cmpTo (xs ys : List Nat) : Nat → Int
  | 0 => 0
  | k + 1 => if xs.getD k 0 = ys.getD k 0 then cmpTo xs ys k else (xs.getD k 0 : Int) - (ys.getD k 0 : Int)
def cmpD (xs ys : List Nat) : Int := if xs.length = ys.length then cmpTo xs ys xs.length else (xs.length : Int) - (ys.length : Int)
def sg (n : Int) : Int := if n < 0 then -1 else if n > 0 then 1 else 0
/-- held against each other: a lesser, or a greater -/
def cmp3 (a b : Int) : Int := if a < b then -1 else if a > b then 1 else 0
def valTo (xs : List Nat) : Nat → Nat
  | 0 => 0
  | k + 1 => valTo xs k + B ^ k * xs.getD k 0
theorem valTo_lt {xs : List Nat} (h : ∀ k, xs.getD k 0 < B) : ∀ k, valTo xs k < B ^ k
  | 0 => by simp [valTo]
  | k + 1 => by
    have h1 := valTo_lt h k
    have h2 : B ^ k * (xs.getD k 0 + 1) ≤ B ^ k * B := Nat.mul_le_mul_left _ (h k)
    rw [Nat.pow_succ, valTo]
    rw [Nat.mul_add, Nat.mul_one] at h2
    omega
theorem valTo_cons (d : Nat) (l : List Nat) : ∀ k, valTo (d :: l) (k + 1) = d + B * valTo l k
  | 0 => by simp [valTo]
  | k + 1 => by
    have := valTo_cons d l k
    rw [valTo, this]
    show d + B * valTo l k + B ^ (k + 1) * l.getD k 0 = d + B * (valTo l k + B ^ k * l.getD k 0)
    rw [Nat.mul_add, Nat.pow_succ, Nat.mul_comm (B ^ k) B, Nat.mul_assoc]
    omega
theorem valTo_all : ∀ l : List Nat, valTo l l.length = valD l
  | [] => rfl
  | d :: l => by
    rw [List.length_cons, valTo_cons, valTo_all l]
    rfl
theorem getD_lt {l : List Nat} (h : ∀ d ∈ l, d < B) (k : Nat) : l.getD k 0 < B := by
  rw [List.getD_eq_getElem?_getD]
  cases hk : l[k]? with
  | none => show 0 < B; decide
  | some d => exact h d (List.mem_of_getElem? hk)
theorem sg_pos {n : Int} (h : 0 < n) : sg n = 1 := by unfold sg; rw [if_neg (by omega), if_pos h]
theorem sg_neg {n : Int} (h : n < 0) : sg n = -1 := by unfold sg; rw [if_pos h]
theorem cmp3_lt {a b : Int} (h : a < b) : cmp3 a b = -1 := by unfold cmp3; rw [if_pos h]
theorem cmp3_gt {a b : Int} (h : b < a) : cmp3 a b = 1 := by unfold cmp3; rw [if_neg (by omega), if_pos h]
theorem cmp3_self (a : Int) : cmp3 a a = 0 := by unfold cmp3; rw [if_neg (by omega), if_neg (by omega)]
theorem cmpTo_eq {xs ys : List Nat} (hx : ∀ k, xs.getD k 0 < B) (hy : ∀ k, ys.getD k 0 < B) : ∀ k, sg (cmpTo xs ys k) = cmp3 (valTo xs k : Nat) (valTo ys k : Nat)
  | 0 => by rw [cmpTo, valTo, valTo, cmp3_self]; rfl
  | k + 1 => by
    have h1 := valTo_lt hx k
    have h2 := valTo_lt hy k
    rw [cmpTo, valTo, valTo]
    split
    · rename_i e
      rw [cmpTo_eq hx hy k, e]
      unfold cmp3
      generalize B ^ k * ys.getD k 0 = q
      generalize valTo xs k = a
      generalize valTo ys k = b
      split <;> split <;> (try split) <;> omega
    · rename_i e
      rcases Nat.lt_or_ge (xs.getD k 0) (ys.getD k 0) with h | h
      · have h3 : B ^ k * (xs.getD k 0 + 1) ≤ B ^ k * ys.getD k 0 := Nat.mul_le_mul_left _ h
        rw [Nat.mul_add, Nat.mul_one] at h3
        rw [sg_neg (by omega), cmp3_lt (by omega)]
      · have h3 : B ^ k * (ys.getD k 0 + 1) ≤ B ^ k * xs.getD k 0 := Nat.mul_le_mul_left _ (by omega)
        rw [Nat.mul_add, Nat.mul_one] at h3
        rw [sg_pos (by omega), cmp3_gt (by omega)]
theorem valTo_top {xs : List Nat} {k : Nat} (h : xs.getD k 0 ≠ 0) : B ^ k ≤ valTo xs (k + 1) := by
  rw [valTo]
  have : B ^ k * 1 ≤ B ^ k * xs.getD k 0 := Nat.mul_le_mul_left _ (by omega)
  omega
theorem len_lt {a b : Nat} (h : (digs a).length < (digs b).length) : a < b := by
  have h1 := valTo_lt (getD_lt (digs_lt a)) (digs a).length
  rw [valTo_all, valD_digs] at h1
  obtain ⟨k, hk⟩ : ∃ k, (digs b).length = k + 1 := ⟨(digs b).length - 1, by omega⟩
  have h2 := valTo_top (xs := digs b) (k := k) (by have := digs_top b (by omega); rwa [hk, Nat.add_sub_cancel] at this)
  rw [← hk, valTo_all, valD_digs] at h2
  have h3 : B ^ (digs a).length ≤ B ^ k := Nat.pow_le_pow_right (by decide) (by omega)
  omega
theorem cmpD_eq (a b : Nat) : sg (cmpD (digs a) (digs b)) = cmp3 a b := by
  unfold cmpD
  split
  · rename_i e
    rw [cmpTo_eq (getD_lt (digs_lt a)) (getD_lt (digs_lt b)), valTo_all, e, valTo_all, valD_digs, valD_digs]
  · rename_i e
    rcases Nat.lt_or_ge (digs a).length (digs b).length with h | h
    · have := len_lt h
      rw [sg_neg (by omega), cmp3_lt (by omega)]
    · have := len_lt (a := b) (b := a) (by omega)
      rw [sg_pos (by omega), cmp3_gt (by omega)]
/-- as the code does it -/
def cmpC (x y : Int) : Int :=
  if decide (x < 0) ≠ decide (y < 0) then (if x < 0 then -1 else 1)
  else if x < 0 then sg (cmpD (digs y.natAbs) (digs x.natAbs)) else sg (cmpD (digs x.natAbs) (digs y.natAbs))
theorem cmpC_eq (x y : Int) : cmpC x y = cmp3 x y := by
  unfold cmpC
  split
  · rename_i h
    by_cases hx : x < 0 <;> by_cases hy : y < 0
    · exact absurd (by rw [decide_eq_true hx, decide_eq_true hy]) h
    · rw [if_pos hx, cmp3_lt (by omega)]
    · rw [if_neg hx, cmp3_gt (by omega)]
    · exact absurd (by rw [decide_eq_false hx, decide_eq_false hy]) h
  · rename_i h
    have h' : decide (x < 0) = decide (y < 0) := Classical.not_not.1 h
    by_cases hx : x < 0
    · have hy : y < 0 := by rw [decide_eq_true hx] at h'; exact of_decide_eq_true h'.symm
      rw [if_pos hx, cmpD_eq]
      unfold cmp3
      split <;> split <;> (try split) <;> omega
    · have hy : ¬y < 0 := by rw [decide_eq_false hx] at h'; exact of_decide_eq_false h'.symm
      rw [if_neg hx, cmpD_eq]
      unfold cmp3
      split <;> split <;> (try split) <;> omega
/-! keys -/
def nm9 (x : Int) : Int := (x.tmod 9 + 9).tmod 9
def key (t : Bool) (x : Int) : Int := if t then nm9 x else x
/-- which of two is less, by the first that part -/
def lexLt : List Int → List Int → Bool
  | [], [] => false
  | [], _ :: _ => true
  | _ :: _, [] => false
  | a :: s, b :: t => if a = b then lexLt s t else decide (a < b)
theorem lex_self : ∀ l, lexLt l l = false
  | [] => rfl
  | a :: s => by rw [lexLt, if_pos rfl]; exact lex_self s
theorem lex_asym : ∀ {a b : List Int}, lexLt a b = true → lexLt b a = false
  | [], [], h => by cases h
  | [], _ :: _, _ => rfl
  | _ :: _, [], h => by cases h
  | a :: s, b :: t, h => by
    rw [lexLt] at h ⊢
    by_cases e : a = b
    · rw [if_pos e] at h; rw [if_pos e.symm]; exact lex_asym h
    · rw [if_neg e] at h; rw [if_neg (fun q => e q.symm)]
      have := of_decide_eq_true h
      exact decide_eq_false (by omega)
theorem lex_eq : ∀ {a b : List Int}, lexLt a b = false → lexLt b a = false → a = b
  | [], [], _, _ => rfl
  | [], _ :: _, h, _ => by cases h
  | _ :: _, [], _, h => by cases h
  | a :: s, b :: t, h, h' => by
    rw [lexLt] at h h'
    by_cases e : a = b
    · rw [if_pos e] at h; rw [if_pos e.symm] at h'; rw [e, lex_eq h h']
    · rw [if_neg e] at h; rw [if_neg (fun q => e q.symm)] at h'
      have h1 := of_decide_eq_false h
      have h2 := of_decide_eq_false h'
      omega
theorem lex_trans : ∀ {a b c : List Int}, lexLt a b = true → lexLt b c = true → lexLt a c = true
  | [], [], _, h, _ => by cases h
  | [], _ :: _, [], _, h => by cases h
  | [], _ :: _, _ :: _, _, _ => rfl
  | _ :: _, [], _, h, _ => by cases h
  | _ :: _, _ :: _, [], _, h => by cases h
  | a :: s, b :: t, c :: u, h, h' => by
    rw [lexLt] at h h' ⊢
    by_cases e : a = b
    · rw [if_pos e] at h
      by_cases f : b = c
      · rw [if_pos f] at h'; rw [if_pos (e.trans f)]; exact lex_trans h h'
      · rw [if_neg f] at h'; rw [if_neg (by omega)]; have := of_decide_eq_true h'; exact decide_eq_true (by omega)
    · rw [if_neg e] at h
      have h1 := of_decide_eq_true h
      by_cases f : b = c
      · rw [if_neg (by omega)]; exact decide_eq_true (by omega)
      · rw [if_neg f] at h'; have := of_decide_eq_true h'; rw [if_neg (by omega)]; exact decide_eq_true (by omega)
theorem drop_at {l : List Int} {i : Nat} (h : i < l.length) : l.drop i = l.getD i 0 :: l.drop (i + 1) := by
  rw [List.getD_eq_getElem?_getD, List.getElem?_eq_getElem h]
  exact List.drop_eq_getElem_cons h
/-- the law -/
theorem orders (a b c : List Int) : (!lexLt a a && !(lexLt a b && lexLt b a) && (decide (a = b) == (!lexLt a b && !lexLt b a)) && (!lexLt a b || !lexLt b c || lexLt a c)) = true := by
  rw [lex_self]
  have h1 : (lexLt a b && lexLt b a) = false := by
    cases h : lexLt a b with
    | false => rfl
    | true => rw [lex_asym h]; rfl
  have h2 : decide (a = b) = (!lexLt a b && !lexLt b a) := by
    by_cases e : a = b
    · subst e; rw [lex_self]; simp
    · rw [decide_eq_false e]
      cases h : lexLt a b with
      | true => rfl
      | false =>
        cases h' : lexLt b a with
        | true => rfl
        | false => exact absurd (lex_eq h h') e
  have h3 : (!lexLt a b || !lexLt b c || lexLt a c) = true := by
    cases h : lexLt a b with
    | false => rfl
    | true =>
      cases h' : lexLt b c with
      | false => rfl
      | true => rw [lex_trans h h']; rfl
  rw [h1, h2, h3]
  simp
end Go.Vo
