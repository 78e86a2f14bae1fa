/-
  Proved here: plain: what the document's scanner does, in terms of the scanner's own steps.
-/
import Derived.Test.YteibddakpedogaaLexP
namespace Go.Lex
open Go.SX
/-- how the document's scanner stands behind what comes to r: whole, or with a place where it fails -/
def Ran (r : Except Nat Sc) (σ' : Sc) (b : Option Nat) : Prop := match r with
  | .ok σ1 => σ' = σ1 ∧ b = none
  | .error e => b = some e
theorem ran_ok {r : Except Nat Sc} {σ' : Sc} (h : r = .ok σ') : Ran r σ' none := by subst h; exact ⟨rfl, rfl⟩
theorem ran_err {r : Except Nat Sc} {σ' : Sc} {e : Nat} (h : r = .error e) : Ran r σ' (some e) := by subst h; rfl
/-- a place, or -1 -/
def badI : Option Nat → Int
  | none => -1
  | some n => (n : Int)
@[simp] theorem badI_none : badI none = -1 := rfl
@[simp] theorem badI_some (n : Nat) : badI (some n) = n := rfl
/-- what opens what a byte closes -/
def unc (c : Nat) : Nat := if c = 41 then 40 else if c = 93 then 91 else 123
theorem unc_lt (c : Nat) : unc c < 256 := by unfold unc; (repeat' split) <;> omega
theorem unc_inj {a b : Nat} (ha : closes a = true) (hb : closes b = true) (h : unc a = unc b) : a = b := by
  unfold closes at ha hb; unfold unc at h
  simp at ha hb
  rcases ha with (rfl | rfl) | rfl <;> rcases hb with (rfl | rfl) | rfl <;> first | rfl | (simp at h; done)
theorem unc_opens {c e : Nat} (h : opens c = some e) : unc e = c ∧ closes e = true := by
  unfold opens at h
  split at h
  · cases h; rename_i h1; subst h1; decide
  · split at h
    · cases h; rename_i h1; subst h1; decide
    · split at h
      · cases h; rename_i h1; subst h1; decide
      · cases h
/-- a line's beginning, but for the byte that it begins with -/
def Sc.begR (σ : Sc) : Except Nat Sc :=
  if σ.blocks.getLastD 0 < σ.col then
    if 60 < σ.blocks.length then .error σ.pos else .ok (({ σ with blocks := σ.blocks ++ [σ.col] } : Sc).tok 6 [] σ.pos)
  else if σ.col = (Sc.outdent σ.col σ.blocks.length σ).blocks.getLastD 0 then .ok (Sc.outdent σ.col σ.blocks.length σ) else .error σ.pos
theorem Sc.outdent_line (i : Nat) (l : Bool) : ∀ (f : Nat) (σ : Sc), Sc.outdent i f { σ with line := l } = { Sc.outdent i f σ with line := l }
  | 0, σ => rfl
  | f + 1, σ => by
    unfold Sc.outdent
    by_cases h : i < σ.blocks.getLastD 0
    · rw [if_pos h, if_pos h]
      exact Sc.outdent_line i l f (({ σ with blocks := σ.blocks.dropLast } : Sc).tok 7 [] σ.pos)
    · rw [if_neg h, if_neg h]
theorem Sc.begin_begR {σ : Sc} (h : σ.begins = true) : σ.begin = (σ.begR).map fun σ1 => { σ1 with line := true } := by
  unfold Sc.begin Sc.begR
  simp only [h, Bool.not_true, Bool.false_eq_true, if_false]
  by_cases h1 : σ.blocks.getLastD 0 < σ.col
  · rw [if_pos h1, if_pos h1]
    by_cases h2 : 60 < σ.blocks.length
    · rw [if_pos h2, if_pos h2]; rfl
    · rw [if_neg h2, if_neg h2]; rfl
  · rw [if_neg h1, if_neg h1]
    simp only [Sc.outdent_line]
    by_cases h2 : σ.col = (Sc.outdent σ.col σ.blocks.length σ).blocks.getLastD 0
    · rw [if_pos h2, if_pos h2]; rfl
    · rw [if_neg h2, if_neg h2]; rfl
theorem Sc.begR_deep {σ : Sc} (h : σ.blocks.getLastD 0 < σ.col) (h2 : 60 < σ.blocks.length) : σ.begR = .error σ.pos := by
  unfold Sc.begR; rw [if_pos h, if_pos h2]
theorem Sc.begR_in {σ : Sc} (h : σ.blocks.getLastD 0 < σ.col) (h2 : ¬ 60 < σ.blocks.length) : σ.begR = .ok (({ σ with blocks := σ.blocks ++ [σ.col] } : Sc).tok 6 [] σ.pos) := by
  unfold Sc.begR; rw [if_pos h, if_neg h2]
theorem Sc.begR_out {σ σ2 : Sc} (h : ¬ σ.blocks.getLastD 0 < σ.col) (h2 : Sc.outdent σ.col σ.blocks.length σ = σ2) (hi : σ.col = σ2.blocks.getLastD 0) : σ.begR = .ok σ2 := by
  unfold Sc.begR; rw [if_neg h, h2, if_pos hi]
theorem Sc.begR_err {σ σ2 : Sc} (h : ¬ σ.blocks.getLastD 0 < σ.col) (h2 : Sc.outdent σ.col σ.blocks.length σ = σ2) (hi : ¬ σ.col = σ2.blocks.getLastD 0) : σ.begR = .error σ.pos := by
  unfold Sc.begR; rw [if_neg h, h2, if_neg hi]

/-! a string's end, a byte or two at a time -/
theorem endR_esc {q i : Nat} {s : List UInt8} (hi : i < s.length) (h1 : bt s i ≠ 10) (h2 : bt s i ≠ q) (h3 : bt s i = 92) (h4 : i + 1 < s.length) (h5 : bt s (i + 1) ≠ 10) : endL q (s.drop i) i = endL q (s.drop (i + 2)) (i + 2) := by
  rw [endL_eq, if_pos hi, if_neg h1, if_neg h2, if_pos h3, if_pos h4, if_neg h5]
theorem endR_none {q i : Nat} {s : List UInt8} (h : i < s.length → bt s i = 10) : endL q (s.drop i) i = none := by
  rw [endL_eq]
  split
  · rename_i hi; rw [if_pos (h hi)]
  · rfl
theorem endR_next {q i : Nat} {s : List UInt8} (hi : i < s.length) (h1 : bt s i ≠ 10) (h2 : bt s i ≠ q) (h3 : ¬ (bt s i = 92 ∧ i + 1 < s.length ∧ bt s (i + 1) ≠ 10)) : endL q (s.drop i) i = endL q (s.drop (i + 1)) (i + 1) := by
  rw [endL_eq, if_pos hi, if_neg h1, if_neg h2]
  by_cases h : bt s i = 92
  · rw [if_pos h]
    have h4 : i + 1 < s.length → bt s (i + 1) = 10 := fun hl => Classical.not_not.1 fun hn => h3 ⟨h, hl, hn⟩
    rw [endR_none h4]
    split
    · rename_i hl; rw [if_pos (h4 hl)]
    · rfl
  · rw [if_neg h]
theorem endR_hit {q i : Nat} {s : List UInt8} (hi : i < s.length) (hq : q ≠ 10) (h : bt s i = q) : endL q (s.drop i) i = some (i + 1) := by
  rw [endL_eq, if_pos hi, if_neg (by omega), if_pos h]
/-- within a string: what is no backslash -/
theorem inR_plain {q i e : Nat} {s : List UInt8} (h : endL q (s.drop i) i = some (e + 1)) (hi : i < e) (h1 : bt s i ≠ 92) : endL q (s.drop (i + 1)) (i + 1) = some (e + 1) := by
  rw [endL_eq] at h
  split at h
  · split at h
    · cases h
    · split at h
      · cases h; omega
      · first
        | exact h
        | (rw [if_neg h1] at h; exact h)
  · cases h
theorem inR_esc {q i e : Nat} {s : List UInt8} (h : endL q (s.drop i) i = some (e + 1)) (hi : i < e) (h1 : bt s i = 92) : i + 1 < e ∧ endL q (s.drop (i + 2)) (i + 2) = some (e + 1) := by
  have h0 := h
  rw [endL_eq] at h
  split at h
  · split at h
    · cases h
    · split at h
      · cases h; omega
      · try rw [if_pos h1] at h
        split at h
        · split at h
          · cases h
          · have := endL_bd _ _ _ h
            exact ⟨by omega, h⟩
        · cases h
  · cases h
theorem pieceL_at {s : List UInt8} {m i : Nat} (h : i + 1 < m) (hm : m ≤ s.length) : pieceL ((s.take m).drop (i + 1)) = if bt s (i + 1) = 110 then (10, 1) else if bt s (i + 1) = 116 then (9, 1) else if bt s (i + 1) = 92 ∨ bt s (i + 1) = 34 ∨ bt s (i + 1) = 39 then (bt s (i + 1), 1) else
    if bt s (i + 1) = 120 then (match hexL ((s.take m).drop (i + 2)) with
      | some v => (v, 3)
      | none => (0, 0)) else (0, 0) := by
  rw [drop_take_bt h hm]; rfl
theorem hexL_at {s : List UInt8} {m i : Nat} (hm : m ≤ s.length) : hexL ((s.take m).drop (i + 2)) = if i + 3 < m then (match hexD (bt s (i + 2)), hexD (bt s (i + 3)) with
    | some x, some y => some (16 * x + y)
    | _, _ => none) else none := by
  by_cases h : i + 3 < m
  · rw [if_pos h, drop_take_bt (show i + 2 < m by omega) hm, drop_take_bt (show i + 2 + 1 < m by omega) hm]; rfl
  · rw [if_neg h]
    have hl : ((s.take m).drop (i + 2)).length ≤ 1 := by simp; omega
    cases hx : (s.take m).drop (i + 2) with
    | nil => rfl
    | cons a r =>
      rw [hx] at hl
      cases r with
      | nil => rfl
      | cons b r => simp at hl
theorem hexD_plain {c x : Nat} (h : hexD c = some x) : c ≠ 92 := by
  rintro rfl
  have h2 : hexD 92 = none := rfl
  rw [h2] at h; cases h
/-- the hexadecimal digit's number, -1: it is none -/
def hexI (c : Nat) : Int := match hexD c with
  | some v => (v : Int)
  | none => -1

/-! numbers -/
theorem dig_no_let4 {c : Nat} (h : isDig c = true) : isLet c = false := by
  unfold isDig at h; unfold isLet
  simp only [Bool.and_eq_true, decide_eq_true_eq] at h
  simp; omega
theorem numR_bad {σ : Sc} {k : Nat} (hkp : σ.pos ≤ k) (hkl : k ≤ σ.s.length) (hi : numL (σ.s.drop σ.pos) = (numL (σ.s.drop k)).map (· + (k - σ.pos))) (hk : k < σ.s.length → isDig (bt σ.s k) = false)
    (h : ((k < σ.s.length ∧ isLet (bt σ.s k) = true) ∨ 600 < k - σ.pos) ∨ (1 < k - σ.pos ∧ bt σ.s σ.pos = 48)) : σ.number = .error σ.pos := by
  by_cases hl : k < σ.s.length ∧ isLet (bt σ.s k) = true
  · exact Sc.number_bad2 hi hl.1 hl.2
  · have hk2 : k < σ.s.length → isLet (bt σ.s k) = false ∧ isDig (bt σ.s k) = false := fun h => ⟨by
      cases he : isLet (bt σ.s k) with
      | false => rfl
      | true => exact absurd ⟨h, he⟩ hl, hk h⟩
    have hln : ((σ.s.take k).drop σ.pos).length = k - σ.pos := by simp; omega
    refine Sc.number_bad hkp hkl hi hk2 ?_
    rw [hln]
    rcases h with (h | h) | h
    · exact absurd h hl
    · exact .inl h
    · refine .inr ⟨?_, h.1⟩
      rw [show bt ((σ.s.take k).drop σ.pos) 0 = bt σ.s σ.pos by
        rw [drop_take_bt (by omega) hkl]; rfl]
      exact h.2
theorem numR_ok {σ : Sc} {k : Nat} (hkp : σ.pos ≤ k) (hkl : k ≤ σ.s.length) (hi : numL (σ.s.drop σ.pos) = (numL (σ.s.drop k)).map (· + (k - σ.pos))) (hk : k < σ.s.length → isDig (bt σ.s k) = false)
    (h : ¬ (((k < σ.s.length ∧ isLet (bt σ.s k) = true) ∨ 600 < k - σ.pos) ∨ (1 < k - σ.pos ∧ bt σ.s σ.pos = 48))) : σ.number = .ok ({ σ with pos := k }.tok 2 ((σ.s.take k).drop σ.pos) σ.pos) := by
  have hk2 : k < σ.s.length → isLet (bt σ.s k) = false ∧ isDig (bt σ.s k) = false := fun h1 => ⟨by
      cases he : isLet (bt σ.s k) with
      | false => rfl
      | true => exact absurd (.inl (.inl ⟨h1, he⟩)) h, hk h1⟩
  have hln : ((σ.s.take k).drop σ.pos).length = k - σ.pos := by simp; omega
  refine Sc.number_ok hkp hkl hi hk2 ?_
  rw [hln]
  rintro (h1 | ⟨h1, h2⟩)
  · exact h (.inl (.inr h1))
  · refine h (.inr ⟨h2, ?_⟩)
    rw [show bt ((σ.s.take k).drop σ.pos) 0 = bt σ.s σ.pos by
        rw [drop_take_bt (by omega) hkl]; rfl] at h1
    exact h1

/-! signs -/
def twosL : List (List UInt8) := [[61, 61], [33, 61], [60, 61], [62, 61], [43, 61], [47, 47]]
def onesL : List UInt8 := [60, 62, 61, 43, 45, 42, 37, 40, 41, 91, 93, 123, 125, 44, 58, 46]
theorem signs_two : signsList = twosL ++ onesL.map fun c => [c] := rfl
theorem find_the {l : List (List UInt8)} {p : List UInt8 → Bool} {x : List UInt8} (hx : x ∈ l) (hp : p x = true) (hu : ∀ y ∈ l, p y = true → y = x) : l.find? p = some x := by
  cases h : l.find? p with
  | none => exact absurd hp (List.find?_eq_none.1 h x hx)
  | some y => rw [hu y (List.mem_of_find?_eq_some h) (List.find?_some h)]
theorem twos_len : ∀ x ∈ twosL, x.length = 2 := by decide
theorem pre_two {x l : List UInt8} (hx : x ∈ twosL) (h : x.isPrefixOf l = true) : x = l.take 2 := by
  have h1 := List.isPrefixOf_iff_prefix.1 h
  rw [List.prefix_iff_eq_take.1 h1, twos_len x hx]
theorem signL_two {l : List UInt8} (h : l.take 2 ∈ twosL) : signL l = l.take 2 := by
  unfold signL
  rw [signs_two, List.find?_append, find_the (p := (·.isPrefixOf l)) h (List.isPrefixOf_iff_prefix.2 (List.take_prefix _ _)) (fun y hy hp => pre_two hy hp)]
  rfl
theorem find_twos {l : List UInt8} (h : l.take 2 ∉ twosL) : twosL.find? (·.isPrefixOf l) = none :=
  List.find?_eq_none.2 fun x hx hp => h (pre_two hx hp ▸ hx)
theorem signL_one {c : UInt8} {r : List UInt8} (h : (c :: r).take 2 ∉ twosL) (hc : c ∈ onesL) : signL (c :: r) = [c] := by
  unfold signL
  rw [signs_two, List.find?_append, find_twos h, Option.none_or,
    find_the (x := [c]) (List.mem_map.2 ⟨c, hc, rfl⟩) (by simp [List.isPrefixOf]) (fun y hy hp => by
      obtain ⟨d, _, rfl⟩ := List.mem_map.1 hy
      simp [List.isPrefixOf] at hp
      rw [hp])]
  rfl
theorem signL_no {c : UInt8} {r : List UInt8} (h : (c :: r).take 2 ∉ twosL) (hc : c ∉ onesL) : signL (c :: r) = [] := by
  unfold signL
  rw [signs_two, List.find?_append, find_twos h, Option.none_or, List.find?_eq_none.2 (fun y hy hp => by
      obtain ⟨d, hd, rfl⟩ := List.mem_map.1 hy
      simp [List.isPrefixOf] at hp
      exact hc (hp ▸ hd))]
  rfl
/-- a bracket, as the document reads it -/
def Sc.brkR (σ : Sc) (c : Nat) : Sc × Option Nat :=
  match opens c with
  | some e => ({ σ with brk := σ.brk ++ [e] }, if 60 ≤ σ.brk.length then some σ.pos else none)
  | none => if closes c then (if σ.brk.getLast? = some c then ({ σ with brk := σ.brk.dropLast }, none) else (σ, some σ.pos)) else (σ, none)
theorem sign_brkR {σ : Sc} {c : UInt8} (h : signL (σ.s.drop σ.pos) = [c]) : Ran σ.sign { (σ.brkR c.toNat).1.tok 4 [c] σ.pos with pos := σ.pos + 1 } (σ.brkR c.toNat).2 := by
  unfold Sc.sign Sc.brkR Sc.found
  rw [h]
  simp only [bt_zero, List.length_singleton, List.cons_ne_nil, if_false]
  cases ho : opens c.toNat with
  | some e =>
    simp only
    by_cases hb : 60 ≤ σ.brk.length
    · simp only [if_pos hb]; rfl
    · simp only [if_neg hb]; exact ⟨rfl, rfl⟩
  | none =>
    simp only
    by_cases hc : closes c.toNat = true
    · simp only [hc, if_true]
      by_cases hl : σ.brk.getLast? = some c.toNat
      · simp only [hl, if_true]; exact ⟨rfl, rfl⟩
      · simp only [hl, if_false]; rfl
    · rw [Bool.not_eq_true] at hc
      simp only [hc, Bool.false_eq_true, if_false]; exact ⟨rfl, rfl⟩
theorem brkR_bad {σ : Sc} {c : Nat} (ho : opens c = none) (hc : closes c = true) (h : σ.brk = [] ∨ ¬ unc (σ.brk[σ.brk.length - 1]?.getD 0) = unc c) : σ.brkR c = (σ, some σ.pos) := by
  have hl : σ.brk.getLast? ≠ some c := by
    rw [List.getLast?_eq_getElem?]
    intro he
    rcases h with h | h
    · rw [h] at he; cases he
    · rw [he] at h; exact h rfl
  simp only [Sc.brkR, ho, hc, if_true, hl, if_false]
theorem brkR_ok {σ : Sc} {c : Nat} (ho : opens c = none) (hc : closes c = true) (hcl : ∀ x ∈ σ.brk, closes x = true) (h0 : ¬ σ.brk = []) (h : unc (σ.brk[σ.brk.length - 1]?.getD 0) = unc c) : σ.brkR c = ({ σ with brk := σ.brk.dropLast }, none) := by
  have hl : σ.brk.getLast? = some c := by
    have hp := List.length_pos_iff.2 h0
    rw [List.getLast?_eq_getElem?]
    rw [List.getElem?_eq_getElem (by omega)] at h ⊢
    rw [unc_inj (hcl _ (List.getElem_mem _)) hc h]
  simp only [Sc.brkR, ho, hc, if_true, hl]
/-- what a sign's reading hands back, and how the scanner stands then -/
def RanS (σ σ' : Sc) (b : Option Nat) : Prop := if signL (σ.s.drop σ.pos) = [] then σ' = σ ∧ b = none else Ran σ.sign σ' b
theorem ranS_no {σ : Sc} (hp : σ.pos < σ.s.length) (h2 : (σ.s.drop σ.pos).take 2 ∉ twosL) (hc : σ.s.getD σ.pos 0 ∉ onesL) : signL (σ.s.drop σ.pos) = [] := by
  rw [drop_bt hp] at h2 ⊢
  exact signL_no h2 hc
theorem ranS_one {σ : Sc} (hp : σ.pos < σ.s.length) (h2 : (σ.s.drop σ.pos).take 2 ∉ twosL) (hc : σ.s.getD σ.pos 0 ∈ onesL) : signL (σ.s.drop σ.pos) = [σ.s.getD σ.pos 0] := by
  rw [drop_bt hp] at h2 ⊢
  exact signL_one h2 hc
theorem take_one {s : List UInt8} {k : Nat} (h : k < s.length) : (s.take (k + 1)).drop k = [s.getD k 0] := by
  rw [drop_take_bt (Nat.lt_succ_self k) h, List.drop_of_length_le (by simp; omega)]
/-- the two bytes ahead, if there are two -/
def twoR (s : List UInt8) (k : Nat) : List UInt8 := if k + 1 < s.length then (s.take (k + 2)).drop k else []
theorem twoR_take {s : List UInt8} {k : Nat} (h : twoR s k ∈ twosL) : (s.drop k).take 2 = twoR s k := by
  unfold twoR at *
  split
  · rw [take_drop]
  · rename_i h1
    rw [if_neg h1] at h
    exact absurd h (by decide)
theorem twoR_not {s : List UInt8} {k : Nat} (h : twoR s k ∉ twosL) : (s.drop k).take 2 ∉ twosL := by
  intro h1
  have h2 := twos_len _ h1
  refine h ?_
  unfold twoR
  rw [if_pos (by simp at h2; omega), take_drop]; exact h1
theorem bt_u8 (s : List UInt8) (i : Nat) : (bt s i).toUInt8 = s.getD i 0 := by unfold bt; simp
theorem brkR_eq (σ : Sc) (c : Nat) : (σ.brkR c).1 = { σ with brk := (σ.brkR c).1.brk } := by
  unfold Sc.brkR
  split
  · rfl
  · split
    · split <;> rfl
    · rfl
theorem brkR_len (σ : Sc) (c : Nat) : (σ.brkR c).1.brk.length ≤ σ.brk.length + 1 := by
  unfold Sc.brkR
  split
  · simp
  · split
    · split
      · simp; omega
      · simp
    · simp
theorem sign_twoR {σ : Sc} {x : List UInt8} (h : signL (σ.s.drop σ.pos) = x) (hx : x ∈ twosL) : σ.sign = .ok { σ.tok 4 x σ.pos with pos := σ.pos + 2 } := by
  subst h
  have h1 : ∀ x ∈ twosL, x ≠ [] ∧ x.length = 2 ∧ opens (bt x 0) = none ∧ closes (bt x 0) = false := by decide
  obtain ⟨h2, h3, h4, h5⟩ := h1 _ hx
  rw [Sc.sign_plain h2 h4 h5, h3]
theorem ranS_two {σ : Sc} (h : twoR σ.s σ.pos ∈ twosL) : signL (σ.s.drop σ.pos) ≠ [] ∧ RanS σ { σ.tok 4 (twoR σ.s σ.pos) σ.pos with pos := σ.pos + 2 } none := by
  have h1 := twoR_take h
  have h2 : signL (σ.s.drop σ.pos) = twoR σ.s σ.pos := by rw [← h1] at h ⊢; exact signL_two h
  have h3 : twoR σ.s σ.pos ≠ [] := fun h4 => by rw [h4] at h; exact absurd h (by decide)
  refine ⟨by rw [h2]; exact h3, ?_⟩
  unfold RanS
  rw [if_neg (by rw [h2]; exact h3)]
  exact ran_ok (sign_twoR h2 h)
theorem ranS_brk {σ : Sc} (hp : σ.pos < σ.s.length) (h : twoR σ.s σ.pos ∉ twosL) (hc : (bt σ.s σ.pos).toUInt8 ∈ onesL) : signL (σ.s.drop σ.pos) ≠ [] ∧
    RanS σ { ({ σ with brk := (σ.brkR (bt σ.s σ.pos)).1.brk } : Sc).tok 4 ((σ.s.take (σ.pos + 1)).drop σ.pos) σ.pos with pos := σ.pos + 1 } (σ.brkR (bt σ.s σ.pos)).2 := by
  rw [bt_u8] at hc
  have h2 := ranS_one hp (twoR_not h) hc
  have h3 : signL (σ.s.drop σ.pos) ≠ [] := by rw [h2]; simp
  refine ⟨h3, ?_⟩
  unfold RanS
  rw [if_neg h3, take_one hp, ← brkR_eq]
  exact sign_brkR h2
theorem ranS_none {σ : Sc} (hp : σ.pos < σ.s.length) (h : twoR σ.s σ.pos ∉ twosL) (hc : (bt σ.s σ.pos).toUInt8 ∉ onesL) : signL (σ.s.drop σ.pos) = [] ∧ RanS σ σ none := by
  rw [bt_u8] at hc
  have h2 := ranS_no hp (twoR_not h) hc
  refine ⟨h2, ?_⟩
  unfold RanS
  rw [if_pos h2]; exact ⟨rfl, rfl⟩

/-! strings -/
theorem txtR_esc {s : List UInt8} {m j v n : Nat} {acc : List UInt8} (h : j < m) (hm : m ≤ s.length) (h1 : bt s j = 92) (hp : pieceL ((s.take m).drop (j + 1)) = (v, n)) (hn : n ≠ 0) :
    txtL ((s.take m).drop j) j 0 acc = txtL ((s.take m).drop (j + (n + 1))) (j + (n + 1)) 0 (acc ++ [UInt8.ofNat v]) := by
  have := txt_esc (acc := acc) h hm h1 (by rw [hp]; exact hn)
  rw [hp] at this
  exact this
theorem pieceR_n {s : List UInt8} {m j : Nat} (h : j + 1 < m) (hm : m ≤ s.length) (hc : bt s (j + 1) = 110) : pieceL ((s.take m).drop (j + 1)) = (10, 1) := by
  rw [pieceL_at h hm, if_pos hc]
theorem pieceR_t {s : List UInt8} {m j : Nat} (h : j + 1 < m) (hm : m ≤ s.length) (hc : bt s (j + 1) = 116) : pieceL ((s.take m).drop (j + 1)) = (9, 1) := by
  rw [pieceL_at h hm, if_neg (by omega), if_pos hc]
theorem pieceR_q {s : List UInt8} {m j : Nat} (h : j + 1 < m) (hm : m ≤ s.length) (hc : (bt s (j + 1) = 92 ∨ bt s (j + 1) = 34) ∨ bt s (j + 1) = 39) : pieceL ((s.take m).drop (j + 1)) = (bt s (j + 1), 1) := by
  rw [pieceL_at h hm, if_neg (by omega), if_neg (by omega), if_pos (by omega)]
theorem pieceR_x {s : List UInt8} {m j x y : Nat} (h : j + 3 < m) (hm : m ≤ s.length) (hc : bt s (j + 1) = 120) (hx : hexD (bt s (j + 2)) = some x) (hy : hexD (bt s (j + 3)) = some y) : pieceL ((s.take m).drop (j + 1)) = (16 * x + y, 3) := by
  rw [pieceL_at (by omega) hm, if_neg (by omega), if_neg (by omega), if_neg (by omega), if_pos hc, hexL_at hm, if_pos h, hx, hy]
theorem pieceR_bad {s : List UInt8} {m j : Nat} (h : j + 1 < m) (hm : m ≤ s.length) (h1 : ¬ bt s (j + 1) = 110) (h2 : ¬ bt s (j + 1) = 116) (h3 : ¬ ((bt s (j + 1) = 92 ∨ bt s (j + 1) = 34) ∨ bt s (j + 1) = 39))
    (h4 : ¬ (((bt s (j + 1) = 120 ∧ j + 3 < m) ∧ 0 ≤ hexI (bt s (j + 2))) ∧ 0 ≤ hexI (bt s (j + 3)))) : (pieceL ((s.take m).drop (j + 1))).2 = 0 := by
  rw [pieceL_at h hm, if_neg h1, if_neg h2, if_neg (by omega)]
  by_cases hx : bt s (j + 1) = 120
  · rw [if_pos hx, hexL_at hm]
    by_cases hl : j + 3 < m
    · rw [if_pos hl]
      cases e1 : hexD (bt s (j + 2)) with
      | none => rfl
      | some x =>
        cases e2 : hexD (bt s (j + 3)) with
        | none => rfl
        | some y =>
          refine absurd ⟨⟨⟨hx, hl⟩, ?_⟩, ?_⟩ h4
          · unfold hexI; rw [e1]; simp
          · unfold hexI; rw [e2]; simp
    · rw [if_neg hl]
  · rw [if_neg hx]
theorem hexI_ge {c : Nat} (h : 0 ≤ hexI c) : ∃ x, hexD c = some x ∧ x < 16 ∧ hexI c = (x : Int) := by
  unfold hexI at *
  cases e : hexD c with
  | none => rw [e] at h; simp at h
  | some x => exact ⟨x, rfl, hexD_lt e, rfl⟩
theorem inR_hex {q i e x y : Nat} {s : List UInt8} (h : endL q (s.drop (i + 2)) (i + 2) = some (e + 1)) (hi : i + 3 < e) (hx : hexD (bt s (i + 2)) = some x) (hy : hexD (bt s (i + 3)) = some y) : endL q (s.drop (i + 4)) (i + 4) = some (e + 1) :=
  inR_plain (inR_plain h (by omega) (hexD_plain hx)) hi (hexD_plain hy)
end Go.Lex
