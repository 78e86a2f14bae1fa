/-
  Proved here: plain: what the scanner makes of a number behind an equals sign.
-/
import Derived.Test.YtggoogbloaennaaDoorQuoP
namespace Go.Lex
open Go.SX
def numT (s : List UInt8) (lt : Bool) : List UInt8 := 120 :: 32 :: 61 :: 32 :: (s ++ if lt then [97] else [])
def numR (s : List UInt8) : List Tok := [⟨1, [120], 0⟩, ⟨4, [61], 2⟩, ⟨2, s, 4⟩, ⟨5, [], 4 + s.length⟩, ⟨8, [], 4 + s.length⟩]
theorem dig_no_let {c : Nat} (h : isDig c = true) : isLet c = false := by
  unfold isDig at h; unfold isLet
  simp only [Bool.and_eq_true, decide_eq_true_eq] at h
  simp; omega
theorem numL_digits (rest : List UInt8) : ∀ s : List UInt8, (∀ c ∈ s, isDig c.toNat = true) → numL (s ++ rest) = (numL rest).map (· + s.length)
  | [], _ => by
    rw [List.nil_append]
    cases numL rest <;> rfl
  | c :: s, h => by
    have h1 := h c (by simp)
    have h2 := numL_digits rest s (fun c hc => h c (by simp [hc]))
    rw [List.cons_append, numL, if_neg (by rw [dig_no_let h1]; decide), if_pos h1, h2]
    cases numL rest <;> simp; omega
/-- the scanner ahead of the number -/
def numS (s : List UInt8) (lt : Bool) : Sc := ⟨numT s lt, 4, [⟨1, [120], 0⟩, ⟨4, [61], 2⟩], [0], [], true⟩
theorem num_ahead (s : List UInt8) (lt : Bool) : Inv (numS s lt) ∧ (numS s lt).go = (Sc.start (numT s lt)).go := by
  have d0 : (numT s lt).drop 0 = 120 :: 32 :: 61 :: 32 :: (s ++ if lt then [97] else []) := rfl
  have hbg : (Sc.start (numT s lt)).begins = true := by unfold Sc.begins; rfl
  have s1 := (run_first (start_inv _) rfl rfl rfl d0 (by decide) hbg).trans
    ((Sc.step_line (σ := { Sc.start (numT s lt) with line := true }) (show (120 : Nat) ≠ 10 by decide) (show (120 : Nat) ≠ 32 by decide) (show (120 : Nat) ≠ 35 by decide) rfl).trans (Sc.token_word (show isLet 120 = true by decide)))
  have hw : ({ Sc.start (numT s lt) with line := true } : Sc).word = ⟨numT s lt, 1, [⟨1, [120], 0⟩], [0], [], true⟩ := by
    have h1 : wordL (numT s lt) = 1 := rfl
    unfold Sc.word
    simp only [Sc.start, List.drop_zero, h1]
    rfl
  rw [hw] at s1
  have r1 := run_step s1 (start_inv _) (at_head d0).1
  have r2 := run_sp (rest := 61 :: 32 :: (s ++ if lt then [97] else [])) r1.1 rfl
  have r3 := run_step (step_sign (c := 61) (rest := 32 :: (s ++ if lt then [97] else [])) (brk' := []) (by rfl) rfl rfl (by decide) (.inl ⟨rfl, rfl, rfl⟩)) r2.1 (at_head (c := 61) (r := 32 :: (s ++ if lt then [97] else [])) rfl).1
  have r4 := run_sp (rest := s ++ if lt then [97] else []) r3.1 rfl
  exact ⟨r4.1, r4.2.trans (r3.2.trans (r2.2.trans r1.2))⟩
theorem num_token {s : List UInt8} (lt : Bool) (hd : ∀ c ∈ s, isDig c.toNat = true) (hne : s ≠ []) : (numS s lt).step = (numS s lt).number ∧ (numS s lt).pos < (numS s lt).s.length := by
  obtain ⟨c, r, rfl⟩ := List.exists_cons_of_ne_nil hne
  have h1 := hd c (by simp)
  have hb : bt (numS (c :: r) lt).s (numS (c :: r) lt).pos = c.toNat := rfl
  have h2 : 48 ≤ c.toNat ∧ c.toNat ≤ 57 := by unfold isDig at h1; simpa using h1
  refine ⟨?_, by simp [numS, numT]⟩
  rw [Sc.step_line (by rw [hb]; omega) (by rw [hb]; omega) (by rw [hb]; omega) rfl, Sc.token_num (by rw [hb]; exact dig_no_let h1) (by rw [hb]; exact h1)]
theorem num_drop (s : List UInt8) (lt : Bool) : (numS s lt).s.drop (numS s lt).pos = s ++ if lt then [97] else [] := rfl
theorem numbers_bad {s : List UInt8} {lt : Bool} (hd : ∀ c ∈ s, isDig c.toNat = true) (hne : s ≠ []) (h : lt = true ∨ 600 < s.length ∨ (bt s 0 = 48 ∧ 1 < s.length)) : scan (numT s lt) = .error 4 := by
  obtain ⟨h1, h2⟩ := num_ahead s lt
  obtain ⟨h3, h4⟩ := num_token lt hd hne
  refine scan_err (h2.symm.trans (go_err ?_ h4))
  rw [h3]
  unfold Sc.number
  rw [num_drop, numL_digits _ s hd]
  cases lt with
  | true => rfl
  | false =>
    have h5 : (s ++ if false = true then [97] else []).take (0 + s.length) = s := by simp
    have h6 : ((numL (if false = true then [97] else [])).map (· + s.length)) = some (0 + s.length) := rfl
    simp only [h6, h5]
    rw [if_pos (by rcases h with h | h | h; cases h; exact .inl (by omega); exact .inr ⟨h.1, by omega⟩)]
    rfl
theorem numbers_ok {s : List UInt8} (hd : ∀ c ∈ s, isDig c.toNat = true) (hne : s ≠ []) (h : s.length ≤ 600) (hz : ¬ (bt s 0 = 48 ∧ 1 < s.length)) : scan (numT s false) = .ok (numR s) := by
  obtain ⟨h1, h2⟩ := num_ahead s false
  obtain ⟨h3, h4⟩ := num_token false hd hne
  have h7 : (numS s false).number = .ok ({ numS s false with pos := 4 + s.length, out := [⟨1, [120], 0⟩, ⟨4, [61], 2⟩, ⟨2, s, 4⟩] } : Sc) := by
    unfold Sc.number
    rw [num_drop, numL_digits _ s hd]
    have h5 : (s ++ if false = true then [97] else []).take (0 + s.length) = s := by simp
    have h6 : ((numL (if false = true then [97] else [])).map (· + s.length)) = some (0 + s.length) := rfl
    simp only [h6, h5]
    rw [if_neg (by rintro (h8 | h8); omega; exact hz ⟨h8.1, by omega⟩)]
    simp [numS, Sc.tok]
  have r := run_step (h3.trans h7) h1 h4
  have hlen : (numT s false).length = 4 + s.length := by simp [numT]; omega
  have hg := (r.2.trans h2).symm.trans (go_end (by simp only [numS, hlen]; omega))
  rw [scan_ok (s := numT s false) hg rfl, hlen]
  simp [Sc.nl, Sc.tok, numS, numR, dedents]
/-- Go's rest, by 700 -/
def nOf7 (z : Int) : Nat := (z % 700).toNat
theorem nOf7_eq (z : Int) : Int.tmod (Int.tmod z 700 + 700) 700 = (nOf7 z : Int) := by
  unfold nOf7
  rcases Int.lt_or_le z 0 with h | h
  · obtain ⟨a, rfl⟩ : ∃ a : Int, z = -a := ⟨-z, by omega⟩
    rw [Int.neg_tmod, Int.tmod_eq_emod_of_nonneg (a := a) (by omega), Int.tmod_eq_emod_of_nonneg (by omega)]
    omega
  · rw [Int.tmod_eq_emod_of_nonneg (a := z) h, Int.tmod_eq_emod_of_nonneg (by omega)]
    omega
theorem nOf7_lt (z : Int) : nOf7 z < 700 := by unfold nOf7; omega
theorem tmod7_bd (z : Int) : -700 < Int.tmod z 700 ∧ Int.tmod z 700 < 700 := by
  rcases Int.lt_or_le z 0 with h | h
  · obtain ⟨a, rfl⟩ : ∃ a : Int, z = -a := ⟨-z, by omega⟩
    rw [Int.neg_tmod, Int.tmod_eq_emod_of_nonneg (a := a) (by omega)]
    omega
  · rw [Int.tmod_eq_emod_of_nonneg (a := z) h]
    omega
def numD (z : Bool) (n : Nat) : List UInt8 := (if z then [48] else []) ++ List.replicate n 55
theorem numD_dig (z : Bool) (n : Nat) : ∀ c ∈ numD z n, isDig c.toNat = true := by
  intro c hc
  unfold numD at hc
  rw [List.mem_append] at hc
  rcases hc with h | h
  · cases z with
    | true => simp at h; subst h; rfl
    | false => cases h
  · rw [List.eq_of_mem_replicate h]; rfl
theorem numD_len (z : Bool) (n : Nat) : (numD z n).length = n + if z then 1 else 0 := by
  cases z <;> simp [numD]
theorem numD_bad {z lt : Bool} {n : Nat} (hne : numD z n ≠ []) (h : lt = true ∨ (z = true ∧ 0 < n) ∨ 600 < n) : scan (numT (numD z n) lt) = .error 4 := by
  refine numbers_bad (numD_dig z n) hne ?_
  rcases h with h | ⟨h1, h2⟩ | h
  · exact .inl h
  · subst h1
    exact .inr (.inr ⟨rfl, by rw [numD_len]; simp; omega⟩)
  · exact .inr (.inl (by rw [numD_len]; omega))
theorem numD_ok {z lt : Bool} {n : Nat} (hne : numD z n ≠ []) (h : ¬ (lt = true ∨ (z = true ∧ 0 < n) ∨ 600 < n)) : lt = false ∧ scan (numT (numD z n) false) = .ok (numR (numD z n)) := by
  have hlt : lt = false := by cases lt <;> simp_all
  refine ⟨hlt, numbers_ok (numD_dig z n) hne ?_ ?_⟩
  · rw [numD_len]
    have h1 : ¬ 600 < n := fun h1 => h (.inr (.inr h1))
    cases z with
    | false => simp; omega
    | true => have h2 : ¬ 0 < n := fun h2 => h (.inr (.inl ⟨rfl, h2⟩)); simp; omega
  · rintro ⟨h1, h2⟩
    cases z with
    | false =>
      cases n with
      | zero => exact hne rfl
      | succ n => exact absurd h1 (show ¬ (55 : UInt8).toNat = 48 by decide)
    | true =>
      rw [numD_len] at h2
      exact h (.inr (.inl ⟨rfl, by simp at h2; exact h2⟩))
end Go.Lex
