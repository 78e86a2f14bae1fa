/-
  Proved here: plain: how a text is quoted, and what the scanner makes of two quoted texts in brackets.
-/
import Derived.Test.YtggoogbloaennaaDoorBlkP
namespace Go.Lex
open Go.SX
def quoteC (c : UInt8) : List UInt8 :=
  if c.toNat = 10 then [92, 110] else if c.toNat = 9 then [92, 116] else if c.toNat = 92 ∨ c.toNat = 34 then [92, c] else
  if c.toNat < 32 ∨ c.toNat = 127 then [92, 120, hexes.getD (c.toNat / 16) 0, hexes.getD (c.toNat % 16) 0] else [c]
def quoteB (s : List UInt8) : List UInt8 := s.flatMap quoteC
def quoteL (s : List UInt8) : List UInt8 := [34] ++ quoteB s ++ [34]
theorem endL_step {q : Nat} {c : UInt8} {r : List UInt8} {i : Nat} (h1 : c.toNat ≠ 10) (h2 : c.toNat ≠ q) (h3 : c.toNat ≠ 92) : endL q (c :: r) i = endL q r (i + 1) := by
  rw [endL.eq_def]; dsimp only
  rw [if_neg h1, if_neg h2, if_neg h3]
theorem endL_hit {q : Nat} {c : UInt8} {r : List UInt8} {i : Nat} (h1 : c.toNat ≠ 10) (h2 : c.toNat = q) : endL q (c :: r) i = some (i + 1) := by
  rw [endL.eq_def]; dsimp only
  rw [if_neg h1, if_pos h2]
theorem endL_piece : ∀ c : UInt8, ∀ (r : List UInt8) (i : Nat), endL 34 (quoteC c ++ r) i = endL 34 r (i + (quoteC c).length) := by
  intro c r i
  unfold quoteC
  split
  · simp [endL]
  · split
    · simp [endL]
    · split
      · rename_i h1 h2 h3
        have h10 : ¬ c.toNat = 10 := h1
        simp [endL, h10]
      · split
        · rename_i h1 h2 h3 h4
          have key : ∀ k : Nat, k < 16 → (hexes.getD k 0).toNat ≠ 10 ∧ (hexes.getD k 0).toNat ≠ 34 ∧ (hexes.getD k 0).toNat ≠ 92 := by decide
          have ka := key (c.toNat / 16) (by have := c.toNat_lt; omega)
          have kb := key (c.toNat % 16) (by omega)
          show endL 34 (92 :: 120 :: hexes.getD (c.toNat / 16) 0 :: hexes.getD (c.toNat % 16) 0 :: r) i = _
          have e1 : endL 34 (92 :: 120 :: hexes.getD (c.toNat / 16) 0 :: hexes.getD (c.toNat % 16) 0 :: r) i = endL 34 (hexes.getD (c.toNat / 16) 0 :: hexes.getD (c.toNat % 16) 0 :: r) (i + 2) := rfl
          rw [e1, endL_step ka.1 ka.2.1 ka.2.2, endL_step kb.1 kb.2.1 kb.2.2]
          rfl
        · rename_i h1 h2 h3 h4
          have h92 : ¬ c.toNat = 92 := fun h => h3 (.inl h)
          have h34 : ¬ c.toNat = 34 := fun h => h3 (.inr h)
          exact endL_step h1 h34 h92
theorem endL_quote : ∀ (s rest : List UInt8) (i : Nat), endL 34 (quoteB s ++ 34 :: rest) i = some (i + (quoteB s).length + 1)
  | [], rest, i => endL_hit (c := 34) (by decide) rfl
  | c :: s, rest, i => by
    have : quoteB (c :: s) = quoteC c ++ quoteB s := by simp [quoteB]
    rw [this, List.append_assoc, endL_piece, endL_quote s rest]
    simp; omega
theorem hex_back : ∀ c : Nat, c < 256 → hexL [hexes.getD (c / 16) 0, hexes.getD (c % 16) 0] = some c := by decide +kernel
theorem hexL_cons (a b : UInt8) (r : List UInt8) : hexL (a :: b :: r) = hexL [a, b] := rfl
theorem txtL_piece (c : UInt8) (r : List UInt8) (i : Nat) (acc : List UInt8) : txtL (quoteC c ++ r) i 0 acc = txtL r (i + (quoteC c).length) 0 (acc ++ [c]) := by
  unfold quoteC
  split
  · rename_i h
    have e : c = 10 := UInt8.toNat_inj.1 h
    subst e
    simp [txtL, pieceL]
  · split
    · rename_i h1 h
      have e : c = 9 := UInt8.toNat_inj.1 h
      subst e
      simp [txtL, pieceL]
    · split
      · rename_i h1 h2 h
        rcases h with h | h
        · have e : c = 92 := UInt8.toNat_inj.1 h
          subst e
          simp [txtL, pieceL]
        · have e : c = 34 := UInt8.toNat_inj.1 h
          subst e
          simp [txtL, pieceL]
      · split
        · have hx := hex_back c.toNat c.toNat_lt
          simp only [List.cons_append, List.nil_append]
          rw [txtL, if_pos (by decide)]
          have hp : pieceL (120 :: hexes.getD (c.toNat / 16) 0 :: hexes.getD (c.toNat % 16) 0 :: r) = (c.toNat, 3) := by
            rw [pieceL, hexL_cons, hx]; rfl
          rw [hp, if_neg (show ¬ (3 : Nat) = 0 by decide)]
          simp [txtL]
        · rename_i h1 h2 h3 h4
          have h92 : ¬ c.toNat = 92 := fun h => h3 (.inl h)
          simp only [List.cons_append, List.nil_append]
          rw [txtL, if_neg h92, if_neg h4]; rfl
theorem txtL_quote : ∀ (s : List UInt8) (i : Nat) (acc : List UInt8), txtL (quoteB s) i 0 acc = .ok (acc ++ s)
  | [], i, acc => by simp [quoteB, txtL]
  | c :: s, i, acc => by
    have : quoteB (c :: s) = quoteC c ++ quoteB s := by simp [quoteB]
    rw [this, txtL_piece, txtL_quote s]; simp
/-- a quoted text, behind the head of its line -/
theorem run_quote {σ : Sc} (hI : Inv σ) (hl : σ.line = true) {s rest : List UInt8} (hd : σ.s.drop σ.pos = quoteL s ++ rest) :
    Inv { σ with pos := σ.pos + (quoteL s).length, out := σ.out ++ [⟨3, s, σ.pos⟩] } ∧ ({ σ with pos := σ.pos + (quoteL s).length, out := σ.out ++ [⟨3, s, σ.pos⟩] } : Sc).go = σ.go := by
  have hd0 : σ.s.drop σ.pos = 34 :: (quoteB s ++ 34 :: rest) := by rw [hd]; simp [quoteL]
  obtain ⟨hp, hb, hd1⟩ := at_head hd0
  have hb' : bt σ.s σ.pos = 34 := hb
  have he := endL_quote s rest (σ.pos + 1)
  rw [← hd1] at he
  have hbody : (σ.s.take (σ.pos + 1 + (quoteB s).length + 1 - 1)).drop (σ.pos + 1) = quoteB s := by
    rw [show σ.pos + 1 + (quoteB s).length + 1 - 1 = (σ.pos + 1) + (quoteB s).length by omega, take_drop, hd1]; simp
  have ht : σ.text 34 = .ok ({ σ with pos := σ.pos + (quoteL s).length, out := σ.out ++ [⟨3, s, σ.pos⟩] } : Sc) := by
    rw [Sc.text_ok he (by rw [hbody]; exact txtL_quote s _ [])]
    have : (quoteL s).length = (quoteB s).length + 2 := by simp [quoteL]
    simp [Sc.tok, this]; omega
  have hs : σ.step = .ok ({ σ with pos := σ.pos + (quoteL s).length, out := σ.out ++ [⟨3, s, σ.pos⟩] } : Sc) := by
    rw [Sc.step_line (by omega) (by omega) (by omega) hl, hb', Sc.token_text (by decide) (by decide) (.inl rfl), ht]
  exact run_step hs hI hp
theorem run_sp {σ : Sc} (hI : Inv σ) {rest : List UInt8} (hd : σ.s.drop σ.pos = 32 :: rest) : Inv { σ with pos := σ.pos + 1 } ∧ ({ σ with pos := σ.pos + 1 } : Sc).go = σ.go := by
  obtain ⟨hp, hb, _⟩ := at_head hd
  exact run_step (Sc.step_sp hb) hI hp
/-- a sign of one byte that neither opens nor closes -/
theorem step_sign {σ : Sc} (hl : σ.line = true) {c : UInt8} {rest : List UInt8} (hd : σ.s.drop σ.pos = c :: rest) (hs : signL (c :: rest) = [c])
    (h0 : c.toNat ≠ 10 ∧ c.toNat ≠ 32 ∧ c.toNat ≠ 35 ∧ isLet c.toNat = false ∧ isDig c.toNat = false ∧ c.toNat ≠ 34 ∧ c.toNat ≠ 39) {brk' : List Nat}
    (hk : (opens c.toNat = none ∧ closes c.toNat = false ∧ brk' = σ.brk) ∨ (∃ e, opens c.toNat = some e ∧ σ.brk.length < 60 ∧ brk' = σ.brk ++ [e]) ∨ (opens c.toNat = none ∧ closes c.toNat = true ∧ σ.brk.getLast? = some c.toNat ∧ brk' = σ.brk.dropLast)) :
    σ.step = .ok ({ σ with pos := σ.pos + 1, brk := brk', out := σ.out ++ [⟨4, [c], σ.pos⟩] } : Sc) := by
  obtain ⟨hp, hb, _⟩ := at_head hd
  have hf : σ.found = [c] := by unfold Sc.found; rw [hd, hs]
  have hsg : σ.sign = .ok ({ σ with pos := σ.pos + 1, brk := brk', out := σ.out ++ [⟨4, [c], σ.pos⟩] } : Sc) := by
    unfold Sc.sign
    rw [hf]
    have hb0 : bt [c] 0 = c.toNat := rfl
    simp only [hb0, List.cons_ne_nil, if_false, List.length_singleton, reduceCtorEq]
    rcases hk with ⟨h1, h2, h3⟩ | ⟨e, h1, h2, h3⟩ | ⟨h1, h2, h3, h4⟩
    · subst h3; simp [h1, h2, Sc.tok]
    · subst h3; simp [h1, Nat.not_le.2 h2, Sc.tok]
    · subst h4; simp [h1, h2, h3, Sc.tok]
  rw [Sc.step_line (by rw [hb]; exact h0.1) (by rw [hb]; exact h0.2.1) (by rw [hb]; exact h0.2.2.1) hl, hb, Sc.token_sign h0.2.2.2.1 h0.2.2.2.2.1 (by rintro (h | h); exact h0.2.2.2.2.2.1 h; exact h0.2.2.2.2.2.2 h), hsg]
/-- the head of a text's first line: no spaces ahead -/
theorem run_first {σ : Sc} (hI : Inv σ) (hl : σ.line = false) (h0 : σ.pos = 0) (hb : σ.blocks = [0]) {c : UInt8} {rest : List UInt8} (hd : σ.s.drop σ.pos = c :: rest) (h1 : c.toNat ≠ 10 ∧ c.toNat ≠ 32 ∧ c.toNat ≠ 35) (hg : σ.begins = true) :
    σ.step = ({ σ with line := true } : Sc).step := by
  obtain ⟨hp, hbt, _⟩ := at_head hd
  have hc : σ.col = 0 := by unfold Sc.col; rw [h0]; rfl
  have hbg : σ.begin = .ok ({ σ with line := true } : Sc) := by
    have h2 : Sc.outdent σ.col σ.blocks.length ({ σ with line := true } : Sc) = ({ σ with line := true } : Sc) := outdent_end (by simp only [hb, hc]; decide)
    exact Sc.begin_out hg (by rw [hc]; exact Nat.zero_le _) h2 (by rw [hc]; simp [hb])
  rw [Sc.step_beg (by rw [hbt]; exact h1.1) (by rw [hbt]; exact h1.2.1) (by rw [hbt]; exact h1.2.2) hl hbg]
  exact (Sc.step_line (σ := { σ with line := true }) (by simp only [hbt]; exact h1.1) (by simp only [hbt]; exact h1.2.1) (by simp only [hbt]; exact h1.2.2) rfl).symm
def quoT (s t : List UInt8) : List UInt8 := [91] ++ quoteL s ++ [44, 32] ++ quoteL t ++ [93]
def quoN (s t : List UInt8) : Nat := 4 + (quoteL s).length + (quoteL t).length
def quoR (s t : List UInt8) : List Tok := [⟨4, [91], 0⟩, ⟨3, s, 1⟩, ⟨4, [44], 1 + (quoteL s).length⟩, ⟨3, t, 1 + (quoteL s).length + 1 + 1⟩, ⟨4, [93], 1 + (quoteL s).length + 1 + 1 + (quoteL t).length⟩, ⟨5, [], quoN s t⟩, ⟨8, [], quoN s t⟩]
theorem quotes_law (s t : List UInt8) : scan (quoT s t) = .ok (quoR s t) := by
  have hT : quoT s t = 91 :: (quoteL s ++ 44 :: 32 :: (quoteL t ++ [93])) := by simp [quoT]
  have hlen : (quoT s t).length = quoN s t := by rw [hT]; simp [quoN]; omega
  have d0 : (quoT s t).drop 0 = 91 :: (quoteL s ++ 44 :: 32 :: (quoteL t ++ [93])) := hT
  have d1 : (quoT s t).drop (0 + 1) = quoteL s ++ 44 :: 32 :: (quoteL t ++ [93]) := by rw [hT]; rfl
  have d2 : (quoT s t).drop (0 + 1 + (quoteL s).length) = 44 :: 32 :: (quoteL t ++ [93]) := by rw [← List.drop_drop, d1]; simp
  have d3 : (quoT s t).drop (0 + 1 + (quoteL s).length + 1) = 32 :: (quoteL t ++ [93]) := by rw [← List.drop_drop, d2]; rfl
  have d4 : (quoT s t).drop (0 + 1 + (quoteL s).length + 1 + 1) = quoteL t ++ [93] := by rw [← List.drop_drop, d3]; rfl
  have d5 : (quoT s t).drop (0 + 1 + (quoteL s).length + 1 + 1 + (quoteL t).length) = 93 :: [] := by rw [← List.drop_drop, d4]; simp
  have hfound : (Sc.start (quoT s t)).begins = true := by
    have : (Sc.start (quoT s t)).found = [91] := by unfold Sc.found Sc.start; simp only [d0]; rfl
    unfold Sc.begins; rw [this]; simp
  have s1 := (run_first (start_inv _) rfl rfl rfl d0 (by decide) hfound).trans
    (step_sign (σ := { Sc.start (quoT s t) with line := true }) rfl d0 rfl (by decide) (.inr (.inl ⟨93, rfl, Nat.zero_lt_succ _, rfl⟩)))
  have r1 := run_step s1 (start_inv _) (at_head d0).1
  simp only [Sc.start, List.nil_append] at r1
  have r2 := run_quote r1.1 rfl d1
  have r3 := run_step (step_sign (brk' := [93]) (by rfl) d2 rfl (by decide) (.inl ⟨rfl, rfl, rfl⟩)) r2.1 (at_head d2).1
  have r4 := run_sp r3.1 d3
  have r5 := run_quote r4.1 rfl d4
  have r6 := run_step (step_sign (brk' := []) (by rfl) d5 rfl (by decide) (.inr (.inr ⟨rfl, rfl, rfl, rfl⟩))) r5.1 (at_head d5).1
  have hg := (r6.2.trans (r5.2.trans (r4.2.trans (r3.2.trans (r2.2.trans r1.2))))).symm.trans (go_end (by simp only [hlen, quoN]; omega))
  rw [scan_ok (s := quoT s t) hg rfl, hlen]
  simp [Sc.nl, Sc.tok, quoR, dedents, quoN]
  omega
/-- what is quoted behind k bytes -/
def qb (s : List UInt8) (k : Nat) : List UInt8 := 34 :: quoteB (s.take k)
theorem qb_next {s : List UInt8} {k : Nat} (h : k < s.length) : qb s (k + 1) = qb s k ++ quoteC (s.getD k 0) := by
  unfold qb quoteB
  rw [List.take_add_one, List.flatMap_append]
  simp [List.getD, h]
theorem quoteC_len (c : UInt8) : (quoteC c).length ≤ 4 := by
  unfold quoteC
  split
  · decide
  · split
    · decide
    · split
      · simp
      · split <;> simp
theorem quoteB_len : ∀ s : List UInt8, (quoteB s).length ≤ 4 * s.length
  | [] => by simp [quoteB]
  | c :: s => by
    have : quoteB (c :: s) = quoteC c ++ quoteB s := by simp [quoteB]
    rw [this, List.length_append, List.length_cons]
    have h1 := quoteC_len c
    have h2 := quoteB_len s
    omega
theorem quoteL_len (s : List UInt8) : (quoteL s).length ≤ 4 * s.length + 2 := by
  have := quoteB_len s
  simp [quoteL]; omega
theorem qb_len (s : List UInt8) (k : Nat) : (qb s k).length ≤ 4 * k + 1 := by
  have h := quoteB_len (s.take k)
  rw [List.length_take] at h
  simp only [qb, List.length_cons]; omega
theorem qb_all (s : List UInt8) : qb s s.length ++ [34] = quoteL s := by simp [qb, quoteL]
theorem and15 (a : Nat) : a &&& 15 = a % 16 := Nat.and_two_pow_sub_one_eq_mod a 4
theorem quoteC_n {c : UInt8} (h : c.toNat = 10) : quoteC c = [92, 110] := if_pos h
theorem quoteC_t {c : UInt8} (h0 : ¬ c.toNat = 10) (h : c.toNat = 9) : quoteC c = [92, 116] := by unfold quoteC; rw [if_neg h0, if_pos h]
theorem quoteC_q {c : UInt8} (h0 : ¬ c.toNat = 10) (h1 : ¬ c.toNat = 9) (h : c.toNat = 92 ∨ c.toNat = 34) : quoteC c = [92, c] := by unfold quoteC; rw [if_neg h0, if_neg h1, if_pos h]
theorem quoteC_x {c : UInt8} (h0 : ¬ c.toNat = 10) (h1 : ¬ c.toNat = 9) (h2 : ¬ (c.toNat = 92 ∨ c.toNat = 34)) (h : c.toNat < 32 ∨ c.toNat = 127) : quoteC c = [92, 120, hexes.getD (c.toNat / 16) 0, hexes.getD (c.toNat % 16) 0] := by
  unfold quoteC; rw [if_neg h0, if_neg h1, if_neg h2, if_pos h]
theorem quoteC_c {c : UInt8} (h0 : ¬ c.toNat = 10) (h1 : ¬ c.toNat = 9) (h2 : ¬ (c.toNat = 92 ∨ c.toNat = 34)) (h : ¬ (c.toNat < 32 ∨ c.toNat = 127)) : quoteC c = [c] := by
  unfold quoteC; rw [if_neg h0, if_neg h1, if_neg h2, if_neg h]
end Go.Lex
