/-
  Proved here: plain: how a text that ends in a newline is scanned, and how it is with a line put behind it. No program stands here.
-/
import Derived.Test.YtfbenelagdcdgaaDoorBhA
namespace Go.Lex.Bh
open Go.SX Go.Lex
variable {s s' : List UInt8} {p : Nat} {v v' : List UInt8}
/-- blocks within others begin further in -/
def Bl (σ : Sc) : Prop := ∀ x ∈ σ.blocks.tail, 0 < x
theorem bl_drop {l : List Nat} (h : ∀ x ∈ l.tail, 0 < x) : ∀ x ∈ l.dropLast.tail, 0 < x := by
  match l, h with
  | [], _ => intro x hx; cases hx
  | [a], _ => intro x hx; cases hx
  | a :: b :: r, h =>
    intro x hx
    simp only [List.dropLast_cons_cons, List.tail_cons] at hx h
    exact h x (List.dropLast_subset _ hx)
theorem bl_outdent (i : Nat) : ∀ (f : Nat) (σ : Sc), Bl σ → Bl (Sc.outdent i f σ)
  | 0, _, h => h
  | f + 1, σ, h => by
    unfold Sc.outdent
    split
    · exact bl_outdent i f _ (bl_drop h)
    · exact h
theorem bl_begin {σ σ1 : Sc} (h : σ.begin = .ok σ1) (hB : Bl σ) (hn : 0 < σ.blocks.length) : Bl σ1 := by
  unfold Sc.begin at h
  split at h
  · cases h
  · dsimp only at h
    split at h
    · next h1 =>
      split at h
      · cases h
      · cases h
        intro x hx
        match hb : σ.blocks, hn with
        | a :: r, _ =>
          simp only [Sc.tok, hb, List.cons_append, List.tail_cons, List.mem_append, List.mem_singleton] at hx
          rcases hx with hx | hx
          · exact hB x (by rw [hb]; exact hx)
          · omega
    · split at h
      · cases h; exact bl_outdent _ _ _ hB
      · cases h
theorem bl_step {σ σ1 : Sc} (h : σ.step = .ok σ1) (hI : Inv σ) (hp : σ.pos < σ.s.length) (hB : Bl σ) : Bl σ1 := by
  by_cases h10 : bt σ.s σ.pos = 10
  · by_cases hk : σ.brk = []
    · rw [Sc.step_nl h10 hk] at h
      cases h
      have h1 := Sc.nl_keeps σ
      unfold Bl
      simp only [h1.2.1]
      exact hB
    · rw [Sc.step_br h10 hk] at h
      cases h
      exact hB
  by_cases h32 : bt σ.s σ.pos = 32
  · rw [Sc.step_sp h32] at h
    cases h
    exact hB
  by_cases h35 : bt σ.s σ.pos = 35
  · rw [Sc.step_com h35] at h
    unfold Sc.comment at h
    cases hc : comL (σ.s.drop σ.pos) σ.pos with
    | error e => rw [hc] at h; cases h
    | ok j => rw [hc] at h; cases h; exact hB
  by_cases hl : σ.line = true
  · rw [Sc.step_line h10 h32 h35 hl] at h
    have := Sc.token_ok h hp hI.brk
    unfold Bl
    rw [this.2.1]
    exact hB
  · simp only [Bool.not_eq_true] at hl
    cases hbg : σ.begin with
    | error e => rw [Sc.step_err h10 h32 h35 hl hbg] at h; cases h
    | ok σ2 =>
      rw [Sc.step_beg h10 h32 h35 hl hbg] at h
      have hk := Sc.begin_ok hbg hI.head hI.some hI.deep hI.brk
      rw [← hk.1.s, ← hk.2.1] at h
      have := Sc.token_ok h (by rw [hk.1.s, hk.2.1]; exact hp) hk.1.brk
      unfold Bl
      rw [this.2.1]
      exact bl_begin hbg hB hI.some
theorem inv_s (σ : Sc) (hI : Inv σ) {s' : List UInt8} (h : σ.pos ≤ s'.length) : Inv { σ with s := s' } := ⟨h, hI.head, hI.some, hI.deep, hI.brk, hI.few⟩
/-- up to the newline both are scanned alike -/
theorem go_cut (h : Cut s s' p v v') (hp' : p < s'.length) (hp : p < s.length) {σe : Sc} : ∀ (n : Nat) (σ : Sc), p - σ.pos ≤ n → Inv σ → Bl σ → σ.s = s → σ.pos ≤ p → σ.go = .ok σe →
    ∃ σ1 : Sc, Inv σ1 ∧ Bl σ1 ∧ σ1.s = s ∧ σ1.pos = p ∧ σ1.go = .ok σe ∧ ({ σ with s := s' } : Sc).go = ({ σ1 with s := s' } : Sc).go := by
  intro n
  induction n with
  | zero => intro σ hn hI hB hs hle hg; exact ⟨σ, hI, hB, hs, by omega, hg, rfl⟩
  | succ n ih =>
    intro σ hn hI hB hs hle hg
    by_cases he : σ.pos = p
    · exact ⟨σ, hI, hB, hs, he, hg, rfl⟩
    have hlt : σ.pos < p := by omega
    have hl1 : σ.pos < σ.s.length := by rw [hs]; omega
    cases hst : σ.step with
    | error e => rw [go_err hst hl1] at hg; cases hg
    | ok σ2 =>
      have h2 := Sc.step_ok hst hI hl1
      obtain ⟨c1, c2⟩ := h.step hs hlt hst
      rw [← go_step hst hI hl1] at hg
      obtain ⟨σ1, a1, a2, a3, a4, a5, a6⟩ := ih σ2 (by have := h2.2.2; omega) h2.1 (bl_step hst hI hl1 hB) (h2.2.1.trans hs) c2 hg
      exact ⟨σ1, a1, a2, a3, a4, a5, (go_step c1 (inv_s σ hI (by omega)) (by show σ.pos < s'.length; omega)).symm.trans a6⟩
theorem outdent_all : ∀ (l : List Nat) (a : Nat) (σ : Sc), σ.blocks = a :: l → a = 0 → (∀ x ∈ l, 0 < x) → ∀ f, l.length ≤ f → Sc.outdent 0 f σ = { σ with blocks := [0], out := σ.out ++ dedents l.length σ.pos } := by
  intro l
  induction hn : l.length generalizing l with
  | zero =>
    intro a σ hb ha _ f _
    have hl : l = [] := List.length_eq_zero_iff.1 hn
    rw [hl, ha] at hb
    rw [outdent_end (by rw [hb]; decide)]
    simp only [dedents, List.replicate_zero, List.append_nil, ← hb]
  | succ n ih =>
    intro a σ hb ha hx f hf
    obtain ⟨f, rfl⟩ : ∃ f', f = f' + 1 := ⟨f - 1, by omega⟩
    obtain ⟨l1, y, rfl⟩ : ∃ l1 y, l = l1 ++ [y] := ⟨l.dropLast, l.getLast (by intro h; rw [h] at hn; cases hn), (List.dropLast_concat_getLast _).symm⟩
    have hn1 : l1.length = n := by simpa using hn
    have hy : 0 < y := hx y (by simp)
    have hd : (a :: (l1 ++ [y])).dropLast = a :: l1 := by rw [← List.cons_append, List.dropLast_concat]
    rw [Sc.outdent, if_pos (by rw [hb, ← List.cons_append, List.getLastD_concat]; exact hy)]
    rw [ih l1 hn1 a _ (by show σ.blocks.dropLast = _; rw [hb, hd]) ha (fun x hx' => hx x (by simp [hx'])) f (by omega)]
    simp only [Sc.tok, dedents, List.replicate_succ, List.append_assoc, List.singleton_append]
/-- what stands behind -/
def tailB (q : Nat) : List Tok := [⟨1, [122, 122], q⟩, ⟨4, [61], q + 3⟩, ⟨2, [49], q + 5⟩, ⟨5, [], q + 6⟩, ⟨8, [], q + 7⟩]
theorem go_to {σ σ1 : Sc} {R : Sc → Prop} (h : σ.step = .ok σ1) (hI : Inv σ) (hp : σ.pos < σ.s.length) (h2 : ∃ σ2 : Sc, σ1.go = .ok σ2 ∧ R σ2) : ∃ σ2 : Sc, σ.go = .ok σ2 ∧ R σ2 := by
  rw [← go_step h hI hp]; exact h2
theorem step_to {σ σ1 σ2 : Sc} (h : σ.step = .ok σ1) (hI : Inv σ) (hp : σ.pos < σ.s.length) (h2 : σ1.go = .ok σ2) : σ.go = .ok σ2 := (go_step h hI hp).symm.trans h2
/-- a line, scanned at the head of a line -/
theorem zz_go {t : List UInt8} {σ : Sc} (hI : Inv σ) (hB : Bl σ) (hs : σ.s = t ++ [10, 10, 122, 122, 32, 61, 32, 49, 10]) (hp : σ.pos = t.length + 1) (hl : σ.line = false) (hb : σ.brk = []) :
    ∃ σ2 : Sc, σ.go = .ok σ2 ∧ σ2.brk = [] ∧ σ2.nl.out = σ.out ++ dedents (σ.blocks.length - 1) (t.length + 2) ++ (tailB (t.length + 2)).dropLast ∧ σ2.blocks = [0] := by
  have hlen : σ.s.length = t.length + 9 := by rw [hs]; simp
  have hdr : ∀ k, k ≤ 9 → σ.s.drop (t.length + k) = [10, 10, 122, 122, 32, 61, 32, 49, 10].drop k := fun k _ => by rw [hs, List.drop_append, List.drop_of_length_le (by omega), List.nil_append]; congr 1; omega
  have hbt : ∀ k, k < 9 → bt σ.s (t.length + k) = bt [10, 10, 122, 122, 32, 61, 32, 49, 10] k := fun k hk => by
    unfold bt
    rw [hs]
    simp only [List.getD]
    rw [List.getElem?_append_right (by omega)]
    congr 3
    omega
  obtain ⟨s0, p0, o0, b0, k0, l0⟩ := σ
  simp only at hs hp hl hb hlen hdr hbt
  subst hl hb
  rw [hp] at hI hB ⊢
  -- the empty line
  have e1 := Sc.step_nl (σ := ⟨s0, t.length + 1, o0, b0, [], false⟩) (hbt 1 (by omega)) rfl
  have i1 := (Sc.step_ok e1 hI (by show t.length + 1 < s0.length; omega)).1
  refine go_to e1 hI (by show t.length + 1 < s0.length; omega) ?_
  simp only [Sc.nl, Bool.false_eq_true, if_false] at i1 ⊢
  have hz : ∃ l, b0 = 0 :: l := by
    have h1 := hI.head; have h2 := hI.some
    cases b0 with
    | nil => cases h2
    | cons a r => exact ⟨r, by have h1 : a = 0 := h1; rw [h1]⟩
  obtain ⟨l, rfl⟩ := hz
  -- the line's begin, and its name
  have hcol : Sc.col ⟨s0, t.length + 1 + 1, o0, 0 :: l, [], false⟩ = 0 := by
    unfold Sc.col
    have : s0.take (t.length + 1 + 1) = (t ++ [10]) ++ [10] := by rw [hs]; rw [List.take_append, List.take_of_length_le (by omega), show t.length + 1 + 1 - t.length = 2 by omega]; simp
    show colL (s0.take (t.length + 1 + 1)) 0 = 0
    rw [this, colL_snoc]; rfl
  have hbg : Sc.begin ⟨s0, t.length + 1 + 1, o0, 0 :: l, [], false⟩ = .ok ⟨s0, t.length + 2, o0 ++ dedents l.length (t.length + 2), [0], [], true⟩ := by
    unfold Sc.begin
    have hb1 : Sc.begins ⟨s0, t.length + 1 + 1, o0, 0 :: l, [], false⟩ = true := by
      unfold Sc.begins
      have h2 : bt s0 (t.length + 1 + 1) = 122 := hbt 2 (by omega)
      have h3 : isLet 122 = true := by decide
      simp only [h2, h3, Bool.true_or]
    rw [hb1, hcol]
    have ho := outdent_all l 0 ⟨s0, t.length + 1 + 1, o0, 0 :: l, [], true⟩ rfl rfl (fun x hx => hB x hx) (l.length + 1) (Nat.le_succ _)
    simp only [Bool.not_true, Bool.false_eq_true, if_false, Nat.not_lt_zero, List.length_cons]
    rw [ho]
    rfl
  have hw : Sc.step ⟨s0, t.length + 1 + 1, o0, 0 :: l, [], false⟩ = .ok ⟨s0, t.length + 4, o0 ++ dedents l.length (t.length + 2) ++ [⟨1, [122, 122], t.length + 2⟩], [0], [], true⟩ := by
    have hb2 := hbt 2 (by omega)
    have hb2 : bt s0 (t.length + 1 + 1) = 122 := hb2
    rw [Sc.step_beg (σ := ⟨s0, t.length + 1 + 1, o0, 0 :: l, [], false⟩) (by show bt s0 (t.length + 1 + 1) ≠ 10; rw [hb2]; decide) (by show bt s0 (t.length + 1 + 1) ≠ 32; rw [hb2]; decide) (by show bt s0 (t.length + 1 + 1) ≠ 35; rw [hb2]; decide) rfl hbg]
    show Sc.token _ (bt s0 (t.length + 1 + 1)) = _
    rw [hb2, Sc.token_word (by decide)]
    unfold Sc.word
    dsimp only
    rw [hdr 2 (by omega)]
    have : wordL ([10, 10, 122, 122, 32, 61, 32, 49, 10].drop 2) = 2 := by decide
    rw [this]
    rfl
  have i2 := (Sc.step_ok hw i1 (by show t.length + 1 + 1 < s0.length; omega)).1
  refine go_to hw i1 (by show t.length + 1 + 1 < s0.length; omega) ?_
  -- a space
  have e3 := Sc.step_sp (σ := ⟨s0, t.length + 4, o0 ++ dedents l.length (t.length + 2) ++ [⟨1, [122, 122], t.length + 2⟩], [0], [], true⟩) (hbt 4 (by omega))
  have i3 := (Sc.step_ok e3 i2 (by show t.length + 4 < s0.length; omega)).1
  refine go_to e3 i2 (by show t.length + 4 < s0.length; omega) ?_
  dsimp only at i3 ⊢
  -- the sign
  have e4 : Sc.step ⟨s0, t.length + 4 + 1, o0 ++ dedents l.length (t.length + 2) ++ [⟨1, [122, 122], t.length + 2⟩], [0], [], true⟩ = .ok ⟨s0, t.length + 6, o0 ++ dedents l.length (t.length + 2) ++ [⟨1, [122, 122], t.length + 2⟩] ++ [⟨4, [61], t.length + 5⟩], [0], [], true⟩ := by
    have hb5 : bt s0 (t.length + 4 + 1) = 61 := hbt 5 (by omega)
    rw [Sc.step_line (by show bt s0 (t.length + 4 + 1) ≠ 10; rw [hb5]; decide) (by show bt s0 (t.length + 4 + 1) ≠ 32; rw [hb5]; decide) (by show bt s0 (t.length + 4 + 1) ≠ 35; rw [hb5]; decide) rfl]
    show Sc.token _ (bt s0 (t.length + 4 + 1)) = _
    have hd5 : s0.drop (t.length + 4 + 1) = [61, 32, 49, 10] := hdr 5 (by omega)
    have hsg : signL (s0.drop (t.length + 4 + 1)) = [61] := by rw [hd5]; decide
    rw [hb5, Sc.token_sign (by decide) (by decide) (by decide), Sc.sign_plain (by show signL (s0.drop (t.length + 4 + 1)) ≠ []; rw [hsg]; decide) (by show opens (bt (signL (s0.drop (t.length + 4 + 1))) 0) = none; rw [hsg]; decide) (by show closes (bt (signL (s0.drop (t.length + 4 + 1))) 0) = false; rw [hsg]; decide)]
    simp only [hsg]
    rfl
  have i4 := (Sc.step_ok e4 i3 (by show t.length + 4 + 1 < s0.length; omega)).1
  refine go_to e4 i3 (by show t.length + 4 + 1 < s0.length; omega) ?_
  have e5 := Sc.step_sp (σ := ⟨s0, t.length + 6, o0 ++ dedents l.length (t.length + 2) ++ [⟨1, [122, 122], t.length + 2⟩] ++ [⟨4, [61], t.length + 5⟩], [0], [], true⟩) (hbt 6 (by omega))
  have i5 := (Sc.step_ok e5 i4 (by show t.length + 6 < s0.length; omega)).1
  refine go_to e5 i4 (by show t.length + 6 < s0.length; omega) ?_
  dsimp only at i5 ⊢
  -- the number
  have e6 : Sc.step ⟨s0, t.length + 6 + 1, o0 ++ dedents l.length (t.length + 2) ++ [⟨1, [122, 122], t.length + 2⟩] ++ [⟨4, [61], t.length + 5⟩], [0], [], true⟩ = .ok ⟨s0, t.length + 8, o0 ++ dedents l.length (t.length + 2) ++ [⟨1, [122, 122], t.length + 2⟩] ++ [⟨4, [61], t.length + 5⟩] ++ [⟨2, [49], t.length + 7⟩], [0], [], true⟩ := by
    have hb7 : bt s0 (t.length + 6 + 1) = 49 := hbt 7 (by omega)
    rw [Sc.step_line (by show bt s0 (t.length + 6 + 1) ≠ 10; rw [hb7]; decide) (by show bt s0 (t.length + 6 + 1) ≠ 32; rw [hb7]; decide) (by show bt s0 (t.length + 6 + 1) ≠ 35; rw [hb7]; decide) rfl]
    show Sc.token _ (bt s0 (t.length + 6 + 1)) = _
    have hd7 : s0.drop (t.length + 6 + 1) = [49, 10] := hdr 7 (by omega)
    rw [hb7, Sc.token_num (by decide) (by decide)]
    unfold Sc.number
    dsimp only
    rw [hd7]
    rfl
  have i6 := (Sc.step_ok e6 i5 (by show t.length + 6 + 1 < s0.length; omega)).1
  refine go_to e6 i5 (by show t.length + 6 + 1 < s0.length; omega) ?_
  have e7 := Sc.step_nl (σ := ⟨s0, t.length + 8, o0 ++ dedents l.length (t.length + 2) ++ [⟨1, [122, 122], t.length + 2⟩] ++ [⟨4, [61], t.length + 5⟩] ++ [⟨2, [49], t.length + 7⟩], [0], [], true⟩) (hbt 8 (by omega)) rfl
  refine ⟨_, step_to e7 i6 (by show t.length + 8 < s0.length; omega) (go_end (by simp [Sc.nl, Sc.tok]; omega)), rfl, ?_, rfl⟩
  simp [Sc.nl, Sc.tok, tailB]
/-- both scans -/
theorem scan_two {t : List UInt8} {ts : List Tok} (h : scan (t ++ [10]) = .ok ts) : ∃ (A : List Tok) (n p q : Nat), ts = A ++ dedents n p ++ [⟨8, [], p⟩] ∧ scan (t ++ [10, 10, 122, 122, 32, 61, 32, 49, 10]) = .ok (A ++ dedents n q ++ tailB q) := by
  have hC : Cut (t ++ [10]) (t ++ [10, 10, 122, 122, 32, 61, 32, 49, 10]) t.length [] [10, 122, 122, 32, 61, 32, 49, 10] := ⟨by simp, by simp, by simp, by simp⟩
  cases hg : (Sc.start (t ++ [10])).go with
  | error e => rw [scan_err hg] at h; cases h
  | ok σe =>
    obtain ⟨σ1, i1, b1, hs1, hp1, hg1, he⟩ := go_cut hC (by simp) (by simp) t.length (Sc.start (t ++ [10])) (by simp [Sc.start]) (start_inv _) (by intro x hx; cases hx) rfl (Nat.zero_le _) hg
    have hc1 : bt σ1.s σ1.pos = 10 := by rw [hs1, hp1]; unfold bt; simp
    have hlt : σ1.pos < σ1.s.length := by rw [hs1, hp1]; simp
    have hbe : σ1.brk = [] := by
      by_cases hk : σ1.brk = []
      · exact hk
      · exfalso
        have hst := Sc.step_br hc1 hk
        rw [← go_step hst i1 hlt, go_end (by show ¬ σ1.pos + 1 < σ1.s.length; rw [hs1, hp1]; simp)] at hg1
        cases hg1
        rw [scan_brk hg hk] at h
        cases h
    have hst := Sc.step_nl hc1 hbe
    have hk := Sc.nl_keeps σ1
    rw [← go_step hst i1 hlt, go_end (by show ¬ σ1.nl.pos + 1 < σ1.nl.s.length; rw [Sc.nl_pos, hk.1, hs1, hp1]; simp)] at hg1
    cases hg1
    have hnl : ∀ σ : Sc, ({ σ.nl with pos := σ.nl.pos + 1 } : Sc).nl.out = σ.nl.out := fun σ => by unfold Sc.nl; split <;> rfl
    rw [scan_ok hg (by show σ1.nl.brk = []; rw [hk.2.2.1]; exact hbe), hnl] at h
    -- the longer text
    have hp2 : σ1.pos < (t ++ [10, 10, 122, 122, 32, 61, 32, 49, 10]).length := by rw [hp1]; simp
    have i2 := inv_s σ1 i1 (s' := t ++ [10, 10, 122, 122, 32, 61, 32, 49, 10]) (Nat.le_of_lt hp2)
    have hc2 : bt (t ++ [10, 10, 122, 122, 32, 61, 32, 49, 10]) σ1.pos = 10 := by rw [hp1]; unfold bt; simp
    have hst2 := Sc.step_nl (σ := { σ1 with s := t ++ [10, 10, 122, 122, 32, 61, 32, 49, 10] }) hc2 hbe
    have i3 := (Sc.step_ok hst2 i2 hp2).1
    have hk2 := Sc.nl_keeps { σ1 with s := t ++ [10, 10, 122, 122, 32, 61, 32, 49, 10] }
    obtain ⟨σ2, z1, z2, z3, z4⟩ := zz_go i3 (by unfold Bl; show ∀ x ∈ (Sc.nl _).blocks.tail, 0 < x; rw [hk2.2.1]; exact b1) (by show (Sc.nl _).s = _; rw [hk2.1]) (by show (Sc.nl _).pos + 1 = _; rw [Sc.nl_pos]; show σ1.pos + 1 = _; rw [hp1]) rfl (by show (Sc.nl _).brk = _; rw [hk2.2.2.1]; exact hbe)
    have hgo : (Sc.start (t ++ [10, 10, 122, 122, 32, 61, 32, 49, 10])).go = .ok σ2 := he.trans (step_to hst2 i2 hp2 z1)
    refine ⟨σ1.nl.out, σ1.blocks.length - 1, (t ++ [10]).length, t.length + 2, ?_, ?_⟩
    · have hbl : ({ σ1.nl with pos := σ1.nl.pos + 1 } : Sc).blocks = σ1.blocks := hk.2.1
      rw [hbl] at h
      exact (Except.ok.inj h).symm
    · rw [scan_ok hgo z2, z3, z4]
      have ho : ({ Sc.nl { σ1 with s := t ++ [10, 10, 122, 122, 32, 61, 32, 49, 10] } with pos := (Sc.nl { σ1 with s := t ++ [10, 10, 122, 122, 32, 61, 32, 49, 10] }).pos + 1 } : Sc).out = σ1.nl.out := by unfold Sc.nl; dsimp only; split <;> rfl
      have hbl : ({ Sc.nl { σ1 with s := t ++ [10, 10, 122, 122, 32, 61, 32, 49, 10] } with pos := (Sc.nl { σ1 with s := t ++ [10, 10, 122, 122, 32, 61, 32, 49, 10] }).pos + 1 } : Sc).blocks = σ1.blocks := hk2.2.1
      rw [ho, hbl]
      simp [dedents, tailB]
end Go.Lex.Bh
