/-
  Proved here: plain: behind a line's end the scanner does the same whatever stood ahead, but for places; so spaces, comments and blank lines change nothing else.
-/
import Derived.Test.YtggoogbloaennaaDoorSpcP
namespace Go.Lex
open Go.SX
/-! the same text, so much later -/
theorem endL_shift (q d : Nat) : ∀ (l : List UInt8) (i : Nat), endL q l (i + d) = (endL q l i).map (· + d)
  | [], i => rfl
  | [c], i => by
    rw [endL_cons q c [] (i + d), endL_cons q c [] i]
    split
    · rfl
    · split
      · simp; omega
      · split
        · rfl
        · have := endL_shift q d [] (i + 1)
          rw [show i + d + 1 = i + 1 + d by omega, this]
  | c :: e :: l, i => by
    rw [endL_cons q c (e :: l) (i + d), endL_cons q c (e :: l) i]
    split
    · rfl
    · split
      · simp; omega
      · split
        · dsimp only
          split
          · rfl
          · rw [show i + d + 2 = i + 2 + d by omega]; exact endL_shift q d l (i + 2)
        · rw [show i + d + 1 = i + 1 + d by omega]; exact endL_shift q d (e :: l) (i + 1)
theorem txtL_shift (d : Nat) : ∀ (l : List UInt8) (i k : Nat) (acc t : List UInt8), txtL l i k acc = .ok t → txtL l (i + d) k acc = .ok t
  | [], _, _, _, _, h => h
  | _ :: r, i, k + 1, acc, t, h => by
    rw [txtL] at h ⊢
    rw [show i + d + 1 = i + 1 + d by omega]
    exact txtL_shift d r (i + 1) k acc t h
  | c :: r, i, 0, acc, t, h => by
    rw [txtL] at h ⊢
    split at h
    · rename_i h1
      rw [if_pos h1]
      split at h
      · cases h
      · rename_i h2
        rw [if_neg h2, show i + d + 1 = i + 1 + d by omega]
        exact txtL_shift d r (i + 1) _ _ t h
    · rename_i h1
      rw [if_neg h1]
      split at h
      · cases h
      · rename_i h2
        rw [if_neg h2, show i + d + 1 = i + 1 + d by omega]
        exact txtL_shift d r (i + 1) 0 _ t h
theorem comL_shift (d : Nat) : ∀ (l : List UInt8) (i j : Nat), comL l i = .ok j → comL l (i + d) = .ok (j + d)
  | [], i, j, h => by cases h; rfl
  | c :: r, i, j, h => by
    rw [comL] at h ⊢
    split at h
    · rename_i h1; cases h; rw [if_pos h1]
    · rename_i h1
      rw [if_neg h1]
      split at h
      · cases h
      · rename_i h2
        rw [if_neg h2, show i + d + 1 = i + 1 + d by omega]
        exact comL_shift d r (i + 1) j h
theorem colL_reset : ∀ (a b : List UInt8) (k : Nat), colL (a ++ 10 :: b) k = colL b 0
  | [], b, k => by rw [List.nil_append, colL, if_pos (by decide)]
  | c :: a, b, k => by
    rw [List.cons_append, colL]
    split
    · exact colL_reset a b 0
    · exact colL_reset a b (k + 1)
/-- tokens that are the same but for places behind p -/
structure TokR (p : Nat) (t t' : Tok) : Prop where
  kind : t'.kind = t.kind
  text : t'.text = t.text
  pos : t.pos < p → t'.pos = t.pos
inductive OutR (p : Nat) : List Tok → List Tok → Prop
  | nil : OutR p [] []
  | cons {t t' : Tok} {l l' : List Tok} (h : TokR p t t') (r : OutR p l l') : OutR p (t :: l) (t' :: l')
theorem OutR.same (p : Nat) : ∀ l : List Tok, OutR p l l
  | [] => .nil
  | t :: l => .cons ⟨rfl, rfl, fun _ => rfl⟩ (OutR.same p l)
theorem OutR.app {p : Nat} {a a' b b' : List Tok} (h : OutR p a a') (h' : OutR p b b') : OutR p (a ++ b) (a' ++ b') := by
  induction h with
  | nil => exact h'
  | cons ht _ ih => exact .cons ht ih
theorem OutR.snoc {p k q q' : Nat} {x : List UInt8} {a a' : List Tok} (h : OutR p a a') (hq : p ≤ q) : OutR p (a ++ [⟨k, x, q⟩]) (a' ++ [⟨k, x, q'⟩]) :=
  h.app (.cons ⟨rfl, rfl, fun hl => absurd hl (Nat.not_lt.2 hq)⟩ .nil)
theorem OutR.get {p : Nat} {a a' : List Tok} (h : OutR p a a') : a'.length = a.length ∧ ∀ (i : Nat) (t : Tok), a[i]? = some t → ∃ t', a'[i]? = some t' ∧ TokR p t t' := by
  induction h with
  | nil => exact ⟨rfl, fun i t hi => by cases hi⟩
  | cons ht _ ih =>
    refine ⟨by simp [ih.1], fun i t hi => ?_⟩
    cases i with
    | zero => cases hi; exact ⟨_, rfl, ht⟩
    | succ i => exact ih.2 i t (by simpa using hi)
/-- the same scanner, later in another text -/
structure Shift (p d : Nat) (σ σ' : Sc) : Prop where
  pos : σ'.pos = σ.pos + d
  le : p + 1 ≤ σ.pos
  text : σ'.s.drop (p + 1 + d) = σ.s.drop (p + 1)
  nl : σ.s[p]? = some 10
  nl' : σ'.s[p + d]? = some 10
  blocks : σ'.blocks = σ.blocks
  brk : σ'.brk = σ.brk
  line : σ'.line = σ.line
  out : OutR p σ.out σ'.out
theorem Shift.dropk {p d : Nat} {σ σ' : Sc} (h : Shift p d σ σ') (k : Nat) (hk : p + 1 ≤ k) : σ'.s.drop (k + d) = σ.s.drop k := by
  have := congrArg (List.drop (k - (p + 1))) h.text
  rw [List.drop_drop, List.drop_drop] at this
  rw [show p + 1 + d + (k - (p + 1)) = k + d by omega, show p + 1 + (k - (p + 1)) = k by omega] at this
  exact this
theorem Shift.drop {p d : Nat} {σ σ' : Sc} (h : Shift p d σ σ') : σ'.s.drop σ'.pos = σ.s.drop σ.pos := by rw [h.pos]; exact h.dropk _ h.le
theorem bt_drop (s : List UInt8) (k : Nat) : bt s k = bt (s.drop k) 0 := by
  unfold bt
  simp [List.getD, List.getElem?_drop]
theorem Shift.byte {p d : Nat} {σ σ' : Sc} (h : Shift p d σ σ') : bt σ'.s σ'.pos = bt σ.s σ.pos := by rw [bt_drop, bt_drop σ.s, h.drop]
theorem Shift.found {p d : Nat} {σ σ' : Sc} (h : Shift p d σ σ') : σ'.found = σ.found := by unfold Sc.found; rw [h.drop]
theorem Shift.begins {p d : Nat} {σ σ' : Sc} (h : Shift p d σ σ') : σ'.begins = σ.begins := by unfold Sc.begins; rw [h.found, h.byte]
theorem take_split {s : List UInt8} {p k : Nat} (h : s[p]? = some 10) (hk : p + 1 ≤ k) : s.take k = s.take p ++ 10 :: (s.drop (p + 1)).take (k - (p + 1)) := by
  have hlt : p < s.length := (List.getElem?_eq_some_iff.1 h).1
  have hg : s[p] = 10 := (List.getElem?_eq_some_iff.1 h).2
  conv => lhs; rw [← List.take_append_drop p s]
  have e1 : (s.take p).length = p := by simp; omega
  rw [List.take_append, e1, List.take_of_length_le (by omega), List.drop_eq_getElem_cons hlt, hg, show k - p = (k - (p + 1)) + 1 by omega, List.take_succ_cons]
theorem Shift.col {p d : Nat} {σ σ' : Sc} (h : Shift p d σ σ') : σ'.col = σ.col := by
  have hle := h.le
  unfold Sc.col
  rw [h.pos, take_split h.nl h.le, take_split (p := p + d) h.nl' (by omega), colL_reset, colL_reset, show p + d + 1 = p + 1 + d by omega, h.text, show σ.pos + d - (p + 1 + d) = σ.pos - (p + 1) by omega]
theorem Shift.tok {p d : Nat} {σ σ' : Sc} (h : Shift p d σ σ') (k : Nat) (x : List UInt8) : Shift p d (σ.tok k x σ.pos) (σ'.tok k x σ'.pos) := by
  have hle := h.le
  exact ⟨h.pos, h.le, h.text, h.nl, h.nl', h.blocks, h.brk, h.line, h.out.snoc (by omega)⟩
theorem Shift.move {p d : Nat} {σ σ' : Sc} (h : Shift p d σ σ') {i i' : Nat} (hi : i' = i + d) (hp : p + 1 ≤ i) : Shift p d { σ with pos := i } { σ' with pos := i' } :=
  ⟨hi, hp, h.text, h.nl, h.nl', h.blocks, h.brk, h.line, h.out⟩
theorem Shift.lines {p d : Nat} {σ σ' : Sc} (h : Shift p d σ σ') (b : Bool) : Shift p d { σ with line := b } { σ' with line := b } :=
  ⟨h.pos, h.le, h.text, h.nl, h.nl', h.blocks, h.brk, rfl, h.out⟩
theorem Shift.blk {p d : Nat} {σ σ' : Sc} (h : Shift p d σ σ') (b : List Nat) : Shift p d { σ with blocks := b } { σ' with blocks := b } :=
  ⟨h.pos, h.le, h.text, h.nl, h.nl', rfl, h.brk, h.line, h.out⟩
theorem Shift.brks {p d : Nat} {σ σ' : Sc} (h : Shift p d σ σ') (b : List Nat) : Shift p d { σ with brk := b } { σ' with brk := b } :=
  ⟨h.pos, h.le, h.text, h.nl, h.nl', h.blocks, rfl, h.line, h.out⟩
theorem Shift.outdent {p d i : Nat} : ∀ (f : Nat) {σ σ' : Sc}, Shift p d σ σ' → Shift p d (Sc.outdent i f σ) (Sc.outdent i f σ')
  | 0, _, _, h => h
  | f + 1, σ, σ', h => by
    unfold Sc.outdent
    rw [h.blocks]
    split
    · exact Shift.outdent f ((h.blk σ.blocks.dropLast).tok 7 [])
    · exact h
theorem Shift.begin {p d : Nat} {σ σ' σ1 : Sc} (h : Shift p d σ σ') (hb : σ.begin = .ok σ1) : ∃ σ1', σ'.begin = .ok σ1' ∧ Shift p d σ1 σ1' := by
  unfold Sc.begin at hb ⊢
  rw [h.begins, h.col, h.blocks]
  split at hb
  · cases hb
  · rename_i h1
    rw [if_neg h1]
    dsimp only at hb ⊢
    split at hb
    · rename_i h2
      rw [if_pos h2]
      split at hb
      · cases hb
      · rename_i h3
        cases hb
        rw [if_neg h3]
        exact ⟨_, rfl, ((h.lines true).blk (σ.blocks ++ [σ.col])).tok 6 []⟩
    · rename_i h2
      rw [if_neg h2]
      have ho := Shift.outdent (i := σ.col) σ.blocks.length ((h.blk σ.blocks).lines true)
      split at hb
      · rename_i h3
        cases hb
        have h4 := ho.blocks
        dsimp only at h4
        rw [h4, if_pos h3]
        exact ⟨_, rfl, ho⟩
      · cases hb
theorem Shift.sign {p d : Nat} {σ σ' σ1 : Sc} (h : Shift p d σ σ') (hb : σ.sign = .ok σ1) : ∃ σ1', σ'.sign = .ok σ1' ∧ Shift p d σ1 σ1' := by
  have hle := h.le
  have hps := h.pos
  unfold Sc.sign at hb ⊢
  rw [h.found, h.brk]
  dsimp only at hb ⊢
  split at hb
  · cases hb
  · rename_i h1
    rw [if_neg h1]
    split at hb
    · rename_i e he
      split at hb
      · cases hb
      · rename_i h2
        cases hb
        try rw [he]
        try dsimp only
        rw [if_neg h2]
        exact ⟨_, rfl, ((h.brks (σ.brk ++ [e])).tok 4 σ.found).move (by omega) (by omega)⟩
    · rename_i he
      try rw [he]
      try dsimp only
      split at hb
      · rename_i h2
        rw [if_pos h2]
        split at hb
        · rename_i h3
          cases hb
          rw [if_pos h3]
          exact ⟨_, rfl, ((h.brks σ.brk.dropLast).tok 4 σ.found).move (by omega) (by omega)⟩
        · cases hb
      · rename_i h2
        cases hb
        rw [if_neg h2]
        exact ⟨_, rfl, (h.tok 4 σ.found).move (by omega) (by omega)⟩
theorem Shift.token {p d c : Nat} {σ σ' σ1 : Sc} (h : Shift p d σ σ') (hb : σ.token c = .ok σ1) : ∃ σ1', σ'.token c = .ok σ1' ∧ Shift p d σ1 σ1' := by
  have hle := h.le
  have hps := h.pos
  have hdr := h.drop
  unfold Sc.token at hb ⊢
  split at hb
  · rename_i h1
    cases hb
    rw [if_pos h1]
    refine ⟨_, rfl, ?_⟩
    unfold Sc.word
    dsimp only
    rw [hdr]
    exact (h.tok _ _).move (by show σ'.pos + _ = σ.pos + _ + d; omega) (by show p + 1 ≤ σ.pos + _; omega)
  · rename_i h1
    rw [if_neg h1]
    split at hb
    · rename_i h2
      rw [if_pos h2]
      unfold Sc.number at hb ⊢
      rw [hdr]
      cases hn : numL (σ.s.drop σ.pos) with
      | none => rw [hn] at hb; cases hb
      | some n =>
        rw [hn] at hb
        dsimp only at hb ⊢
        split at hb
        · cases hb
        · rename_i h3
          cases hb
          rw [if_neg h3]
          exact ⟨_, rfl, (h.tok 2 _).move (by show σ'.pos + _ = σ.pos + _ + d; omega) (by show p + 1 ≤ σ.pos + _; omega)⟩
    · rename_i h2
      rw [if_neg h2]
      split at hb
      · rename_i h3
        rw [if_pos h3]
        unfold Sc.text at hb ⊢
        have hd1 : σ'.s.drop (σ'.pos + 1) = σ.s.drop (σ.pos + 1) := by
          rw [hps, show σ.pos + d + 1 = σ.pos + 1 + d by omega]; exact h.dropk _ (by omega)
        rw [hd1, hps, show σ.pos + d + 1 = σ.pos + 1 + d by omega, endL_shift]
        cases he : endL c (σ.s.drop (σ.pos + 1)) (σ.pos + 1) with
        | none => rw [he] at hb; cases hb
        | some e =>
          rw [he] at hb
          dsimp only [Option.map_some] at hb ⊢
          have hbd := endL_bd _ _ _ he
          have e1 : (σ'.s.take (e + d - 1)).drop (σ.pos + 1 + d) = (σ.s.take (e - 1)).drop (σ.pos + 1) := by
            rw [List.drop_take, List.drop_take, h.dropk _ (by omega), show e + d - 1 - (σ.pos + 1 + d) = e - 1 - (σ.pos + 1) by omega]
          rw [e1]
          cases ht : txtL ((σ.s.take (e - 1)).drop (σ.pos + 1)) (σ.pos + 1) 0 [] with
          | error x => rw [ht] at hb; cases hb
          | ok t =>
            rw [ht] at hb
            cases hb
            rw [txtL_shift d _ _ _ _ _ ht]
            refine ⟨_, rfl, ?_⟩
            have := (h.tok 3 t).move (i := e) (i' := e + d) rfl (by omega)
            rw [hps] at this
            exact this
      · rename_i h3
        rw [if_neg h3]
        exact h.sign hb
theorem Shift.step {p d : Nat} {σ σ' σ1 : Sc} (h : Shift p d σ σ') (hb : σ.step = .ok σ1) : ∃ σ1', σ'.step = .ok σ1' ∧ Shift p d σ1 σ1' := by
  have hle := h.le
  have hps := h.pos
  unfold Sc.step at hb ⊢
  rw [h.byte]
  dsimp only at hb ⊢
  split at hb
  · rename_i h1
    cases hb
    rw [if_pos h1, h.brk]
    refine ⟨_, rfl, ?_⟩
    split
    · unfold Sc.nl
      rw [h.line]
      split
      · exact ((h.tok 5 []).lines false).move (by show σ'.pos + 1 = σ.pos + 1 + d; omega) (by show p + 1 ≤ σ.pos + 1; omega)
      · exact (h.lines false).move (by show σ'.pos + 1 = σ.pos + 1 + d; omega) (by show p + 1 ≤ σ.pos + 1; omega)
    · exact h.move (by omega) (by omega)
  · rename_i h1
    rw [if_neg h1]
    split at hb
    · rename_i h2
      cases hb
      rw [if_pos h2]
      exact ⟨_, rfl, h.move (by omega) (by omega)⟩
    · rename_i h2
      rw [if_neg h2]
      split at hb
      · rename_i h3
        rw [if_pos h3]
        unfold Sc.comment at hb ⊢
        rw [h.drop]
        cases hc : comL (σ.s.drop σ.pos) σ.pos with
        | error x => rw [hc] at hb; cases hb
        | ok j =>
          rw [hc] at hb
          cases hb
          rw [hps, comL_shift d _ _ _ hc]
          have hj := (comL_bd _ _ _ hc).1
          exact ⟨_, rfl, h.move rfl (by omega)⟩
      · rename_i h3
        rw [if_neg h3, h.line]
        split at hb
        · rename_i h4
          rw [if_pos h4]
          exact h.token hb
        · rename_i h4
          rw [if_neg h4]
          cases hbg : σ.begin with
          | error e => rw [hbg] at hb; cases hb
          | ok σ2 =>
            rw [hbg] at hb
            obtain ⟨σ2', e1, e2⟩ := h.begin hbg
            rw [e1]
            exact e2.token hb
/-! runs -/
theorem go_ok {σ σe : Sc} (hI : Inv σ) (hp : σ.pos < σ.s.length) (h : σ.go = .ok σe) : ∃ σ1, σ.step = .ok σ1 ∧ σ1.go = .ok σe ∧ Inv σ1 ∧ σ1.s = σ.s ∧ σ.pos < σ1.pos := by
  cases hs : σ.step with
  | error e => rw [go_err hs hp] at h; cases h
  | ok σ1 =>
    have h1 := Sc.step_ok hs hI hp
    exact ⟨σ1, rfl, (go_step hs hI hp).trans h, h1.1, h1.2.1, h1.2.2⟩
theorem shift_go {p d : Nat} : ∀ (n : Nat) {σ σ' σe : Sc}, σ.s.length - σ.pos = n → Shift p d σ σ' → Inv σ → Inv σ' → σ'.s.length = σ.s.length + d → σ.go = .ok σe → ∃ σe', σ'.go = .ok σe' ∧ Shift p d σe σe' ∧ σe.s = σ.s ∧ σe.pos = σe.s.length := by
  intro n
  induction n using Nat.strongRecOn with
  | _ n ih =>
    intro σ σ' σe hn h hI hI' hl hg
    have hps := h.pos
    by_cases hp : σ.pos < σ.s.length
    · obtain ⟨σ1, h1, h2, h3, h4, h5⟩ := go_ok hI hp hg
      obtain ⟨σ1', g1, g2⟩ := h.step h1
      have hp' : σ'.pos < σ'.s.length := by omega
      have g3 := Sc.step_ok g1 hI' hp'
      have hI1 := h3.le
      obtain ⟨σe', e1, e2, e3, e4⟩ := ih (σ1.s.length - σ1.pos) (by rw [h4]; omega) rfl g2 h3 g3.1 (by rw [g3.2.1, h4]; exact hl) h2
      exact ⟨σe', (go_step g1 hI' hp').symm.trans e1, e2, e3.trans h4, e4⟩
    · rw [go_end hp] at hg
      cases hg
      have := hI.le
      exact ⟨σ', go_end (by omega), h, rfl, by omega⟩
/-- a token for a line's end that is not the text's comes of a newline -/
theorem nl_tokens {σ σ1 : Sc} (h : σ.step = .ok σ1) : ∃ ts, σ1.out = σ.out ++ ts ∧ ∀ t ∈ ts, t.kind = 5 → bt σ.s σ.pos = 10 ∧ σ.brk = [] ∧ σ.line = true ∧ t.pos = σ.pos := by
  have tokn : ∀ {τ τ1 : Sc} {c : Nat}, τ.token c = .ok τ1 → ∃ t, τ1.out = τ.out ++ [t] ∧ t.kind ≠ 5 := by
    intro τ τ1 c ht
    unfold Sc.token at ht
    split at ht
    · cases ht
      refine ⟨_, rfl, ?_⟩
      dsimp only
      split <;> decide
    · split at ht
      · unfold Sc.number at ht
        split at ht
        · cases ht
        · dsimp only at ht
          split at ht
          · cases ht
          · cases ht; exact ⟨_, rfl, show (2 : Nat) ≠ 5 by decide⟩
      · split at ht
        · unfold Sc.text at ht
          split at ht
          · cases ht
          · dsimp only at ht
            rename_i e he
            cases htx : txtL ((τ.s.take (e - 1)).drop (τ.pos + 1)) (τ.pos + 1) 0 [] with
            | error y => rw [htx] at ht; cases ht
            | ok t => rw [htx] at ht; cases ht; exact ⟨_, rfl, show (3 : Nat) ≠ 5 by decide⟩
        · unfold Sc.sign at ht
          dsimp only at ht
          split at ht
          · cases ht
          · split at ht
            · split at ht
              · cases ht
              · cases ht; exact ⟨_, rfl, show (4 : Nat) ≠ 5 by decide⟩
            · split at ht
              · split at ht
                · cases ht; exact ⟨_, rfl, show (4 : Nat) ≠ 5 by decide⟩
                · cases ht
              · cases ht; exact ⟨_, rfl, show (4 : Nat) ≠ 5 by decide⟩
  have outd : ∀ (i f : Nat) (τ : Sc), ∃ ts, (Sc.outdent i f τ).out = τ.out ++ ts ∧ ∀ t ∈ ts, t.kind ≠ 5 := by
    intro i f
    induction f with
    | zero => intro τ; exact ⟨[], by simp [Sc.outdent], fun t ht => absurd ht (List.not_mem_nil)⟩
    | succ f ih =>
      intro τ
      unfold Sc.outdent
      split
      · obtain ⟨ts, e1, e2⟩ := ih (({ τ with blocks := τ.blocks.dropLast } : Sc).tok 7 [] τ.pos)
        refine ⟨⟨7, [], τ.pos⟩ :: ts, by rw [e1]; simp [Sc.tok], fun t ht => ?_⟩
        rcases List.mem_cons.1 ht with rfl | ht
        · show (7 : Nat) ≠ 5; decide
        · exact e2 t ht
      · exact ⟨[], by simp, fun t ht => absurd ht (List.not_mem_nil)⟩
  unfold Sc.step at h
  dsimp only at h
  split at h
  · rename_i h10
    cases h
    by_cases hb : σ.brk = []
    · rw [if_pos hb]
      unfold Sc.nl
      split
      · rename_i hl
        exact ⟨[⟨5, [], σ.pos⟩], rfl, fun t ht _ => by simp at ht; subst ht; exact ⟨h10, hb, hl, rfl⟩⟩
      · exact ⟨[], by simp, fun t ht => absurd ht (List.not_mem_nil)⟩
    · rw [if_neg hb]; exact ⟨[], by simp, fun t ht => absurd ht (List.not_mem_nil)⟩
  · split at h
    · cases h; exact ⟨[], by simp, fun t ht => absurd ht (List.not_mem_nil)⟩
    · split at h
      · unfold Sc.comment at h
        cases hc : comL (σ.s.drop σ.pos) σ.pos with
        | error x => rw [hc] at h; cases h
        | ok j => rw [hc] at h; cases h; exact ⟨[], by simp, fun t ht => absurd ht (List.not_mem_nil)⟩
      · split at h
        · obtain ⟨t, e1, e2⟩ := tokn h
          exact ⟨[t], e1, fun t' ht h5 => by simp at ht; subst ht; exact absurd h5 e2⟩
        · cases hbg : σ.begin with
          | error e => rw [hbg] at h; cases h
          | ok σ2 =>
            rw [hbg] at h
            obtain ⟨t, e1, e2⟩ := tokn h
            have hb : ∃ ts, σ2.out = σ.out ++ ts ∧ ∀ t ∈ ts, t.kind ≠ 5 := by
              unfold Sc.begin at hbg
              split at hbg
              · cases hbg
              · dsimp only at hbg
                split at hbg
                · split at hbg
                  · cases hbg
                  · cases hbg; exact ⟨[_], rfl, fun t ht => by simp at ht; subst ht; show (6 : Nat) ≠ 5; decide⟩
                · split at hbg
                  · cases hbg; exact outd σ.col σ.blocks.length { σ with line := true }
                  · cases hbg
            obtain ⟨ts, g1, g2⟩ := hb
            refine ⟨ts ++ [t], by rw [e1, g1, List.append_assoc], fun t' ht h5 => ?_⟩
            rcases List.mem_append.1 ht with ht | ht
            · exact absurd h5 (g2 t' ht)
            · simp at ht; subst ht; exact absurd h5 e2
/-- the text that is laid in a newline's place -/
def moreT : List UInt8 := [32, 32, 32, 35, 32, 109, 111, 114, 101, 10, 10, 32, 32, 32, 32, 10]
/-- from a place ahead of the newline on, both texts are scanned alike -/
theorem both_go {s s' : List UInt8} {p : Nat} {v : List UInt8} (hc : Cut s s' p v (moreT.tail ++ v)) (hl : s'.length = s.length + 15) (ts : List Tok) (p0 : Tok) (h5 : p0.kind = 5) (h0 : p0.pos = p) :
    ∀ (n : Nat) {σ σe : Sc}, p - σ.pos = n → σ.s = s → σ.pos ≤ p → Inv σ → Inv { σ with s := s' } → σ.go = .ok σe → σe.brk = [] → p0 ∈ σe.nl.out ++ dedents (σe.blocks.length - 1) s.length ++ [⟨8, [], s.length⟩] → p0 ∉ σ.out →
      ∃ σe', ({ σ with s := s' } : Sc).go = .ok σe' ∧ Shift p 15 σe σe' ∧ σe.s = s ∧ σe.pos = s.length := by
  intro n
  have hplt : p < s.length := by
    have := congrArg List.length hc.at_
    simp at this; omega
  induction n using Nat.strongRecOn with
  | _ n ih =>
    intro σ σe hn hs hpos hI hI' hg hbe hmem hnot
    have hlt : σ.pos < σ.s.length := by rw [hs]; omega
    obtain ⟨σ1, h1, h2, h3, h4, h5'⟩ := go_ok hI hlt hg
    obtain ⟨nts, t1, t2⟩ := nl_tokens h1
    by_cases heq : σ.pos = p
    · -- at the newline
      have hbt : bt σ.s σ.pos = 10 := by
        rw [hs, heq, bt_drop, hc.at_]; rfl
      have key : σ.brk = [] ∧ σ.line = true := by
        by_cases hk : σ.brk = [] ∧ σ.line = true
        · exact hk
        · exfalso
          -- no token for it is made, and none later
          have later : ∀ (m : Nat) {τ : Sc}, τ.s.length - τ.pos = m → τ.s = s → p < τ.pos → Inv τ → τ.go = .ok σe → p0 ∉ τ.out → False := by
            intro m
            induction m using Nat.strongRecOn with
            | _ m ihm =>
              intro τ hm hτ hτp hτI hτg hτn
              by_cases hτl : τ.pos < τ.s.length
              · obtain ⟨τ1, g1, g2, g3, g4, g5⟩ := go_ok hτI hτl hτg
                obtain ⟨ts', e1, e2⟩ := nl_tokens g1
                refine ihm (τ1.s.length - τ1.pos) (by rw [g4]; have := g3.le; omega) rfl (g4.trans hτ) (by omega) g3 g2 ?_
                rw [e1, List.mem_append]
                rintro (hx | hx)
                · exact hτn hx
                · have := (e2 p0 hx h5).2.2.2; omega
              · rw [go_end hτl] at hτg
                cases hτg
                rw [List.mem_append, List.mem_append] at hmem
                rcases hmem with (hx | hx) | hx
                · unfold Sc.nl at hx
                  split at hx
                  · simp only [Sc.tok, List.mem_append, List.mem_singleton] at hx
                    rcases hx with hx | hx
                    · exact hτn hx
                    · have := congrArg Tok.pos hx; simp at this; omega
                  · exact hτn hx
                · have := List.eq_of_mem_replicate hx
                  rw [this] at h5; cases h5
                · simp at hx; rw [hx] at h5; cases h5
          refine later _ rfl (h4.trans hs) (by omega) h3 h2 ?_
          rw [t1, List.mem_append]
          rintro (hx | hx)
          · exact hnot hx
          · have := t2 p0 hx h5; exact hk ⟨this.2.1, this.2.2.1⟩
      have hst : σ.step = .ok ({ σ with pos := p + 1, out := σ.out ++ [⟨5, [], p⟩], line := false } : Sc) := by
        rw [Sc.step_nl hbt key.1]
        unfold Sc.nl
        rw [key.2, heq]
        simp [Sc.tok, heq]
      rw [hst] at h1
      cases h1
      -- the other text: spaces, the comment, the newline, a blank line
      have hd' : s'.drop p = moreT ++ v := by rw [hc.at']; rfl
      have hdk : ∀ k, k ≤ 16 → s'.drop (p + k) = (moreT ++ v).drop k := fun k _ => by rw [← List.drop_drop, hd']
      have bk : ∀ k, k < 16 → bt s' (p + k) = (moreT.getD k 0).toNat := fun k hk => by
        rw [bt_drop, hdk k (by omega), ← bt_drop]
        unfold bt
        rw [List.getD, List.getElem?_append_left (by show k < 16; exact hk)]
        rfl
      have hplt' : ∀ k, k < 16 → p + k < s'.length := fun k hk => by omega
      have go1 : ∀ {τ τ1 : Sc}, τ.s = s' → Inv τ → τ.pos < s'.length → τ.step = .ok τ1 → τ1.go = τ.go ∧ Inv τ1 := fun ht hi hp hs1 => ⟨go_step hs1 hi (by rw [ht]; exact hp), (Sc.step_ok hs1 hi (by rw [ht]; exact hp)).1⟩
      -- three spaces
      let A (k : Nat) (o : List Tok) (ln : Bool) : Sc := { σ with s := s', pos := p + k, out := o, line := ln }
      have hA0 : ({ σ with s := s' } : Sc) = A 0 σ.out true := by
        show ({ σ with s := s' } : Sc) = { σ with s := s', pos := p + 0, out := σ.out, line := true }
        cases σ; simp only at heq key; obtain ⟨k1, k2⟩ := key; subst heq; subst k2; rfl
      have sp : ∀ k o ln, k < 16 → moreT.getD k 0 = 32 → Inv (A k o ln) → (A (k + 1) o ln).go = (A k o ln).go ∧ Inv (A (k + 1) o ln) := fun k o ln hk h32 hi => by
        refine go1 rfl hi (hplt' k hk) ?_
        exact Sc.step_sp (σ := A k o ln) (by show bt s' (p + k) = 32; rw [bk k hk, h32]; rfl)
      have r0 := hI'
      rw [hA0] at r0
      have r1 := sp 0 σ.out true (by decide) rfl r0
      have r2 := sp 1 σ.out true (by decide) rfl r1.2
      have r3 := sp 2 σ.out true (by decide) rfl r2.2
      have cm : (A 9 σ.out true).go = (A 3 σ.out true).go ∧ Inv (A 9 σ.out true) := by
        refine go1 rfl r3.2 (hplt' 3 (by decide)) ?_
        rw [Sc.step_com (σ := A 3 σ.out true) (by show bt s' (p + 3) = 35; rw [bk 3 (by decide)]; rfl)]
        unfold Sc.comment
        show (comL (s'.drop (p + 3)) (p + 3)).map _ = _
        rw [hdk 3 (by decide)]
        rfl
      have nl1 : (A 10 (σ.out ++ [⟨5, [], p + 9⟩]) false).go = (A 9 σ.out true).go ∧ Inv (A 10 (σ.out ++ [⟨5, [], p + 9⟩]) false) := by
        refine go1 rfl cm.2 (hplt' 9 (by decide)) ?_
        rw [Sc.step_nl (σ := A 9 σ.out true) (by show bt s' (p + 9) = 10; rw [bk 9 (by decide)]; rfl) key.1]
        rfl
      have nl2 : ∀ k o, k < 16 → moreT.getD k 0 = 10 → Inv (A k o false) → (A (k + 1) o false).go = (A k o false).go ∧ Inv (A (k + 1) o false) := fun k o hk h10 hi => by
        refine go1 rfl hi (hplt' k hk) ?_
        rw [Sc.step_nl (σ := A k o false) (by show bt s' (p + k) = 10; rw [bk k hk, h10]; rfl) key.1]
        rfl
      have q1 := nl2 10 _ (by decide) rfl nl1.2
      have q2 := sp 11 _ false (by decide) rfl q1.2
      have q3 := sp 12 _ false (by decide) rfl q2.2
      have q4 := sp 13 _ false (by decide) rfl q3.2
      have q5 := sp 14 _ false (by decide) rfl q4.2
      have q6 := nl2 15 _ (by decide) rfl q5.2
      have hgo : (A 16 (σ.out ++ [⟨5, [], p + 9⟩]) false).go = ({ σ with s := s' } : Sc).go := by
        rw [hA0, q6.1, q5.1, q4.1, q3.1, q2.1, q1.1, nl1.1, cm.1, r3.1, r2.1, r1.1]
      have hsh : Shift p 15 ({ σ with pos := p + 1, out := σ.out ++ [⟨5, [], p⟩], line := false } : Sc) (A 16 (σ.out ++ [⟨5, [], p + 9⟩]) false) := by
        refine ⟨rfl, Nat.le_refl _, ?_, ?_, ?_, rfl, rfl, rfl, (OutR.same p σ.out).snoc (Nat.le_refl _)⟩
        · show s'.drop (p + 1 + 15) = σ.s.drop (p + 1)
          rw [hs, show p + 1 + 15 = p + 16 by omega, hdk 16 (by decide), ← List.drop_drop, hc.at_]
          rfl
        · show σ.s[p]? = some 10
          rw [hs]
          have := congrArg (·[0]?) hc.at_
          simpa [List.getElem?_drop] using this
        · show s'[p + 15]? = some 10
          have := congrArg (·[0]?) (hdk 15 (by decide))
          simpa [List.getElem?_drop, moreT] using this
      obtain ⟨σe', e1, e2, e3, e4⟩ := shift_go _ rfl hsh h3 q6.2 (by show s'.length = σ.s.length + 15; rw [hs]; exact hl) h2
      have e3' : σe.s = s := e3.trans hs
      exact ⟨σe', hgo.symm.trans e1, e2, e3', by rw [e4, e3']⟩
    · -- ahead of it
      have hlt2 : σ.pos < p := by omega
      have hnot1 : p0 ∉ σ1.out := by
        rw [t1, List.mem_append]
        rintro (hx | hx)
        · exact hnot hx
        · have := (t2 p0 hx h5).2.2.2; omega
      rcases hc.step hs hlt2 h1 with ⟨g1, g2⟩ | ⟨rfl, g2⟩
      · have hlt' : ({ σ with s := s' } : Sc).pos < ({ σ with s := s' } : Sc).s.length := by show σ.pos < s'.length; omega
        have hI1' := (Sc.step_ok g1 hI' hlt').1
        obtain ⟨σe', e1, e2⟩ := ih (p - σ1.pos) (by omega) rfl (h4.trans hs) g2 h3 hI1' h2 hbe hmem hnot1
        exact ⟨σe', (go_step g1 hI' hlt').symm.trans e1, e2⟩
      · -- a comment that reaches it: it goes on
        have hlt' : ({ σ with s := s' } : Sc).pos < ({ σ with s := s' } : Sc).s.length := by show σ.pos < s'.length; omega
        have hcm : comL (32 :: (moreT.tail ++ v)) p = .ok (p + 9) := rfl
        rw [hcm] at g2
        have hI2 : Inv ({ σ with pos := p, s := s' } : Sc) := ⟨by show p ≤ s'.length; omega, h3.head, h3.some, h3.deep, h3.brk, h3.few⟩
        obtain ⟨σe', e1, e2⟩ := ih (p - p) (by omega) (σ := { σ with pos := p }) (by simp) hs (Nat.le_refl _) h3 hI2 h2 hbe hmem hnot1
        -- from the place itself the other text's three spaces and its comment lead there, too
        have hd' : s'.drop p = moreT ++ v := by rw [hc.at']; rfl
        have hdk : ∀ k, k ≤ 16 → s'.drop (p + k) = (moreT ++ v).drop k := fun k _ => by rw [← List.drop_drop, hd']
        have bk : ∀ k, k < 16 → bt s' (p + k) = (moreT.getD k 0).toNat := fun k hk => by
          rw [bt_drop, hdk k (by omega), ← bt_drop]
          unfold bt
          rw [List.getD, List.getElem?_append_left (by show k < 16; exact hk)]
          rfl
        let A (k : Nat) : Sc := { σ with s := s', pos := p + k }
        have go1 : ∀ {τ τ1 : Sc}, τ.s = s' → Inv τ → τ.pos < s'.length → τ.step = .ok τ1 → τ1.go = τ.go ∧ Inv τ1 := fun ht hi hp hs1 => ⟨go_step hs1 hi (by rw [ht]; exact hp), (Sc.step_ok hs1 hi (by rw [ht]; exact hp)).1⟩
        have sp : ∀ k, k < 3 → Inv (A k) → (A (k + 1)).go = (A k).go ∧ Inv (A (k + 1)) := fun k hk hi => by
          refine go1 rfl hi (by show p + k < s'.length; omega) ?_
          refine Sc.step_sp (σ := A k) ?_
          show bt s' (p + k) = 32
          rw [bk k (by omega)]
          match k, hk with
          | 0, _ => rfl
          | 1, _ => rfl
          | 2, _ => rfl
        have r1 := sp 0 (by decide) hI2
        have r2 := sp 1 (by decide) r1.2
        have r3 := sp 2 (by decide) r2.2
        have cm : (A 9).go = (A 3).go := by
          refine (go1 rfl r3.2 (by show p + 3 < s'.length; omega) ?_).1
          rw [Sc.step_com (σ := A 3) (by show bt s' (p + 3) = 35; rw [bk 3 (by decide)]; rfl)]
          unfold Sc.comment
          show (comL (s'.drop (p + 3)) (p + 3)).map _ = _
          rw [hdk 3 (by decide)]
          rfl
        have g3 : (A 9).go = ({ σ with s := s' } : Sc).go := go_step (σ1 := A 9) g2 hI' hlt'
        refine ⟨σe', ?_, e2⟩
        rw [← g3, cm, r3.1, r2.1, r1.1]
        exact e1
/-- Spaces, a comment and blank lines in the place of a newline that ends a line. -/
theorem spaces_law {s : List UInt8} {ts : List Tok} (h : scan s = .ok ts) {t0 : Tok} (hm : t0 ∈ ts) (h5 : t0.kind = 5) (hp : t0.pos < s.length) :
    ∃ ts', scan (s.take t0.pos ++ moreT ++ s.drop (t0.pos + 1)) = .ok ts' ∧ OutR t0.pos ts ts' := by
  rw [scan_go] at h
  cases hg : (Sc.start s).go with
  | error e => rw [hg] at h; cases h
  | ok σe =>
    rw [hg] at h
    dsimp only at h
    split at h
    · cases h
    · rename_i hb
      have hb' : σe.brk = [] := by simpa using hb
      cases h
      -- the newline stands there
      have hnl : s[t0.pos]? = some 10 := by
        have find : ∀ (m : Nat) {τ : Sc}, τ.s.length - τ.pos = m → τ.s = s → Inv τ → τ.go = .ok σe → t0 ∉ τ.out → s[t0.pos]? = some 10 := by
          intro m
          induction m using Nat.strongRecOn with
          | _ m ihm =>
            intro τ hm' hτ hτI hτg hτn
            by_cases hτl : τ.pos < τ.s.length
            · obtain ⟨τ1, g1, g2, g3, g4, g5⟩ := go_ok hτI hτl hτg
              obtain ⟨ts', e1, e2⟩ := nl_tokens g1
              by_cases hx : t0 ∈ ts'
              · obtain ⟨q1, _, _, q4⟩ := e2 t0 hx h5
                rw [q4, ← hτ]
                unfold bt at q1
                rw [List.getD, List.getElem?_eq_getElem hτl] at q1
                rw [List.getElem?_eq_getElem hτl]
                congr 1
                exact UInt8.toNat_inj.1 q1
              · refine ihm (τ1.s.length - τ1.pos) (by rw [g4]; have := g3.le; omega) rfl (g4.trans hτ) g3 g2 ?_
                rw [e1, List.mem_append]
                rintro (hy | hy)
                · exact hτn hy
                · exact hx hy
            · exfalso
              rw [go_end hτl] at hτg
              cases hτg
              have hpl : σe.pos = s.length := by have := hτI.le; rw [hτ] at this hτl; omega
              rw [List.mem_append, List.mem_append] at hm
              rcases hm with (hx | hx) | hx
              · unfold Sc.nl at hx
                split at hx
                · simp only [Sc.tok, List.mem_append, List.mem_singleton] at hx
                  rcases hx with hx | hx
                  · exact hτn hx
                  · have := congrArg Tok.pos hx; simp at this; omega
                · exact hτn hx
              · have := List.eq_of_mem_replicate hx
                rw [this] at h5; cases h5
              · simp at hx; rw [hx] at h5; cases h5
        exact find _ rfl rfl (start_inv s) hg (by simp [Sc.start])
      have hd : s.drop t0.pos = 10 :: s.drop (t0.pos + 1) := by
        rw [List.drop_eq_getElem_cons hp]
        rw [List.getElem?_eq_getElem hp] at hnl
        simp only [Option.some.injEq] at hnl
        rw [hnl]
      have hlen : (s.take t0.pos).length = t0.pos := by simp; omega
      have hc : Cut s (s.take t0.pos ++ moreT ++ s.drop (t0.pos + 1)) t0.pos (s.drop (t0.pos + 1)) (moreT.tail ++ s.drop (t0.pos + 1)) := by
        refine ⟨by omega, hd, ?_, ?_⟩
        · rw [List.append_assoc, List.drop_append_of_le_length (by omega), List.drop_of_length_le (by omega)]; rfl
        · rw [List.append_assoc, List.take_append_of_le_length (by omega), List.take_of_length_le (l := s.take t0.pos) (by omega)]
      have hl : (s.take t0.pos ++ moreT ++ s.drop (t0.pos + 1)).length = s.length + 15 := by
        simp only [List.length_append, hlen, List.length_drop]
        show t0.pos + 16 + _ = _
        omega
      obtain ⟨σe', e1, e2, e3, e4⟩ := both_go hc hl [] t0 h5 rfl _ rfl rfl (Nat.zero_le _) (start_inv s) (start_inv _) hg hb' hm (by simp [Sc.start])
      refine ⟨_, scan_ok (s := s.take t0.pos ++ moreT ++ s.drop (t0.pos + 1)) e1 (by rw [e2.brk]; exact hb'), ?_⟩
      rw [hl, e2.blocks]
      have hps : t0.pos ≤ s.length := by omega
      refine OutR.snoc (OutR.app ?_ ?_) hps
      · unfold Sc.nl
        rw [e2.line]
        split
        · exact (e2.tok 5 []).out
        · exact e2.out
      · have ded : ∀ n, OutR t0.pos (dedents n s.length) (dedents n (s.length + 15)) := by
          intro n
          induction n with
          | zero => exact .nil
          | succ n ih => exact .cons ⟨rfl, rfl, fun hl => absurd hl (by simp; omega)⟩ ih
        exact ded _
end Go.Lex
namespace Go.Lex
open Go.SX
/-- the places of newlines that end lines, among the first tokens -/
def kL (n : Nat) (ts : List Tok) : Nat → List Nat
  | 0 => []
  | k + 1 => kL n ts k ++ if (ts.getD (k + 1) ⟨0, [], 0⟩).kind = 5 ∧ (ts.getD (k + 1) ⟨0, [], 0⟩).pos < n then [(ts.getD (k + 1) ⟨0, [], 0⟩).pos] else []
theorem kL_len (n : Nat) (ts : List Tok) : ∀ k, (kL n ts k).length ≤ k
  | 0 => Nat.le_refl _
  | k + 1 => by
    unfold kL
    have := kL_len n ts k
    rw [List.length_append]
    split <;> simp <;> omega
theorem kL_mem {n : Nat} {ts : List Tok} : ∀ {k q : Nat}, k < ts.length ∨ k = 0 → q ∈ kL n ts k → ∃ t ∈ ts, t.kind = 5 ∧ t.pos = q ∧ q < n
  | 0, q, _, h => absurd h (List.not_mem_nil)
  | k + 1, q, hk, h => by
    have hk' : k + 1 < ts.length := by omega
    unfold kL at h
    rcases List.mem_append.1 h with h | h
    · exact kL_mem (k := k) (.inl (by omega)) h
    · split at h
      · rename_i hc
        simp only [List.mem_singleton] at h
        refine ⟨ts.getD (k + 1) ⟨0, [], 0⟩, ?_, hc.1, h.symm, by omega⟩
        simp [List.getD, hk']
      · exact absurd h (List.not_mem_nil)
/-- Go's rest, by a length -/
def rOf (z : Int) (n : Nat) : Nat := (z % (n : Int)).toNat
theorem rOf_eq (z : Int) {n : Nat} (hn : 0 < n) : Int.tmod (Int.tmod z n + n) n = (rOf z n : Int) := by
  unfold rOf
  have hn' : (0 : Int) < n := by omega
  rcases Int.lt_or_le z 0 with h | h
  · obtain ⟨a, rfl⟩ : ∃ a : Int, z = -a := ⟨-z, by omega⟩
    have h1 := Int.emod_nonneg a (show (n : Int) ≠ 0 by omega)
    have h2 := Int.emod_lt_of_pos a hn'
    rw [Int.neg_tmod, Int.tmod_eq_emod_of_nonneg (a := a) (by omega), Int.tmod_eq_emod_of_nonneg (by omega)]
    have h3 : (-(a % (n : Int)) + n) % (n : Int) = (-a) % (n : Int) := by
      have e : -a = -(a % (n : Int)) + (n : Int) * (-(a / (n : Int))) := by
        have := Int.emod_add_mul_ediv a n
        rw [Int.mul_neg]
        omega
      rw [Int.add_emod_right]
      conv => rhs; rw [e, Int.add_mul_emod_self_left]
    rw [h3]
    have := Int.emod_nonneg (-a) (show (n : Int) ≠ 0 by omega)
    omega
  · have h1 := Int.emod_nonneg z (show (n : Int) ≠ 0 by omega)
    rw [Int.tmod_eq_emod_of_nonneg (a := z) h, Int.tmod_eq_emod_of_nonneg (by omega), Int.add_emod_right, Int.emod_emod_of_dvd _ (Int.dvd_refl _)]
    omega
theorem rOf_lt (z : Int) {n : Nat} (hn : 0 < n) : rOf z n < n := by
  unfold rOf
  have h1 := Int.emod_nonneg z (show (n : Int) ≠ 0 by omega)
  have h2 := Int.emod_lt_of_pos z (show (0 : Int) < n by omega)
  omega
theorem tmodn_bd (z : Int) {n : Nat} (hn : 0 < n) : -(n : Int) < Int.tmod z n ∧ Int.tmod z n < n := by
  rcases Int.lt_or_le z 0 with h | h
  · obtain ⟨a, rfl⟩ : ∃ a : Int, z = -a := ⟨-z, by omega⟩
    rw [Int.neg_tmod, Int.tmod_eq_emod_of_nonneg (a := a) (by omega)]
    have h1 := Int.emod_nonneg a (show (n : Int) ≠ 0 by omega)
    have h2 := Int.emod_lt_of_pos a (show (0 : Int) < n by omega)
    omega
  · rw [Int.tmod_eq_emod_of_nonneg (a := z) h]
    have h1 := Int.emod_nonneg z (show (n : Int) ≠ 0 by omega)
    have h2 := Int.emod_lt_of_pos z (show (0 : Int) < n by omega)
    omega
theorem OutR.at_ {p : Nat} {a a' : List Tok} (h : OutR p a a') {k : Nat} (hk : k < a.length) (d : Tok) : TokR p (a.getD k d) (a'.getD k d) := by
  obtain ⟨hl, hg⟩ := h.get
  obtain ⟨t', h1, h2⟩ := hg k a[k] (List.getElem?_eq_getElem hk)
  rw [List.getD, List.getD, List.getElem?_eq_getElem hk, h1]
  exact h2
end Go.Lex
namespace Go.Lex
theorem kL_yes {n : Nat} {ts : List Tok} {k : Nat} (h : (ts.getD (k + 1) ⟨0, [], 0⟩).kind = 5 ∧ (ts.getD (k + 1) ⟨0, [], 0⟩).pos < n) : kL n ts (k + 1) = kL n ts k ++ [(ts.getD (k + 1) ⟨0, [], 0⟩).pos] := by
  rw [kL, if_pos h]
theorem kL_no {n : Nat} {ts : List Tok} {k : Nat} (h : ¬ ((ts.getD (k + 1) ⟨0, [], 0⟩).kind = 5 ∧ (ts.getD (k + 1) ⟨0, [], 0⟩).pos < n)) : kL n ts (k + 1) = kL n ts k := by
  rw [kL, if_neg h, List.append_nil]
end Go.Lex
