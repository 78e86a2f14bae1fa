/-
  Proved here: plain: two texts that are one up to a newline are scanned alike up to there.
-/
import Derived.Test.YtfbenelagdcdgaaDoorPlD
namespace Go.Lex.Bh
open Go.SX Go.Lex
/-! what is read ahead of a place does not look beyond it -/
theorem word_cut (v v' : List UInt8) : ∀ u : List UInt8, wordL (u ++ 10 :: v') = wordL (u ++ 10 :: v) ∧ wordL (u ++ 10 :: v) ≤ u.length
  | [] => ⟨rfl, Nat.le_refl _⟩
  | c :: u => by
    have ih := word_cut v v' u
    simp only [List.cons_append, wordL, List.length_cons]
    split
    · exact ⟨by rw [ih.1], by omega⟩
    · exact ⟨rfl, by omega⟩
theorem num_cut (v v' : List UInt8) : ∀ u : List UInt8, numL (u ++ 10 :: v') = numL (u ++ 10 :: v) ∧ ∀ n, numL (u ++ 10 :: v) = some n → n ≤ u.length
  | [] => ⟨rfl, fun n h => by cases h; exact Nat.le_refl _⟩
  | c :: u => by
    have ih := num_cut v v' u
    simp only [List.cons_append, numL, List.length_cons]
    split
    · exact ⟨rfl, fun n h => by cases h⟩
    · split
      · refine ⟨by rw [ih.1], fun n h => ?_⟩
        cases hr : numL (u ++ 10 :: v) with
        | none => rw [hr] at h; cases h
        | some m => rw [hr] at h; simp only [Option.map_some, Option.some.injEq] at h; have := ih.2 m hr; omega
      · exact ⟨rfl, fun n h => by cases h; omega⟩
theorem end_cut (q : Nat) (v v' : List UInt8) : ∀ (u : List UInt8) (i e : Nat), endL q (u ++ 10 :: v) i = some e → endL q (u ++ 10 :: v') i = some e ∧ e ≤ i + u.length
  | [], i, e, h => by
    rw [List.nil_append, endL_cons, if_pos (by decide)] at h; cases h
  | [c], i, e, h => by
    simp only [List.cons_append, List.nil_append] at h ⊢
    rw [endL_cons] at h ⊢
    split at h
    · cases h
    · rename_i h10
      split at h
      · rename_i hq
        cases h
        exact ⟨by rw [if_neg h10, if_pos hq], by simp⟩
      · split at h
        · dsimp only at h; rw [if_pos (by decide)] at h; cases h
        · rw [endL_cons, if_pos (by decide)] at h; cases h
  | c :: d :: u, i, e, h => by
    simp only [List.cons_append] at h ⊢
    rw [endL_cons] at h ⊢
    split at h
    · cases h
    · rename_i h10
      split at h
      · rename_i hq
        cases h
        exact ⟨by rw [if_neg h10, if_pos hq], by simp only [List.length_cons]; omega⟩
      · rename_i hq
        rw [if_neg h10, if_neg hq]
        split at h
        · rename_i h92
          rw [if_pos h92]
          dsimp only at h ⊢
          split at h
          · cases h
          · rename_i hd
            have := end_cut q v v' u (i + 2) e h
            exact ⟨by rw [if_neg hd]; exact this.1, by simp only [List.length_cons]; omega⟩
        · rename_i h92
          rw [if_neg h92]
          have := end_cut q v v' (d :: u) (i + 1) e h
          exact ⟨this.1, by have h2 := this.2; simp only [List.length_cons] at h2 ⊢; omega⟩
theorem find_congr {a b : List UInt8} : ∀ ss : List (List UInt8), (∀ x ∈ ss, x.isPrefixOf a = x.isPrefixOf b) → ss.find? (·.isPrefixOf a) = ss.find? (·.isPrefixOf b)
  | [], _ => rfl
  | x :: r, h => by
    have h1 := h x (by simp)
    simp only [List.find?_cons, h1]
    split
    · rfl
    · exact find_congr r fun y hy => h y (by simp [hy])
def signOk : List UInt8 → Bool
  | [_] => true
  | [_, b] => b != 10 && b != 32
  | _ => false
theorem signs_shape : ∀ x ∈ signsList, signOk x = true := by decide
theorem pre_cut {x : List UInt8} (hx : signOk x = true) (v v' : List UInt8) : ∀ u : List UInt8, u ≠ [] → x.isPrefixOf (u ++ 10 :: v') = x.isPrefixOf (u ++ 10 :: v) ∧ (x.isPrefixOf (u ++ 10 :: v) = true → x.length ≤ u.length)
  | [], h => absurd rfl h
  | [c], _ => by
    match x, hx with
    | [a], _ => exact ⟨rfl, fun _ => Nat.le_refl _⟩
    | [a, b], hx =>
      simp only [signOk, Bool.and_eq_true, bne_iff_ne, ne_eq] at hx
      have e1 : (b == (10 : UInt8)) = false := by simpa using hx.1
      constructor
      · simp [List.isPrefixOf, e1]
      · intro h; simp [List.isPrefixOf, e1] at h
  | c :: d :: u, _ => by
    match x, hx with
    | [a], _ => exact ⟨rfl, fun _ => by simp⟩
    | [a, b], _ => exact ⟨rfl, fun _ => by simp⟩
theorem sign_cut (v v' : List UInt8) {u : List UInt8} (hu : u ≠ []) : signL (u ++ 10 :: v') = signL (u ++ 10 :: v) ∧ (signL (u ++ 10 :: v)).length ≤ u.length := by
  constructor
  · unfold signL
    rw [find_congr signsList fun x hx => (pre_cut (signs_shape x hx) v v' u hu).1]
  · unfold signL
    cases hf : signsList.find? (·.isPrefixOf (u ++ 10 :: v)) with
    | none => simp
    | some x =>
      have h1 := List.find?_some hf
      have h2 := List.mem_of_find?_eq_some hf
      exact (pre_cut (signs_shape x h2) v v' u hu).2 h1
theorem com_cut (v w : List UInt8) : ∀ (u : List UInt8) (i j : Nat), comL (u ++ 10 :: v) i = .ok j → j ≤ i + u.length ∧ comL (u ++ 10 :: w) i = .ok j
  | [], i, j, h => by
    rw [List.nil_append, comL, if_pos (by decide)] at h
    cases h
    exact ⟨by simp, by rw [List.nil_append, comL, if_pos (by decide)]⟩
  | c :: u, i, j, h => by
    simp only [List.cons_append] at h ⊢
    rw [comL] at h ⊢
    split at h
    · rename_i h10
      cases h
      exact ⟨by simp, by rw [if_pos h10]⟩
    · rename_i h10
      split at h
      · cases h
      · rename_i hb
        rw [if_neg h10, if_neg hb]
        have := com_cut v w u (i + 1) j h
        simp only [List.length_cons]
        exact ⟨by omega, this.2⟩
/-! two texts that part at a place -/
structure Cut (s s' : List UInt8) (p : Nat) (v v' : List UInt8) : Prop where
  le : p ≤ s.length
  at_ : s.drop p = 10 :: v
  at' : s'.drop p = 10 :: v'
  same : s.take p = s'.take p
theorem Cut.drops {s s' : List UInt8} {p : Nat} {v v' : List UInt8} (h : Cut s s' p v v') {k : Nat} (hk : k ≤ p) : s.drop k = (s.take p).drop k ++ 10 :: v ∧ s'.drop k = (s.take p).drop k ++ 10 :: v' ∧ ((s.take p).drop k).length = p - k := by
  have hle : p ≤ s'.length := by
    have := congrArg List.length h.at'
    simp at this; omega
  have e : ∀ (l : List UInt8) (w : List UInt8), p ≤ l.length → l.drop p = w → l.drop k = (l.take p).drop k ++ w := by
    intro l w hl hw
    rw [← hw]
    conv => lhs; rw [← List.take_append_drop p l]
    rw [List.drop_append_of_le_length (by simp; omega)]
  refine ⟨e s _ h.le h.at_, ?_, by have := h.le; simp; omega⟩
  rw [h.same]
  exact e s' _ hle h.at'
theorem Cut.byte {s s' : List UInt8} {p : Nat} {v v' : List UInt8} (h : Cut s s' p v v') {k : Nat} (hk : k < p) : bt s' k = bt s k := by
  have h1 := congrArg (·.getD k 0) h.same
  simp only [List.getD, List.getElem?_take, if_pos hk] at h1
  unfold bt
  simp only [List.getD, h1]
theorem Cut.takes {s s' : List UInt8} {p : Nat} {v v' : List UInt8} (h : Cut s s' p v v') {k : Nat} (hk : k ≤ p) : s'.take k = s.take k := by
  have := congrArg (List.take k) h.same
  simp only [List.take_take, Nat.min_eq_left hk] at this
  exact this.symm
section
variable {s s' : List UInt8} {p : Nat} {v v' : List UInt8} {σ σ1 : Sc}
theorem Cut.found (h : Cut s s' p v v') (hs : σ.s = s) (hp : σ.pos < p) : ({ σ with s := s' } : Sc).found = σ.found ∧ σ.found.length ≤ p - σ.pos := by
  obtain ⟨e1, e2, e3⟩ := h.drops (k := σ.pos) (by omega)
  have hu : (s.take p).drop σ.pos ≠ [] := fun h0 => by rw [h0] at e3; simp at e3; omega
  unfold Sc.found
  simp only [hs, e1, e2]
  have := sign_cut v v' hu
  exact ⟨this.1, by rw [← e3]; exact this.2⟩
theorem Cut.begins (h : Cut s s' p v v') (hs : σ.s = s) (hp : σ.pos < p) : ({ σ with s := s' } : Sc).begins = σ.begins := by
  unfold Sc.begins
  rw [(h.found hs hp).1]
  simp only [hs, h.byte hp]
theorem Cut.col (h : Cut s s' p v v') (hs : σ.s = s) (hp : σ.pos ≤ p) : ({ σ with s := s' } : Sc).col = σ.col := by
  unfold Sc.col
  simp only [hs, h.takes hp]
theorem outdent_s (i : Nat) (s' : List UInt8) : ∀ (f : Nat) (σ : Sc), Sc.outdent i f { σ with s := s' } = { Sc.outdent i f σ with s := s' }
  | 0, _ => rfl
  | f + 1, σ => by
    unfold Sc.outdent
    split
    · exact outdent_s i s' f (({ σ with blocks := σ.blocks.dropLast } : Sc).tok 7 [] σ.pos)
    · rfl
theorem Cut.begin (h : Cut s s' p v v') (hs : σ.s = s) (hp : σ.pos < p) (hb : σ.begin = .ok σ1) : ({ σ with s := s' } : Sc).begin = .ok { σ1 with s := s' } := by
  unfold Sc.begin at hb ⊢
  rw [h.begins hs hp, h.col hs (by omega)]
  split at hb
  · cases hb
  · rename_i h1
    rw [if_neg h1]
    dsimp only at hb ⊢
    split at hb
    · rename_i h2
      rw [if_pos h2]
      split at hb
      · cases hb
      · rename_i h3
        rw [if_neg h3]
        cases hb
        rfl
    · rename_i h2
      rw [if_neg h2]
      have e := outdent_s σ.col s' σ.blocks.length { σ with line := true }
      dsimp only at e
      rw [e]
      split at hb
      · rename_i h3
        cases hb
        rw [if_pos h3]
      · cases hb
theorem Cut.sign (h : Cut s s' p v v') (hs : σ.s = s) (hp : σ.pos < p) (ht : σ.sign = .ok σ1) : ({ σ with s := s' } : Sc).sign = .ok { σ1 with s := s' } ∧ σ1.pos ≤ p := by
  have hf := h.found hs hp
  unfold Sc.sign at ht ⊢
  rw [hf.1]
  dsimp only at ht ⊢
  split at ht
  · cases ht
  · rename_i h1
    rw [if_neg h1]
    split at ht
    · rename_i e he
      split at ht
      · cases ht
      · rename_i h2
        cases ht
        try rw [he]
        try dsimp only
        rw [if_neg h2]
        exact ⟨rfl, by have := hf.2; show σ.pos + σ.found.length ≤ p; omega⟩
    · rename_i he
      split at ht
      · rename_i h2
        split at ht
        · rename_i h3
          cases ht
          try rw [he]
          try dsimp only
          rw [if_pos h2, if_pos h3]
          exact ⟨rfl, by have := hf.2; show σ.pos + σ.found.length ≤ p; omega⟩
        · cases ht
      · rename_i h2
        cases ht
        try rw [he]
        try dsimp only
        rw [if_neg h2]
        exact ⟨rfl, by have := hf.2; show σ.pos + σ.found.length ≤ p; omega⟩
theorem Cut.token (h : Cut s s' p v v') (hs : σ.s = s) (hp : σ.pos < p) {c : Nat} (ht : σ.token c = .ok σ1) : ({ σ with s := s' } : Sc).token c = .ok { σ1 with s := s' } ∧ σ1.pos ≤ p := by
  obtain ⟨e1, e2, e3⟩ := h.drops (k := σ.pos) (by omega)
  unfold Sc.token at ht ⊢
  split at ht
  · rename_i h1
    cases ht
    rw [if_pos h1]
    have hw := word_cut v v' ((s.take p).drop σ.pos)
    rw [← e1, ← e2] at hw
    have hn : wordL (s.drop σ.pos) ≤ p - σ.pos := by rw [← e3]; exact hw.2
    have ht : (s'.drop σ.pos).take (wordL (s.drop σ.pos)) = (s.drop σ.pos).take (wordL (s.drop σ.pos)) := by
      rw [e1, e2, List.take_append_of_le_length (by rw [e3]; rw [← e1]; exact hn), List.take_append_of_le_length (by rw [e3]; rw [← e1]; exact hn)]
    unfold Sc.word
    dsimp only
    rw [hs, hw.1, ht]
    exact ⟨rfl, by simp only [Sc.tok]; omega⟩
  · rename_i h1
    rw [if_neg h1]
    split at ht
    · rename_i h2
      rw [if_pos h2]
      have hw := num_cut v v' ((s.take p).drop σ.pos)
      rw [← e1, ← e2] at hw
      unfold Sc.number at ht ⊢
      dsimp only at ht ⊢
      rw [hs] at ht
      rw [hw.1]
      cases hn : numL (s.drop σ.pos) with
      | none => rw [hn] at ht; cases ht
      | some n =>
        rw [hn] at ht
        have hle : n ≤ p - σ.pos := by rw [← e3]; exact hw.2 n hn
        have ht2 : (s'.drop σ.pos).take n = (s.drop σ.pos).take n := by
          rw [e1, e2, List.take_append_of_le_length (by rw [e3]; exact hle), List.take_append_of_le_length (by rw [e3]; exact hle)]
        dsimp only at ht ⊢
        rw [ht2]
        split at ht
        · cases ht
        · rename_i h3
          cases ht
          rw [if_neg h3]
          exact ⟨rfl, by simp only [Sc.tok]; omega⟩
    · rename_i h2
      rw [if_neg h2]
      split at ht
      · rename_i h3
        rw [if_pos h3]
        unfold Sc.text at ht ⊢
        dsimp only at ht ⊢
        rw [hs] at ht
        obtain ⟨g1, g2, g3⟩ := h.drops (k := σ.pos + 1) (by omega)
        cases he : endL c (s.drop (σ.pos + 1)) (σ.pos + 1) with
        | none => rw [he] at ht; cases ht
        | some e =>
          rw [he] at ht
          have hw := end_cut c v v' ((s.take p).drop (σ.pos + 1)) (σ.pos + 1) e (by rw [← g1]; exact he)
          rw [← g2] at hw
          rw [hw.1]
          have hle : e ≤ p := by have := hw.2; rw [g3] at this; omega
          dsimp only at ht ⊢
          rw [h.takes (k := e - 1) (by omega)]
          cases htx : txtL ((s.take (e - 1)).drop (σ.pos + 1)) (σ.pos + 1) 0 [] with
          | error x => rw [htx] at ht; cases ht
          | ok t =>
            rw [htx] at ht
            cases ht
            exact ⟨rfl, by simp only [Sc.tok]; exact hle⟩
      · rename_i h3
        rw [if_neg h3]
        exact h.sign hs hp ht
/-- one step ahead of the place -/
theorem Cut.step (h : Cut s s' p v v') (hs : σ.s = s) (hp : σ.pos < p) (ht : σ.step = .ok σ1) :
    ({ σ with s := s' } : Sc).step = .ok { σ1 with s := s' } ∧ σ1.pos ≤ p := by
  have hb := h.byte hp
  unfold Sc.step at ht ⊢
  dsimp only at ht ⊢
  rw [hs] at ht
  rw [hb]
  split at ht
  · rename_i h1
    cases ht
    rw [if_pos h1]
    refine ⟨?_, ?_⟩
    · split
      · unfold Sc.nl; dsimp only; split <;> rfl
      · rfl
    · split
      · show σ.pos + 1 ≤ p; omega
      · exact hp
  · rename_i h1
    rw [if_neg h1]
    split at ht
    · rename_i h2
      cases ht
      rw [if_pos h2]
      exact ⟨rfl, hp⟩
    · rename_i h2
      rw [if_neg h2]
      split at ht
      · rename_i h3
        rw [if_pos h3]
        obtain ⟨e1, e2, e3⟩ := h.drops (k := σ.pos) (by omega)
        unfold Sc.comment at ht ⊢
        dsimp only at ht ⊢
        rw [hs] at ht
        cases hc : comL (s.drop σ.pos) σ.pos with
        | error x => rw [hc] at ht; cases ht
        | ok j =>
          rw [hc] at ht
          cases ht
          have hw := com_cut v v' ((s.take p).drop σ.pos) σ.pos j (by rw [← e1]; exact hc)
          rw [← e2, e3] at hw
          exact ⟨by rw [hw.2]; rfl, by dsimp only; omega⟩
      · rename_i h3
        rw [if_neg h3]
        split at ht
        · rename_i h4
          rw [if_pos h4]
          exact h.token hs hp ht
        · rename_i h4
          rw [if_neg h4]
          cases hbg : σ.begin with
          | error e => rw [hbg] at ht; cases ht
          | ok σ2 =>
            rw [hbg] at ht
            rw [h.begin hs hp hbg]
            have hps : σ2.s = s ∧ σ2.pos = σ.pos := by
              unfold Sc.begin at hbg
              split at hbg
              · cases hbg
              · dsimp only at hbg
                split at hbg
                · split at hbg
                  · cases hbg
                  · cases hbg; exact ⟨hs, rfl⟩
                · split at hbg
                  · cases hbg
                    have hk := outdent_keeps σ.col σ.blocks.length { σ with line := true }
                    exact ⟨hk.1.trans hs, hk.2.1⟩
                  · cases hbg
            exact h.token (σ := σ2) hps.1 (by rw [hps.2]; exact hp) ht
end
end Go.Lex.Bh
