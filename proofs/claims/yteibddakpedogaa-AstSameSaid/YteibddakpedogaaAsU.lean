/-
  Proved here: plain: a scanned text's tokens: so many, so long, one end. No program stands here.
-/
import Derived.Test.YteibddakpedogaaAsP
import Derived.Test.YteibddakpedogaaLexP
namespace Go.Lex
open Go.SX
/-- a token that a scanner may lay -/
def tkOk (n : Nat) (t : Tok) : Prop := t.pos ≤ n ∧ t.kind < 8
structure TI (σ : Sc) : Prop where
  ok : ∀ t ∈ σ.out, tkOk σ.s.length t
  sum : (σ.out.map fun t => t.text.length).sum ≤ σ.pos
theorem TI.put {σ : Sc} (h : TI σ) {k : Nat} {x : List UInt8} {pos pos' : Nat} (hk : tkOk σ.s.length ⟨k, x, pos⟩) (hs : σ.pos + x.length ≤ pos') {b b2 : List Nat} {l : Bool} : TI (({ σ with pos := pos', blocks := b, brk := b2, line := l } : Sc).tok k x pos) := by
  refine ⟨fun t ht => ?_, ?_⟩
  · rcases List.mem_append.1 ht with ht | ht
    · exact h.ok t ht
    · cases List.mem_singleton.1 ht
      exact hk
  · show ((σ.out ++ [_]).map fun t : Tok => t.text.length).sum ≤ pos'
    rw [List.map_append, List.sum_append]
    have := h.sum
    simp only [List.map_cons, List.map_nil, List.sum_cons, List.sum_nil]
    omega
theorem TI.move {σ : Sc} (h : TI σ) {pos' : Nat} (hp : σ.pos ≤ pos') {b b2 : List Nat} {l : Bool} : TI { σ with pos := pos', blocks := b, brk := b2, line := l } := ⟨h.ok, Nat.le_trans h.sum hp⟩
theorem plain_tk {n k p : Nat} {x : List UInt8} (hp : p ≤ n) (h8 : k < 8) : tkOk n ⟨k, x, p⟩ := ⟨hp, h8⟩
theorem txtL_len : ∀ (l : List UInt8) (i k : Nat) (acc t : List UInt8), txtL l i k acc = .ok t → t.length ≤ acc.length + l.length
  | [], i, k, acc, t, h => by
    cases k <;> (unfold txtL at h; cases h; exact Nat.le_refl _)
  | c :: r, i, 0, acc, t, h => by
    unfold txtL at h
    split at h
    · cases hp : pieceL r with
      | mk v n =>
        simp only [hp] at h
        split at h
        · cases h
        · have := txtL_len _ _ _ _ _ h
          rw [List.length_append] at this
          have h1 : [UInt8.ofNat v].length = 1 := rfl
          rw [List.length_cons]
          omega
    · split at h
      · cases h
      · have := txtL_len _ _ _ _ _ h
        rw [List.length_append] at this
        have h1 : [c].length = 1 := rfl
        rw [List.length_cons]
        omega
  | c :: r, i, k + 1, acc, t, h => by
    unfold txtL at h
    have := txtL_len _ _ _ _ _ h
    rw [List.length_cons]
    omega
theorem token_tk {σ σ1 : Sc} (h : σ.token (bt σ.s σ.pos) = .ok σ1) (hp : σ.pos < σ.s.length) (hT : TI σ) : TI σ1 := by
  have hd := drop_bt hp
  unfold Sc.token at h
  split at h
  · rename_i hl
    cases h
    have h1 := wordL_le (σ.s.drop σ.pos)
    have h2 : 0 < wordL (σ.s.drop σ.pos) := by
      rw [hd, wordL]
      unfold bt at hl
      rw [if_pos (by rw [hl]; rfl)]; omega
    have h3 : ((σ.s.drop σ.pos).take (wordL (σ.s.drop σ.pos))).length = wordL (σ.s.drop σ.pos) := by rw [List.length_take]; omega
    refine hT.put (b := σ.blocks) (b2 := σ.brk) (l := σ.line) ?_ (by rw [h3]; exact Nat.le_refl _)
    refine ⟨Nat.le_of_lt hp, ?_⟩
    · dsimp only
      split <;> decide
  · rename_i hl
    split at h
    · rename_i hdg
      unfold Sc.number at h
      cases hn : numL (σ.s.drop σ.pos) with
      | none => rw [hn] at h; cases h
      | some n =>
        rw [hn] at h
        simp only at h
        split at h
        · cases h
        · next hno =>
          cases h
          have h1 := numL_bd _ _ hn
          have h3 : ((σ.s.drop σ.pos).take n).length = n := by rw [List.length_take]; omega
          exact hT.put (b := σ.blocks) (b2 := σ.brk) (l := σ.line) ⟨Nat.le_of_lt hp, show 2 < 8 by decide⟩ (by rw [h3]; exact Nat.le_refl _)
    · split at h
      · unfold Sc.text at h
        cases he : endL (bt σ.s σ.pos) (σ.s.drop (σ.pos + 1)) (σ.pos + 1) with
        | none => rw [he] at h; cases h
        | some e =>
          rw [he] at h
          simp only at h
          have hbd := endL_bd _ _ _ he
          simp at hbd
          cases ht : txtL ((σ.s.take (e - 1)).drop (σ.pos + 1)) (σ.pos + 1) 0 [] with
          | error x => rw [ht] at h; cases h
          | ok t =>
            rw [ht] at h
            cases h
            have h5 := txtL_len _ _ _ _ _ ht
            simp only [List.length_nil, List.length_drop, List.length_take] at h5
            exact hT.put (b := σ.blocks) (b2 := σ.brk) (l := σ.line) (plain_tk (Nat.le_of_lt hp) (by decide)) (by omega)
      · unfold Sc.sign at h
        simp only at h
        split at h
        · cases h
        · split at h
          · split at h
            · cases h
            · cases h
              exact hT.put (b := σ.blocks) (l := σ.line) (plain_tk (Nat.le_of_lt hp) (by decide)) (Nat.le_refl _)
          · split at h
            · split at h
              · cases h
                exact hT.put (b := σ.blocks) (l := σ.line) (plain_tk (Nat.le_of_lt hp) (by decide)) (Nat.le_refl _)
              · cases h
            · cases h
              exact hT.put (b := σ.blocks) (b2 := σ.brk) (l := σ.line) (plain_tk (Nat.le_of_lt hp) (by decide)) (Nat.le_refl _)
theorem outdent_tk (i : Nat) : ∀ (f : Nat) (σ : Sc), σ.pos ≤ σ.s.length → TI σ → TI (Sc.outdent i f σ)
  | 0, σ, _, h => h
  | f + 1, σ, hp, h => by
    unfold Sc.outdent
    split
    · exact outdent_tk i f _ hp (h.put (pos' := σ.pos) (b2 := σ.brk) (l := σ.line) (plain_tk hp (by decide)) (Nat.le_refl _))
    · exact h
theorem begin_tk {σ σ1 : Sc} (h : σ.begin = .ok σ1) (hp : σ.pos ≤ σ.s.length) (hT : TI σ) : TI σ1 := by
  unfold Sc.begin at h
  split at h
  · cases h
  · simp only at h
    split at h
    · split at h
      · cases h
      · cases h
        exact hT.put (pos' := σ.pos) (b2 := σ.brk) (plain_tk hp (by decide)) (Nat.le_refl _)
    · split at h
      · cases h
        exact outdent_tk _ _ _ hp (hT.move (pos' := σ.pos) (b := σ.blocks) (b2 := σ.brk) (l := true) (Nat.le_refl _))
      · cases h
theorem nl_tk {σ : Sc} (hp : σ.pos ≤ σ.s.length) (hT : TI σ) : TI σ.nl := by
  unfold Sc.nl
  split
  · exact hT.put (pos' := σ.pos) (b := σ.blocks) (b2 := σ.brk) (l := false) (plain_tk hp (by decide)) (Nat.le_refl _)
  · exact hT.move (pos' := σ.pos) (b := σ.blocks) (b2 := σ.brk) (l := false) (Nat.le_refl _)
theorem step_tk {σ σ1 : Sc} (h : σ.step = .ok σ1) (hI : Inv σ) (hp : σ.pos < σ.s.length) (hT : TI σ) : TI σ1 := by
  obtain ⟨hle, hz, hn, hd, hb, hf⟩ := hI
  by_cases h10 : bt σ.s σ.pos = 10
  · by_cases hk : σ.brk = []
    · rw [Sc.step_nl h10 hk] at h
      cases h
      have h1 := nl_tk hle hT
      exact ⟨h1.ok, Nat.le_succ_of_le h1.sum⟩
    · rw [Sc.step_br h10 hk] at h
      cases h
      exact ⟨hT.ok, Nat.le_succ_of_le hT.sum⟩
  by_cases h32 : bt σ.s σ.pos = 32
  · rw [Sc.step_sp h32] at h
    cases h
    exact ⟨hT.ok, Nat.le_succ_of_le hT.sum⟩
  by_cases h35 : bt σ.s σ.pos = 35
  · rw [Sc.step_com h35] at h
    unfold Sc.comment at h
    cases hc : comL (σ.s.drop σ.pos) σ.pos with
    | error e => rw [hc] at h; cases h
    | ok j =>
      rw [hc] at h
      cases h
      exact ⟨hT.ok, Nat.le_trans hT.sum (comL_bd _ _ _ hc).1⟩
  by_cases hl : σ.line = true
  · rw [Sc.step_line h10 h32 h35 hl] at h
    exact token_tk h hp hT
  · simp only [Bool.not_eq_true] at hl
    cases hbg : σ.begin with
    | error e => rw [Sc.step_err h10 h32 h35 hl hbg] at h; cases h
    | ok σ2 =>
      rw [Sc.step_beg h10 h32 h35 hl hbg] at h
      have hB := Sc.begin_ok hbg hz hn hd hb
      rw [← hB.1.s, ← hB.2.1] at h
      exact token_tk h (by rw [hB.1.s, hB.2.1]; exact hp) (begin_tk hbg hle hT)
theorem loop_tk : ∀ (f : Nat) (σ σ1 : Sc), Sc.loop f σ = .ok σ1 → Inv σ → TI σ → Inv σ1 ∧ TI σ1 ∧ σ1.s = σ.s
  | 0, σ, σ1, h, hI, hT => by cases h; exact ⟨hI, hT, rfl⟩
  | f + 1, σ, σ1, h, hI, hT => by
    unfold Sc.loop at h
    split at h
    · next hp =>
      cases hs : σ.step with
      | error e => rw [hs] at h; cases h
      | ok σ2 =>
        rw [hs] at h
        have h1 := Sc.step_ok hs hI hp
        have h2 := loop_tk f σ2 σ1 h h1.1 (step_tk hs hI hp hT)
        exact ⟨h2.1, h2.2.1, h2.2.2.trans h1.2.1⟩
    · cases h; exact ⟨hI, hT, rfl⟩
/-- a token, for the parser -/
def tkP (t : Tok) : Go.Pa.Tk := ⟨t.kind, t.text, t.pos⟩
theorem scan_tks {s : List UInt8} {ts : List Tok} (hs : scan s = .ok ts) (hl : s.length ≤ 100000) : (Go.As.Tok6 (ts.map tkP) ∧ 0 < ts.length) ∧ ∀ t ∈ ts, t.pos ≤ s.length ∧ t.kind ≤ 8 := by
  unfold scan at hs
  cases hg : Sc.loop s.length (Sc.start s) with
  | error e => rw [hg] at hs; cases hs
  | ok σ =>
    rw [hg] at hs
    simp only at hs
    split at hs
    · cases hs
    · have e : σ.nl.out ++ dedents (σ.blocks.length - 1) s.length ++ [⟨8, [], s.length⟩] = ts := by simpa using hs
      obtain ⟨hI, hT, he⟩ := loop_tk _ _ _ hg (start_inv s) ⟨(fun t ht => absurd ht (by simp [Sc.start])), Nat.zero_le _⟩
      have he' : σ.s = s := he
      have hn := nl_tk hI.le hT
      have hns := (Sc.nl_keeps σ)
      have hnp := Sc.nl_pos σ
      have hle := hI.le
      have hfew := hI.few
      have hsome := hI.some
      rw [he'] at hle
      have hall : ∀ t ∈ σ.nl.out ++ dedents (σ.blocks.length - 1) s.length, tkOk s.length t := by
        intro t ht
        rcases List.mem_append.1 ht with ht | ht
        · have := hn.ok t ht
          rw [hns.1, he'] at this
          exact this
        · rw [(List.mem_replicate.1 ht).2]
          exact plain_tk (Nat.le_refl _) (by decide)
      have hlen : ts.length ≤ 3 * s.length + 3 := by
        rw [← e]
        have h1 := hns.2.2.2
        simp only [List.length_append, List.length_singleton, dedents, List.length_replicate]
        omega
      have hsum : (ts.map fun t => t.text.length).sum ≤ s.length := by
        rw [← e, List.map_append, List.map_append, List.sum_append, List.sum_append]
        have h1 := hn.sum
        rw [hnp] at h1
        have h2 : ((dedents (σ.blocks.length - 1) s.length).map fun t => t.text.length).sum = 0 := by
          unfold dedents
          rw [List.map_replicate]
          simp
        rw [h2]
        simp only [List.map_cons, List.map_nil, List.sum_cons, List.sum_nil, List.length_nil]
        omega
      refine ⟨⟨⟨by rw [List.length_map]; omega, ?_, ?_⟩, ?_⟩, fun t ht => ?_⟩
      · intro i t ht hne
        rw [List.getElem?_map] at ht
        cases hti : ts[i]? with
        | none => rw [hti] at ht; cases ht
        | some t0 =>
          rw [hti] at ht
          cases ht
          rw [List.length_map]
          have hlt := (List.getElem?_eq_some_iff.1 hti).1
          rw [← e] at hti hlt ⊢
          simp only [List.length_append, List.length_singleton] at hlt ⊢
          rcases Nat.lt_or_ge i (σ.nl.out ++ dedents (σ.blocks.length - 1) s.length).length with h1 | h1
          · rw [List.length_append] at h1; omega
          · rw [List.getElem?_append_right h1] at hti
            rw [List.length_append] at h1
            have hz : i - (σ.nl.out ++ dedents (σ.blocks.length - 1) s.length).length = 0 := by rw [List.length_append]; omega
            rw [hz] at hti
            cases hti
            exact absurd rfl hne
      · rw [List.map_map]
        have : (fun t : Go.Pa.Tk => t.text.length) ∘ tkP = fun t => t.text.length := rfl
        rw [this]
        omega
      · rw [← e, List.length_append]; exact Nat.succ_pos _
      · rw [← e] at ht
        rcases List.mem_append.1 ht with h1 | h1
        · have h2 := hall t h1
          exact ⟨h2.1, Nat.le_of_lt h2.2⟩
        · cases List.mem_singleton.1 h1
          exact ⟨Nat.le_refl _, Nat.le_refl 8⟩
end Go.Lex
