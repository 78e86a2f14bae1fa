/-
  Proved here: plain: what the document's scanner keeps between its steps.
-/
import Derived.Test.YteibddakpedogaaRefP
namespace Go.Lex
open Go.SX
/-- what the document's scanner keeps between its steps -/
structure RInv (s : List UInt8) (σ : Sc) (st : Nat) (bl : Bool) : Prop where
  inv : Inv σ
  text : σ.s = s
  go : σ.go = (Sc.start s).go
  cl : ∀ x ∈ σ.brk, closes x = true
  fresh : σ.line = false → bl = true ∧ σ.brk = []
  col : σ.line = false → σ.pos < s.length → bt s σ.pos ≠ 10 → st + σ.col = σ.pos
def RSt (s : List UInt8) (σ : Sc) (b : Option Nat) (st : Nat) (bl : Bool) : Prop := match b with
  | none => RInv s σ st bl
  | some e => (Sc.start s).go = .error e
theorem rinv_start (s : List UInt8) : RInv s (Sc.start s) 0 true :=
  ⟨start_inv s, rfl, rfl, fun x hx => (by cases hx), fun _ => ⟨rfl, rfl⟩, fun _ _ _ => rfl⟩
theorem take_snoc {s : List UInt8} {k : Nat} (h : k < s.length) : s.take (k + 1) = s.take k ++ [s.getD k 0] := by
  rw [List.take_succ_eq_append_getElem h]
  simp [List.getD, h]
theorem col_next {s : List UInt8} {k : Nat} (h : k < s.length) : colL (s.take (k + 1)) 0 = if bt s k = 10 then 0 else colL (s.take k) 0 + 1 := by
  rw [take_snoc h, colL_snoc]; rfl
theorem rinv_nl {s : List UInt8} {σ : Sc} {st : Nat} {bl : Bool} (h : RInv s σ st bl) (hp : σ.pos < s.length) (h10 : bt s σ.pos = 10) (hb : σ.brk = []) : RInv s { σ.nl with pos := σ.nl.pos + 1 } (σ.pos + 1) true := by
  have ht := h.text
  subst ht
  have h1 := Sc.step_nl h10 hb
  have h2 := Sc.step_ok h1 h.inv hp
  have h3 := Sc.nl_keeps σ
  refine ⟨h2.1, h2.2.1, (go_step h1 h.inv hp).trans h.go, fun x hx => ?_, fun _ => ⟨rfl, h3.2.2.1.trans hb⟩, fun _ _ _ => ?_⟩
  · have : x ∈ σ.brk := by rw [← h3.2.2.1]; exact hx
    exact h.cl x this
  · show σ.pos + 1 + colL (σ.nl.s.take (σ.nl.pos + 1)) 0 = σ.nl.pos + 1
    rw [h3.1, Sc.nl_pos, col_next hp, if_pos h10]
theorem rinv_br {s : List UInt8} {σ : Sc} {st : Nat} {bl : Bool} (h : RInv s σ st bl) (hp : σ.pos < s.length) (h10 : bt s σ.pos = 10) (hb : σ.brk ≠ []) : RInv s { σ with pos := σ.pos + 1 } (σ.pos + 1) true := by
  have ht := h.text
  subst ht
  have h1 := Sc.step_br h10 hb
  have h2 := Sc.step_ok h1 h.inv hp
  refine ⟨h2.1, h2.2.1, (go_step h1 h.inv hp).trans h.go, h.cl, fun hl => absurd (h.fresh hl).2 hb, fun hl => absurd (h.fresh hl).2 hb⟩
theorem rinv_sp {s : List UInt8} {σ : Sc} {st : Nat} {bl : Bool} (h : RInv s σ st bl) (hp : σ.pos < s.length) (h32 : bt s σ.pos = 32) : RInv s { σ with pos := σ.pos + 1 } st bl := by
  have ht := h.text
  subst ht
  have h1 := Sc.step_sp h32
  have h2 := Sc.step_ok h1 h.inv hp
  refine ⟨h2.1, h2.2.1, (go_step h1 h.inv hp).trans h.go, h.cl, h.fresh, fun hl _ _ => ?_⟩
  have h3 := h.col hl hp (by omega)
  show st + colL (σ.s.take (σ.pos + 1)) 0 = σ.pos + 1
  rw [col_next hp, if_neg (by omega)]
  have : σ.col = colL (σ.s.take σ.pos) 0 := rfl
  omega
theorem comL_stop : ∀ (l : List UInt8) (i j : Nat), comL l i = .ok j → ∀ k, j = i + k → k < l.length → (l.getD k 0).toNat = 10
  | [], i, j, _, k, _, hk => by simp at hk
  | c :: r, i, j, h, k, hj, hk => by
    unfold comL at h
    split at h
    · rename_i hc
      cases h
      have : k = 0 := by omega
      subst this
      exact hc
    · split at h
      · cases h
      · have hb := comL_bd r (i + 1) j h
        obtain ⟨k', rfl⟩ : ∃ k', k = k' + 1 := ⟨k - 1, by omega⟩
        have := comL_stop r (i + 1) j h k' (by omega) (by simpa using hk)
        simpa using this
theorem rinv_com {s : List UInt8} {σ σ' : Sc} {st : Nat} {bl : Bool} (h : RInv s σ st bl) (hp : σ.pos < s.length) (h35 : bt s σ.pos = 35) (hc : σ.comment = .ok σ') : RInv s σ' st bl ∧ σ.pos < σ'.pos := by
  have ht := h.text
  subst ht
  have h1 := (Sc.step_com h35).trans hc
  have h2 := Sc.step_ok h1 h.inv hp
  unfold Sc.comment at hc
  cases hcl : comL (σ.s.drop σ.pos) σ.pos with
  | error e => rw [hcl] at hc; cases hc
  | ok j =>
    rw [hcl] at hc
    cases hc
    refine ⟨⟨h2.1, h2.2.1, (go_step h1 h.inv hp).trans h.go, h.cl, h.fresh, fun _ hp' hne => ?_⟩, h2.2.2⟩
    have hb := comL_bd _ _ _ hcl
    have := comL_stop _ _ _ hcl (j - σ.pos) (by omega) (by simp; simp at hp'; omega)
    refine absurd ?_ hne
    unfold bt
    rw [← this]
    simp only [List.getD, List.getElem?_drop]
    rw [show σ.pos + (j - σ.pos) = j by omega]
theorem rst_err {s : List UInt8} {σ σ' : Sc} {st st' e : Nat} {bl bl' : Bool} (h : RInv s σ st bl) (hp : σ.pos < s.length) (he : σ.step = .error e) : RSt s σ' (some e) st' bl' := by
  have ht := h.text
  subst ht
  exact h.go.symm.trans (go_err he hp)
theorem token_keeps {σ σ1 : Sc} {c : Nat} (h : σ.token c = .ok σ1) (hcl : ∀ x ∈ σ.brk, closes x = true) : (∀ x ∈ σ1.brk, closes x = true) ∧ σ1.line = σ.line := by
  unfold Sc.token at h
  split at h
  · cases h; exact ⟨hcl, rfl⟩
  · split at h
    · unfold Sc.number at h
      split at h
      · cases h
      · simp only at h
        split at h
        · cases h
        · cases h; exact ⟨hcl, rfl⟩
    · split at h
      · unfold Sc.text at h
        split at h
        · cases h
        · rename_i e he
          simp only at h
          cases ht : txtL ((σ.s.take (e - 1)).drop (σ.pos + 1)) (σ.pos + 1) 0 [] with
          | error x => rw [ht] at h; cases h
          | ok t => rw [ht] at h; cases h; exact ⟨hcl, rfl⟩
      · unfold Sc.sign at h
        simp only at h
        split at h
        · cases h
        · split at h
          · rename_i e ho
            split at h
            · cases h
            · cases h
              refine ⟨fun x hx => ?_, rfl⟩
              have hx2 : x ∈ σ.brk ++ [e] := hx
              rcases List.mem_append.1 hx2 with hx2 | hx2
              · exact hcl x hx2
              · rw [List.mem_singleton.1 hx2]; exact (unc_opens ho).2
          · split at h
            · split at h
              · cases h
                exact ⟨fun x hx => hcl x ((List.dropLast_sublist _).subset hx), rfl⟩
              · cases h
            · cases h; exact ⟨hcl, rfl⟩
theorem rst_tok {s : List UInt8} {σ σ1 σ' : Sc} {st : Nat} {bl bl' : Bool} {c : Nat} {b : Option Nat} (h : RInv s σ st bl) (hp : σ.pos < s.length) (hs : σ.step = σ1.token c) (hbk : σ1.brk = σ.brk) (hl : σ1.line = true) (hr : Ran (σ1.token c) σ' b) :
    RSt s σ' b st bl' ∧ (b = none → σ.pos < σ'.pos) := by
  have ht := h.text
  subst ht
  cases hk : σ1.token c with
  | error e =>
    rw [hk] at hr
    obtain rfl : b = some e := hr
    exact ⟨rst_err h hp (hs.trans hk), fun h => by cases h⟩
  | ok σ2 =>
    rw [hk] at hr
    obtain ⟨rfl, rfl⟩ := hr
    have h1 := hs.trans hk
    have h2 := Sc.step_ok h1 h.inv hp
    have h3 := token_keeps hk (by rw [hbk]; exact h.cl)
    exact ⟨⟨h2.1, h2.2.1, (go_step h1 h.inv hp).trans h.go, h3.1, fun hf => (by rw [h3.2, hl] at hf; cases hf), fun hf => (by rw [h3.2, hl] at hf; cases hf)⟩, fun _ => h2.2.2⟩
theorem begR_keeps {σ σ1 : Sc} (h : σ.begR = .ok σ1) : σ1.s = σ.s ∧ σ1.pos = σ.pos ∧ σ1.brk = σ.brk := by
  unfold Sc.begR at h
  split at h
  · split at h
    · cases h
    · cases h; exact ⟨rfl, rfl, rfl⟩
  · have hk := outdent_keeps σ.col σ.blocks.length σ
    split at h
    · cases h; exact ⟨hk.1, hk.2.1, hk.2.2.1⟩
    · cases h
theorem begR_few {σ σ1 : Sc} (h : σ.begR = .ok σ1) (hz : σ.blocks.getD 0 0 = 0) (hn : 0 < σ.blocks.length) : σ1.out.length + σ1.blocks.length ≤ σ.out.length + σ.blocks.length + 2 := by
  unfold Sc.begR at h
  split at h
  · split at h
    · cases h
    · cases h; simp [Sc.tok]; omega
  · have hk := outdent_keeps σ.col σ.blocks.length σ
    split at h
    · cases h; have := hk.2.2.2.2.2.1 hn hz; omega
    · cases h
theorem begR_err {σ : Sc} {e : Nat} (h : σ.begR = .error e) : e = σ.pos := by
  unfold Sc.begR at h
  split at h
  · split at h
    · cases h; rfl
    · cases h
  · split at h
    · cases h
    · cases h; rfl
theorem begins_no {σ : Sc} (h : σ.begins = false) : isLet (bt σ.s σ.pos) = false ∧ isDig (bt σ.s σ.pos) = false ∧ ¬ (bt σ.s σ.pos = 34 ∨ bt σ.s σ.pos = 39) ∧ signL (σ.s.drop σ.pos) = [] := by
  unfold Sc.begins at h
  simp only [Bool.or_eq_false_iff, decide_eq_false_iff_not] at h
  obtain ⟨⟨⟨⟨h1, h2⟩, h3⟩, h4⟩, h5⟩ := h
  exact ⟨h1, h2, fun h => h.elim h3 h4, Classical.not_not.1 h5⟩
theorem begR_step {σ σ1 : Sc} (hl : σ.line = false) (h1 : bt σ.s σ.pos ≠ 10) (h2 : bt σ.s σ.pos ≠ 32) (h3 : bt σ.s σ.pos ≠ 35) (h : σ.begR = .ok σ1) : σ.step = ({ σ1 with line := true } : Sc).token (bt σ.s σ.pos) := by
  cases hb : σ.begins with
  | true =>
    refine Sc.step_beg h1 h2 h3 hl ?_
    rw [Sc.begin_begR hb, h]; rfl
  | false =>
    have hk := begR_keeps h
    have hn := begins_no hb
    rw [Sc.step_err h1 h2 h3 hl (Sc.begin_bad hb), Sc.token_sign hn.1 hn.2.1 hn.2.2.1, Sc.sign_none (by show signL (σ1.s.drop σ1.pos) = []; rw [hk.1, hk.2.1]; exact hn.2.2.2)]
    show Except.error σ.pos = Except.error σ1.pos
    rw [hk.2.1]
theorem begR_stepE {σ : Sc} {e : Nat} (hl : σ.line = false) (h1 : bt σ.s σ.pos ≠ 10) (h2 : bt σ.s σ.pos ≠ 32) (h3 : bt σ.s σ.pos ≠ 35) (h : σ.begR = .error e) : σ.step = .error e := by
  cases hb : σ.begins with
  | true =>
    refine Sc.step_err h1 h2 h3 hl ?_
    rw [Sc.begin_begR hb, h]; rfl
  | false => rw [begR_err h]; exact Sc.step_err h1 h2 h3 hl (Sc.begin_bad hb)
theorem twos_head : ∀ x ∈ twosL, x.headD 0 ∈ onesL ∨ x.headD 0 = 33 ∨ x.headD 0 = 47 := by decide
theorem starts_sign {s : List UInt8} {k : Nat} (hk : k < s.length) (h1 : s.getD k 0 ∉ onesL) (h2 : bt s k ≠ 33) (h3 : bt s k ≠ 47) : signL (s.drop k) = [] := by
  unfold bt at h2 h3
  rw [drop_bt hk]
  refine signL_no (fun hm => ?_) h1
  have h4 : ((s.getD k 0 :: s.drop (k + 1)).take 2).headD 0 = s.getD k 0 := rfl
  have h5 := twos_head _ hm
  rw [h4] at h5
  rcases h5 with h5 | h5 | h5
  · exact h1 h5
  · rw [h5] at h2; exact h2 rfl
  · rw [h5] at h3; exact h3 rfl
theorem ran_none {r : Except Nat Sc} {σ' : Sc} (h : Ran r σ' none) : r = .ok σ' := by
  cases r with
  | ok σ => obtain ⟨rfl, _⟩ := h; rfl
  | error e => cases h
theorem ran_some {r : Except Nat Sc} {σ' : Sc} {e : Nat} (h : Ran r σ' (some e)) : r = .error e := by
  cases r with
  | ok σ => obtain ⟨_, h⟩ := h; cases h
  | error e => cases h; rfl
theorem comL_badR {s : List UInt8} {k : Nat} (h : k < s.length) (h1 : bt s k ≠ 10) (h2 : bt s k < 32 ∨ bt s k = 127) : comL (s.drop k) k = .error k := by
  unfold bt at *
  rw [drop_bt h, comL, if_neg h1, if_pos h2]
theorem ded_step {o t : List Tok} {n p : Nat} (h : o ++ dedents (n + 1 + 1 - 1) p = t) : (o ++ [⟨7, [], p⟩]) ++ dedents (n + 1 + 1 - 1 - 1) p = t := by
  rw [← h, List.append_assoc]; rfl
end Go.Lex
