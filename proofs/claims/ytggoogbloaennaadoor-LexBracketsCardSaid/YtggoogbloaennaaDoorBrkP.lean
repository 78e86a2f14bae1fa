/-
  Proved here: plain: brackets that close as they open, and what the scanner makes of them.
-/
import Derived.Test.YtggoogbloaennaaDoorQuoP
namespace Go.Lex
open Go.SX
def opC (k : Nat) : UInt8 := [40, 91, 123].getD k 0
def clC (k : Nat) : UInt8 := [41, 93, 125].getD k 0
/-- what the statement's first loop has made: the text, and the brackets that are open -/
structure KS where
  text : List UInt8
  op : List Nat
/-- one element: which bracket; does it close, where one is open; does a newline follow -/
def stepK (st : KS) (k : Nat) (c n : Bool) : KS :=
  if 0 < st.op.length ∧ c = true then
    ⟨st.text ++ [clC (st.op.getLastD 0)] ++ (if st.op.length = 1 then [] else [10]), st.op.dropLast⟩
  else ⟨st.text ++ [opC k] ++ (if n then [10, 32, 32, 32] else []), st.op ++ [k]⟩
/-- the scanner behind such a text -/
structure AtK (T : List UInt8) (st : KS) (σ : Sc) : Prop where
  inv : Inv σ
  go : σ.go = (Sc.start T).go
  s : σ.s = T
  pos : σ.pos = st.text.length
  brk : σ.brk = st.op.map fun k => (clC k).toNat
  blocks : σ.blocks = [0]
  line : σ.line = true ∨ (σ = Sc.start T ∧ st.text = [])
  kinds : ∀ t ∈ σ.out, t.kind = 4
  made : st.text ≠ [] → σ.line = true
theorem opC_facts : ∀ k : Nat, k < 3 → (opC k).toNat ≠ 10 ∧ (opC k).toNat ≠ 32 ∧ (opC k).toNat ≠ 35 ∧ isLet (opC k).toNat = false ∧ isDig (opC k).toNat = false ∧ (opC k).toNat ≠ 34 ∧ (opC k).toNat ≠ 39 ∧ opens (opC k).toNat = some (clC k).toNat := by decide
theorem clC_facts : ∀ k : Nat, k < 3 → (clC k).toNat ≠ 10 ∧ (clC k).toNat ≠ 32 ∧ (clC k).toNat ≠ 35 ∧ isLet (clC k).toNat = false ∧ isDig (clC k).toNat = false ∧ (clC k).toNat ≠ 34 ∧ (clC k).toNat ≠ 39 ∧ opens (clC k).toNat = none ∧ closes (clC k).toNat = true := by decide
theorem opC_sign : ∀ k : Nat, k < 3 → ∀ r : List UInt8, signL (opC k :: r) = [opC k]
  | 0, _, _ => rfl
  | 1, _, _ => rfl
  | 2, _, _ => rfl
theorem clC_sign : ∀ k : Nat, k < 3 → ∀ r : List UInt8, signL (clC k :: r) = [clC k]
  | 0, _, _ => rfl
  | 1, _, _ => rfl
  | 2, _, _ => rfl
/-- one sign more -/
theorem atK_sign {T : List UInt8} {st : KS} {σ : Sc} (h : AtK T st σ) {c : UInt8} {rest : List UInt8} {op' : List Nat} (hT : T = st.text ++ c :: rest) (hs : ∀ r, signL (c :: r) = [c])
    (h0 : c.toNat ≠ 10 ∧ c.toNat ≠ 32 ∧ c.toNat ≠ 35 ∧ isLet c.toNat = false ∧ isDig c.toNat = false ∧ c.toNat ≠ 34 ∧ c.toNat ≠ 39)
    (hk : (∃ e, opens c.toNat = some e ∧ σ.brk.length < 60 ∧ (op'.map fun k => (clC k).toNat) = σ.brk ++ [e]) ∨ (opens c.toNat = none ∧ closes c.toNat = true ∧ σ.brk.getLast? = some c.toNat ∧ (op'.map fun k => (clC k).toNat) = σ.brk.dropLast)) :
    ∃ σ', AtK T ⟨st.text ++ [c], op'⟩ σ' := by
  have hd : σ.s.drop σ.pos = c :: rest := by rw [h.s, h.pos, hT]; simp
  have hp := (at_head hd).1
  have key : σ.step = .ok ({ σ with line := true, pos := σ.pos + 1, brk := op'.map fun k => (clC k).toNat, out := σ.out ++ [⟨4, [c], σ.pos⟩] } : Sc) := by
    have hs1 : ({ σ with line := true } : Sc).step = .ok ({ σ with line := true, pos := σ.pos + 1, brk := op'.map fun k => (clC k).toNat, out := σ.out ++ [⟨4, [c], σ.pos⟩] } : Sc) :=
      step_sign (σ := { σ with line := true }) rfl hd (hs rest) h0 (by
        rcases hk with ⟨e, h1, h2, h3⟩ | ⟨h1, h2, h3, h4⟩
        · exact .inr (.inl ⟨e, h1, h2, h3⟩)
        · exact .inr (.inr ⟨h1, h2, h3, h4⟩))
    rcases h.line with hl | ⟨hl, ht⟩
    · have : ({ σ with line := true } : Sc) = σ := by cases σ; simp only at hl; subst hl; rfl
      rw [this] at hs1
      rw [hs1]
    · have hf : σ.begins = true := by
        have : σ.found = [c] := by unfold Sc.found; rw [hd]; exact hs rest
        unfold Sc.begins; rw [this]; simp
      have h1 := run_first h.inv (by rw [hl]; rfl) (by rw [hl]; rfl) h.blocks hd ⟨h0.1, h0.2.1, h0.2.2.1⟩ hf
      rw [h1, hs1]
  have r := run_step key h.inv hp
  refine ⟨_, ⟨r.1, r.2.trans h.go, h.s, by simp [h.pos], rfl, h.blocks, .inl rfl, fun t ht => ?_, fun _ => rfl⟩⟩
  simp only [List.mem_append, List.mem_singleton] at ht
  rcases ht with ht | ht
  · exact h.kinds t ht
  · rw [ht]
/-- a newline, or a space, within brackets -/
theorem atK_ws {T : List UInt8} {st : KS} {σ : Sc} (h : AtK T st σ) {c : UInt8} {rest : List UInt8} (hT : T = st.text ++ c :: rest) (hc : c = 32 ∨ (c = 10 ∧ st.op ≠ [])) (hne : st.text ≠ []) : ∃ σ', AtK T ⟨st.text ++ [c], st.op⟩ σ' := by
  have hd : σ.s.drop σ.pos = c :: rest := by rw [h.s, h.pos, hT]; simp
  obtain ⟨hp, hb, _⟩ := at_head hd
  have key : σ.step = .ok ({ σ with pos := σ.pos + 1 } : Sc) := by
    rcases hc with rfl | ⟨rfl, ho⟩
    · exact Sc.step_sp hb
    · exact Sc.step_br hb (by rw [h.brk]; simpa using ho)
  have r := run_step key h.inv hp
  exact ⟨_, ⟨r.1, r.2.trans h.go, h.s, by simp [h.pos], h.brk, h.blocks, .inl (h.made hne), h.kinds, fun _ => h.made hne⟩⟩
structure InvK (n : Nat) (st : KS) : Prop where
  sub : ∀ x ∈ st.op, x < 3
  deep : st.op.length ≤ n
  len : st.text.length ≤ 5 * n
  some : 0 < n → st.text ≠ []
  none : n = 0 → st.text = []
theorem stepK_inv {n : Nat} {st : KS} (h : InvK n st) {k : Nat} (hk : k < 3) (c b : Bool) : InvK (n + 1) (stepK st k c b) := by
  obtain ⟨h1, h2, h3, h4, h5⟩ := h
  unfold stepK
  split
  · rename_i hc
    refine ⟨fun x hx => h1 x (List.dropLast_subset _ hx), by simp only [List.length_dropLast]; omega, ?_, fun _ => by simp, fun h => by cases h⟩
    simp only [List.length_append, List.length_singleton]
    split <;> simp <;> omega
  · refine ⟨fun x hx => ?_, by simp; omega, ?_, fun _ => by simp, fun h => by cases h⟩
    · simp only [List.mem_append, List.mem_singleton] at hx
      rcases hx with hx | hx
      · exact h1 x hx
      · omega
    · simp only [List.length_append, List.length_singleton]
      split <;> simp <;> omega
theorem map_last {α β : Type} (f : α → β) (d : α) {l : List α} (h : 0 < l.length) : (l.map f).getLast? = some (f (l.getLastD d)) := by
  rw [List.getLast?_map, List.getLastD_eq_getLast?]
  cases hl : l.getLast? with
  | none => rw [List.getLast?_eq_none_iff] at hl; subst hl; cases h
  | some a => rfl
theorem lastD_mem {l : List Nat} (h : 0 < l.length) : l.getLastD 0 ∈ l := by
  rw [List.getLastD_eq_getLast?]
  cases hl : l.getLast? with
  | none => rw [List.getLast?_eq_none_iff] at hl; subst hl; cases h
  | some a => exact List.mem_of_getLast? hl
theorem atK_close {T : List UInt8} {st : KS} {σ : Sc} (h : AtK T st σ) (h3 : ∀ x ∈ st.op, x < 3) (ho : 0 < st.op.length) {rest : List UInt8} (hT : T = st.text ++ clC (st.op.getLastD 0) :: rest) : ∃ σ', AtK T ⟨st.text ++ [clC (st.op.getLastD 0)], st.op.dropLast⟩ σ' := by
  have hf := clC_facts _ (h3 _ (lastD_mem ho))
  refine atK_sign h hT (clC_sign _ (h3 _ (lastD_mem ho))) ⟨hf.1, hf.2.1, hf.2.2.1, hf.2.2.2.1, hf.2.2.2.2.1, hf.2.2.2.2.2.1, hf.2.2.2.2.2.2.1⟩ (.inr ⟨hf.2.2.2.2.2.2.2.1, hf.2.2.2.2.2.2.2.2, ?_, ?_⟩)
  · rw [h.brk, map_last _ 0 ho]
  · rw [h.brk, List.map_dropLast]
theorem atK_step {T : List UInt8} {st : KS} {σ : Sc} (h : AtK T st σ) (h3 : ∀ x ∈ st.op, x < 3) (hd : st.op.length < 60) {k : Nat} (hk : k < 3) (c b : Bool) {rest : List UInt8} (hT : T = (stepK st k c b).text ++ rest) : ∃ σ', AtK T (stepK st k c b) σ' := by
  by_cases hc : 0 < st.op.length ∧ c = true
  · have e : stepK st k c b = ⟨st.text ++ [clC (st.op.getLastD 0)] ++ (if st.op.length = 1 then [] else [10]), st.op.dropLast⟩ := if_pos hc
    rw [e] at hT ⊢
    by_cases h1 : st.op.length = 1
    · simp only [if_pos h1, List.append_nil] at hT ⊢
      exact atK_close h h3 hc.1 (rest := rest) (by rw [hT]; simp)
    · simp only [if_neg h1] at hT ⊢
      obtain ⟨σ1, h2⟩ := atK_close h h3 hc.1 (rest := 10 :: rest) (by rw [hT]; simp)
      refine atK_ws h2 (rest := rest) (by rw [hT]; simp) (.inr ⟨rfl, ?_⟩) (by simp)
      intro h0
      have := congrArg List.length h0
      simp at this; omega
  · have e : stepK st k c b = ⟨st.text ++ [opC k] ++ (if b then [10, 32, 32, 32] else []), st.op ++ [k]⟩ := if_neg hc
    rw [e] at hT ⊢
    have hf := opC_facts k hk
    have one : ∀ r, T = st.text ++ opC k :: r → ∃ σ', AtK T ⟨st.text ++ [opC k], st.op ++ [k]⟩ σ' := fun r hr =>
      atK_sign h hr (opC_sign k hk) ⟨hf.1, hf.2.1, hf.2.2.1, hf.2.2.2.1, hf.2.2.2.2.1, hf.2.2.2.2.2.1, hf.2.2.2.2.2.2.1⟩ (.inl ⟨_, hf.2.2.2.2.2.2.2, by rw [h.brk]; simpa using hd, by rw [h.brk]; simp⟩)
    cases b with
    | false => simp only [Bool.false_eq_true, if_false, List.append_nil] at hT ⊢; exact one rest (by rw [hT]; simp)
    | true =>
      simp only [if_true] at hT ⊢
      obtain ⟨σ1, h1⟩ := one (10 :: 32 :: 32 :: 32 :: rest) (by rw [hT]; simp)
      obtain ⟨σ2, h2⟩ := atK_ws h1 (c := 10) (rest := 32 :: 32 :: 32 :: rest) (by rw [hT]; simp) (.inr ⟨rfl, by simp⟩) (by simp)
      obtain ⟨σ3, h3⟩ := atK_ws h2 (c := 32) (rest := 32 :: 32 :: rest) (by rw [hT]; simp) (.inl rfl) (by simp)
      obtain ⟨σ4, h4⟩ := atK_ws h3 (c := 32) (rest := 32 :: rest) (by rw [hT]; simp) (.inl rfl) (by simp)
      obtain ⟨σ5, h5⟩ := atK_ws h4 (c := 32) (rest := rest) (by rw [hT]; simp) (.inl rfl) (by simp)
      exact ⟨σ5, by simpa using h5⟩
theorem rev_last {l : List Nat} (h : 0 < l.length) : l.reverse = l.getLastD 0 :: l.dropLast.reverse := by
  have h1 : l ≠ [] := List.length_pos_iff.1 h
  have h2 := List.dropLast_concat_getLast h1
  have h3 : l.getLastD 0 = l.getLast h1 := by rw [List.getLastD_eq_getLast?, List.getLast?_eq_some_getLast h1]; rfl
  rw [h3]
  conv => lhs; rw [← h2]
  simp
theorem atK_all {T : List UInt8} {rest : List UInt8} : ∀ (n : Nat) (st : KS) (σ : Sc), st.op.length = n → AtK T st σ → (∀ x ∈ st.op, x < 3) → T = st.text ++ st.op.reverse.map clC ++ rest → ∃ σ', AtK T ⟨st.text ++ st.op.reverse.map clC, []⟩ σ'
  | 0, st, σ, hn, h, _, _ => by
    have : st.op = [] := List.length_eq_zero_iff.1 hn
    refine ⟨σ, ?_⟩
    rw [this]
    simp only [List.reverse_nil, List.map_nil, List.append_nil]
    obtain ⟨t, o⟩ := st
    simp only at this; subst this; exact h
  | n + 1, st, σ, hn, h, h3, hT => by
    have ho : 0 < st.op.length := by omega
    rw [rev_last ho, List.map_cons] at hT ⊢
    obtain ⟨σ1, h1⟩ := atK_close h h3 ho (rest := st.op.dropLast.reverse.map clC ++ rest) (by rw [hT]; simp)
    obtain ⟨σ2, h2⟩ := atK_all (rest := rest) n _ σ1 (by simp; omega) h1 (fun x hx => h3 x (List.dropLast_subset _ hx)) (by rw [hT]; simp)
    exact ⟨σ2, by simpa using h2⟩
/-- how many newlines are among tokens -/
def nlC (ks : List Nat) : Nat := (ks.filter (· = 5)).length
theorem brk_ok {T : List UInt8} {σ : Sc} (h : AtK T ⟨T, []⟩ σ) : ∃ ts, scan T = .ok ts ∧ nlC (ts.map (·.kind)) = if T = [] then 0 else 1 := by
  have hg : (Sc.start T).go = .ok σ := h.go.symm.trans (go_end (by rw [h.s, h.pos]; exact Nat.lt_irrefl _))
  refine ⟨_, scan_ok hg (by rw [h.brk]; rfl), ?_⟩
  have h5 : nlC (σ.out.map (·.kind)) = 0 := by
    unfold nlC
    rw [List.length_eq_zero_iff, List.filter_eq_nil_iff]
    intro k hk
    obtain ⟨t, ht, rfl⟩ := List.mem_map.1 hk
    rw [h.kinds t ht]; decide
  unfold nlC at h5 ⊢
  rw [h.blocks]
  by_cases hT : T = []
  · rw [if_pos hT]
    rcases h.line with hl | ⟨hl, _⟩
    · subst hT
      have hz : σ = Sc.start [] := by
        have : (Sc.start ([] : List UInt8)).go = .ok (Sc.start []) := go_end (by decide)
        rw [this] at hg; cases hg; rfl
      rw [hz] at hl; cases hl
    · subst hT; rw [hl]; rfl
  · rw [if_neg hT]
    have hl := h.made hT
    simp [Sc.nl, hl, Sc.tok, dedents, List.filter_append, h5]
theorem brk_open {T : List UInt8} {st : KS} {σ : Sc} (h : AtK T st σ) (hT : T = st.text) (ho : st.op ≠ []) : scan T = .error T.length := by
  have hg : (Sc.start T).go = .ok σ := h.go.symm.trans (go_end (by rw [h.s, h.pos, hT]; exact Nat.lt_irrefl _))
  exact scan_brk hg (by rw [h.brk]; simpa using ho)
theorem brk_wrong {T : List UInt8} {st : KS} {σ : Sc} (h : AtK T st σ) (h3 : ∀ x ∈ st.op, x < 3) {k : Nat} (hk : k < 3) (ho : 0 < st.op.length) (hne : k ≠ st.op.getLastD 0) (hT : T = st.text ++ [clC k]) (hl : st.text ≠ []) : scan T = .error st.text.length := by
  have hd : σ.s.drop σ.pos = clC k :: [] := by rw [h.s, h.pos, hT]; simp
  obtain ⟨hp, hb, _⟩ := at_head hd
  have hf := clC_facts k hk
  have hfd : signL (σ.s.drop σ.pos) = [clC k] := by rw [hd]; exact clC_sign k hk []
  have hinj : ∀ a, a < 3 → ∀ b, b < 3 → (clC a).toNat = (clC b).toNat → a = b := by decide
  have hs : σ.step = .error σ.pos := by
    rw [Sc.step_line (by rw [hb]; exact hf.1) (by rw [hb]; exact hf.2.1) (by rw [hb]; exact hf.2.2.1) (h.made hl), hb, Sc.token_sign hf.2.2.2.1 hf.2.2.2.2.1 (by rintro (h' | h'); exact hf.2.2.2.2.2.1 h'; exact hf.2.2.2.2.2.2.1 h')]
    unfold Sc.sign
    have hb0 : bt [clC k] 0 = (clC k).toNat := rfl
    simp only [Sc.found, hfd, List.cons_ne_nil, if_false, hb0, hf.2.2.2.2.2.2.2.1, hf.2.2.2.2.2.2.2.2, if_true, reduceCtorEq]
    rw [if_neg]
    rw [h.brk, map_last _ 0 ho]
    intro he
    injection he with he
    exact hne (hinj _ (h3 _ (lastD_mem ho)) _ hk he).symm
  rw [← h.pos]
  exact scan_err (h.go.symm.trans (go_err hs hp))
/-- Go's rest, by 3; by 2 -/
def nOf3 (z : Int) : Nat := (z % 3).toNat
def nOf2 (z : Int) : Nat := (z % 2).toNat
theorem tmod_bd' (z : Int) {m : Int} (hm : 0 < m) : -m < Int.tmod z m ∧ Int.tmod z m < m := by
  rcases Int.lt_or_le z 0 with h | h
  · obtain ⟨a, rfl⟩ : ∃ a : Int, z = -a := ⟨-z, by omega⟩
    rw [Int.neg_tmod, Int.tmod_eq_emod_of_nonneg (a := a) (by omega)]
    have := Int.emod_nonneg a (show m ≠ 0 by omega)
    have := Int.emod_lt_of_pos a hm
    omega
  · rw [Int.tmod_eq_emod_of_nonneg (a := z) h]
    have := Int.emod_nonneg z (show m ≠ 0 by omega)
    have := Int.emod_lt_of_pos z hm
    omega
theorem nOf3_eq (z : Int) : Int.tmod (Int.tmod z 3 + 3) 3 = (nOf3 z : Int) := by
  unfold nOf3
  rcases Int.lt_or_le z 0 with h | h
  · obtain ⟨a, rfl⟩ : ∃ a : Int, z = -a := ⟨-z, by omega⟩
    rw [Int.neg_tmod, Int.tmod_eq_emod_of_nonneg (a := a) (by omega), Int.tmod_eq_emod_of_nonneg (by omega)]
    omega
  · rw [Int.tmod_eq_emod_of_nonneg (a := z) h, Int.tmod_eq_emod_of_nonneg (by omega)]
    omega
theorem nOf2_eq (z : Int) : Int.tmod (Int.tmod z 2 + 2) 2 = (nOf2 z : Int) := by
  unfold nOf2
  rcases Int.lt_or_le z 0 with h | h
  · obtain ⟨a, rfl⟩ : ∃ a : Int, z = -a := ⟨-z, by omega⟩
    rw [Int.neg_tmod, Int.tmod_eq_emod_of_nonneg (a := a) (by omega), Int.tmod_eq_emod_of_nonneg (by omega)]
    omega
  · rw [Int.tmod_eq_emod_of_nonneg (a := z) h, Int.tmod_eq_emod_of_nonneg (by omega)]
    omega
theorem nOf3_lt (z : Int) : nOf3 z < 3 := by unfold nOf3; omega
theorem nOf2_lt (z : Int) : nOf2 z < 2 := by unfold nOf2; omega
def bitB (z m : Int) : Bool := decide (¬ Go.bits .and .i64 z m = 0)
def stK (zs : List Int) : Nat → KS
  | 0 => ⟨[], []⟩
  | k + 1 => stepK (stK zs k) (nOf3 (zs.getD k 0)) (bitB (zs.getD k 0) 4) (bitB (zs.getD k 0) 8)
theorem stK_inv (zs : List Int) : ∀ k, InvK k (stK zs k)
  | 0 => ⟨fun x hx => absurd hx (List.not_mem_nil), Nat.le_refl _, Nat.le_refl _, fun h => absurd h (Nat.lt_irrefl 0), fun _ => rfl⟩
  | k + 1 => stepK_inv (stK_inv zs k) (nOf3_lt _) _ _
theorem atK_run (zs : List Int) : ∀ k, k ≤ 40 → ∀ T rest, T = (stK zs k).text ++ rest → ∃ σ, AtK T (stK zs k) σ
  | 0, _, T, rest, _ => ⟨Sc.start T, start_inv T, rfl, rfl, rfl, rfl, rfl, .inr ⟨rfl, rfl⟩, fun t ht => absurd ht (List.not_mem_nil), fun h => absurd rfl h⟩
  | k + 1, hk, T, rest, hT => by
    have hI := stK_inv zs k
    have hpre : ∃ r, T = (stK zs k).text ++ r := by
      rw [hT]
      show ∃ r, (stepK _ _ _ _).text ++ rest = _
      unfold stepK
      split
      · exact ⟨_, by simp only [List.append_assoc]; rfl⟩
      · exact ⟨_, by simp only [List.append_assoc]; rfl⟩
    obtain ⟨r, hr⟩ := hpre
    obtain ⟨σ, h⟩ := atK_run zs k (by omega) T r hr
    exact atK_step h hI.sub (by have := hI.deep; omega) (nOf3_lt _) _ _ hT
/-- the text with every open bracket closed -/
def wholeK (st : KS) : List UInt8 := st.text ++ st.op.reverse.map clC
theorem whole_law (zs : List Int) {n : Nat} (hn : n ≤ 40) : ∃ ts, scan (wholeK (stK zs n)) = .ok ts ∧ nlC (ts.map (·.kind)) = if n = 0 then 0 else 1 := by
  obtain ⟨σ, h⟩ := atK_run zs n hn (wholeK (stK zs n)) _ rfl
  obtain ⟨σ1, h1⟩ := atK_all (rest := []) _ _ σ rfl h (stK_inv zs n).sub (by simp [wholeK])
  obtain ⟨ts, h2, h3⟩ := brk_ok h1
  refine ⟨ts, h2, h3.trans ?_⟩
  have hI := stK_inv zs n
  by_cases h0 : n = 0
  · rw [if_pos h0, if_pos]
    have h4 := hI.none h0
    have h5 : (stK zs n).op = [] := by subst h0; rfl
    unfold wholeK
    rw [h4, h5]; rfl
  · rw [if_neg h0, if_neg]
    have h4 := hI.some (by omega)
    unfold wholeK
    intro h6
    exact h4 (List.append_eq_nil_iff.1 h6).1
theorem open_law (zs : List Int) {n : Nat} (hn : n ≤ 40) (ho : (stK zs n).op ≠ []) : scan (stK zs n).text = .error (stK zs n).text.length := by
  obtain ⟨σ, h⟩ := atK_run zs n hn (stK zs n).text [] (by simp)
  exact brk_open h rfl ho
theorem wrong_law (zs : List Int) {n : Nat} (hn : n ≤ 40) (ho : 0 < (stK zs n).op.length) {k : Nat} (hk : k < 3) (hne : k ≠ (stK zs n).op.getLastD 0) : scan ((stK zs n).text ++ [clC k]) = .error (stK zs n).text.length := by
  obtain ⟨σ, h⟩ := atK_run zs n hn ((stK zs n).text ++ [clC k]) _ rfl
  have hI := stK_inv zs n
  exact brk_wrong h hI.sub hk ho hne rfl (hI.some (by have := hI.deep; omega))
theorem cl_slice : ∀ k, k < 3 → (([41, 93, 125] : List UInt8).take (k + 1)).drop k = [clC k] := by decide
theorem op_slice : ∀ k, k < 3 → (([40, 91, 123] : List UInt8).take (k + 1)).drop k = [opC k] := by decide
theorem take_last {l : List Nat} : l.take (l.length - 1) = l.dropLast := by rw [List.dropLast_eq_take]
theorem stK_c1 {zs : List Int} {k : Nat} (hc : 0 < (stK zs k).op.length ∧ bitB (zs.getD k 0) 4 = true) (h1 : (stK zs k).op.length - 1 = 0) :
    (stK zs (k + 1)).text = ((stK zs k).text ++ [clC ((stK zs k).op.getLastD 0)] ++ [10]).take (((stK zs k).text ++ [clC ((stK zs k).op.getLastD 0)] ++ [10]).length - 1) := by
  show (stepK _ _ _ _).text = _
  rw [stepK, if_pos hc, if_pos (by omega), show ∀ (a : List UInt8) (b c : UInt8), (a ++ [b] ++ [c]).take ((a ++ [b] ++ [c]).length - 1) = a ++ [b] from fun a b c => by
    rw [show (a ++ [b] ++ [c]).length - 1 = (a ++ [b]).length by simp, List.take_left]]
  simp
theorem stK_c2 {zs : List Int} {k : Nat} (hc : 0 < (stK zs k).op.length ∧ bitB (zs.getD k 0) 4 = true) (h1 : ¬ (stK zs k).op.length - 1 = 0) :
    (stK zs (k + 1)).text = (stK zs k).text ++ [clC ((stK zs k).op.getLastD 0)] ++ [10] := by
  show (stepK _ _ _ _).text = _
  rw [stepK, if_pos hc, if_neg (by omega)]
theorem stK_co {zs : List Int} {k : Nat} (hc : 0 < (stK zs k).op.length ∧ bitB (zs.getD k 0) 4 = true) :
    (stK zs (k + 1)).op = (stK zs k).op.take ((stK zs k).op.length - 1) := by
  show (stepK _ _ _ _).op = _
  rw [stepK, if_pos hc, take_last]
theorem stK_cl {zs : List Int} {k : Nat} (hc : 0 < (stK zs k).op.length ∧ bitB (zs.getD k 0) 4 = true) :
    (stK zs (k + 1)).op.length = (stK zs k).op.length - 1 := by
  rw [stK_co hc, List.length_take]; omega
theorem stK_o1 {zs : List Int} {k : Nat} (hc : ¬ (0 < (stK zs k).op.length ∧ bitB (zs.getD k 0) 4 = true)) (hb : bitB (zs.getD k 0) 8 = true) :
    (stK zs (k + 1)).text = (stK zs k).text ++ [opC (nOf3 (zs.getD k 0))] ++ [10, 32, 32, 32] := by
  show (stepK _ _ _ _).text = _
  rw [stepK, if_neg hc, if_pos hb]
theorem stK_o2 {zs : List Int} {k : Nat} (hc : ¬ (0 < (stK zs k).op.length ∧ bitB (zs.getD k 0) 4 = true)) (hb : ¬ bitB (zs.getD k 0) 8 = true) :
    (stK zs (k + 1)).text = (stK zs k).text ++ [opC (nOf3 (zs.getD k 0))] := by
  show (stepK _ _ _ _).text = _
  rw [stepK, if_neg hc, if_neg hb]; simp
theorem stK_oo {zs : List Int} {k : Nat} (hc : ¬ (0 < (stK zs k).op.length ∧ bitB (zs.getD k 0) 4 = true)) :
    (stK zs (k + 1)).op = (stK zs k).op ++ [nOf3 (zs.getD k 0)] := by
  show (stepK _ _ _ _).op = _
  rw [stepK, if_neg hc]
/-- the text with the last brackets closed, from the end down to the m-th -/
def closedK (st : KS) (m : Nat) : List UInt8 := st.text ++ (st.op.drop m).reverse.map clC
theorem closedK_start (st : KS) : closedK st st.op.length = st.text := by
  unfold closedK; rw [List.drop_length]; simp
theorem closedK_zero (st : KS) : closedK st 0 = wholeK st := rfl
theorem closedK_next {st : KS} {q : Nat} (h : q < st.op.length) : closedK st (q + 1) ++ [clC (st.op.getD q 0)] = closedK st q := by
  unfold closedK
  rw [List.drop_eq_getElem_cons h]
  simp only [List.reverse_cons, List.map_append, List.map_cons, List.map_nil, List.append_assoc, List.getD, List.getElem?_eq_getElem h, Option.getD_some]
theorem closedK_len (st : KS) (m : Nat) : (closedK st m).length ≤ st.text.length + st.op.length := by
  unfold closedK
  simp
theorem nlC_at {ks : List Nat} {k : Nat} (h : k < ks.length) : nlC (ks.drop k) = (if ks.getD k 0 = 5 then 1 else 0) + nlC (ks.drop (k + 1)) := by
  rw [List.drop_eq_getElem_cons h]
  unfold nlC
  rw [List.filter_cons]
  simp only [List.getD, List.getElem?_eq_getElem h, Option.getD_some]
  by_cases h5 : ks[k] = 5 <;> simp [h5]; omega
theorem nlC_end {ks : List Nat} {k : Nat} (h : ks.length ≤ k) : nlC (ks.drop k) = 0 := by
  rw [List.drop_of_length_le h]; rfl
theorem nlC_le (ks : List Nat) : nlC ks ≤ ks.length := List.length_filter_le _ _
theorem min_one {n : Nat} : (if (1 : Int) < (n : Int) then (1 : Int) else (n : Int)) = ((min n 1 : Nat) : Int) := by
  split <;> omega
end Go.Lex
