/-
  Proved here: plain: lines that go in and out, and what the scanner makes of them.
-/
import Derived.Test.YtggoogbloaennaaDoorLexP
namespace Go.Lex
open Go.SX
theorem run_step {σ σ1 : Sc} (h : σ.step = .ok σ1) (hI : Inv σ) (hp : σ.pos < σ.s.length) : Inv σ1 ∧ σ1.go = σ.go := ⟨(Sc.step_ok h hI hp).1, go_step h hI hp⟩
theorem at_head {s : List UInt8} {p : Nat} {c : UInt8} {r : List UInt8} (h : s.drop p = c :: r) : p < s.length ∧ bt s p = c.toNat ∧ s.drop (p + 1) = r := by
  have hp : p < s.length := by
    rcases Nat.lt_or_ge p s.length with h1 | h1
    · exact h1
    · rw [List.drop_of_length_le h1] at h; cases h
  have h2 := drop_bt hp
  rw [h] at h2
  injection h2 with h3 h4
  exact ⟨hp, by unfold bt; rw [← h3], h4.symm⟩
theorem run_spaces : ∀ (k : Nat) (σ : Sc) (rest : List UInt8), Inv σ → σ.s.drop σ.pos = List.replicate k 32 ++ rest → Inv { σ with pos := σ.pos + k } ∧ ({ σ with pos := σ.pos + k } : Sc).go = σ.go
  | 0, σ, rest, hI, _ => ⟨hI, rfl⟩
  | k + 1, σ, rest, hI, h => by
    rw [List.replicate_succ, List.cons_append] at h
    obtain ⟨hp, hb, hd⟩ := at_head h
    have h1 := run_step (Sc.step_sp (by rw [hb]; rfl)) hI hp
    have h2 := run_spaces k { σ with pos := σ.pos + 1 } rest h1.1 hd
    rw [show σ.pos + (k + 1) = σ.pos + 1 + k by omega]
    exact ⟨h2.1, h2.2.trans h1.2⟩
theorem colL_spaces (l : List UInt8) : ∀ k : Nat, colL (l ++ List.replicate k 32) 0 = colL l 0 + k
  | 0 => by simp
  | k + 1 => by
    rw [List.replicate_succ', ← List.append_assoc, colL_snoc, colL_spaces l k]
    rfl
theorem take_add_drop {s r : List UInt8} {p : Nat} (a : List UInt8) (h : s.drop p = a ++ r) (hp : p ≤ s.length) : s.take (p + a.length) = s.take p ++ a ∧ s.drop (p + a.length) = r := by
  refine ⟨?_, ?_⟩
  · rw [List.take_add, h]; simp
  · rw [← List.drop_drop, h]; simp
/-- blocks: from 0 on, each deeper than the one around it -/
structure OkB (op : List Nat) : Prop where
  head : op.getD 0 0 = 0
  some : 0 < op.length
  asc : op.Pairwise (· < ·)
theorem OkB.take {op : List Nat} (h : OkB op) {m : Nat} (hm : 1 ≤ m) : OkB (op.take m) := by
  obtain ⟨h1, h2, h3⟩ := h
  refine ⟨?_, by rw [List.length_take]; omega, h3.sublist (List.take_sublist _ _)⟩
  cases op with
  | nil => cases h2
  | cons a r =>
    obtain ⟨k, rfl⟩ : ∃ k, m = k + 1 := ⟨m - 1, by omega⟩
    simpa using h1
theorem OkB.snoc {op : List Nat} (h : OkB op) {k : Nat} (hk : op.getLastD 0 < k) : OkB (op ++ [k]) := by
  obtain ⟨h1, h2, h3⟩ := h
  refine ⟨?_, by simp, ?_⟩
  · cases op with
    | nil => cases h2
    | cons a r => simpa using h1
  · rw [List.pairwise_append]
    refine ⟨h3, by simp, fun a ha b hb => ?_⟩
    simp only [List.mem_singleton] at hb
    subst hb
    rw [lastD_get h2] at hk
    obtain ⟨i, hi, rfl⟩ := List.getElem_of_mem ha
    rcases Nat.lt_or_ge i (op.length - 1) with h4 | h4
    · have := List.pairwise_iff_getElem.1 h3 i (op.length - 1) hi (by omega) h4
      simp only [List.getD, List.getElem?_eq_getElem (show op.length - 1 < op.length by omega), Option.getD_some] at hk
      omega
    · have : i = op.length - 1 := by omega
      subst this
      simpa [List.getD, hi] using hk
theorem last_take {op : List Nat} (h : OkB op) {m : Nat} (hm : 1 ≤ m) (hl : m < op.length) : (op.take m).getLastD 0 < op.getLastD 0 := by
  rw [lastD_get h.some, lastD_get (by rw [List.length_take]; omega)]
  have h1 : (op.take m).length = m := by rw [List.length_take]; omega
  rw [h1]
  have := List.pairwise_iff_getElem.1 h.asc (m - 1) (op.length - 1) (by omega) (by omega) (by omega)
  simpa [List.getD, show m - 1 < op.length by omega, show m - 1 < m by omega, show op.length - 1 < op.length by omega, List.getElem?_take] using this
theorem outdent_take : ∀ (d : Nat) (σ : Sc) (m f : Nat), OkB σ.blocks → 1 ≤ m → m + d = σ.blocks.length → d ≤ f →
    Sc.outdent ((σ.blocks.take m).getLastD 0) f σ = { σ with blocks := σ.blocks.take m, out := σ.out ++ List.replicate d ⟨7, [], σ.pos⟩ }
  | 0, σ, m, f, hB, hm, hl, _ => by
    have : σ.blocks.take m = σ.blocks := List.take_of_length_le (by omega)
    rw [this, outdent_end (Nat.lt_irrefl _)]
    simp
  | d + 1, σ, m, 0, hB, hm, hl, hf => by omega
  | d + 1, σ, m, f + 1, hB, hm, hl, hf => by
    have h1 := last_take hB hm (by omega)
    have h2 : σ.blocks.dropLast.take m = σ.blocks.take m := by
      rw [List.dropLast_eq_take, List.take_take, Nat.min_eq_left (by omega)]
    have h3 : OkB σ.blocks.dropLast := by rw [List.dropLast_eq_take]; exact hB.take (by omega)
    have ih := outdent_take d (({ σ with blocks := σ.blocks.dropLast } : Sc).tok 7 [] σ.pos) m f h3 hm (by simp only [Sc.tok, List.length_dropLast]; omega) (by omega)
    rw [Sc.outdent, if_pos h1]
    simp only [Sc.tok, h2] at ih
    unfold Sc.tok
    rw [ih]
    simp [List.replicate_succ]
/-- at the head of a line -/
structure Head (σ : Sc) (op : List Nat) : Prop where
  inv : Inv σ
  blocks : σ.blocks = op
  brk : σ.brk = []
  line : σ.line = false
  col : colL (σ.s.take σ.pos) 0 = 0
/-- what a line's indentation makes of the blocks: tokens and blocks -/
inductive Go2 (op : List Nat) : List Nat → List Nat → Prop
  | inn (k : Nat) (hk : op.getLastD 0 < k) : Go2 op (op ++ [k]) [6]
  | out (m : Nat) (hm : 1 ≤ m) (hl : m ≤ op.length) : Go2 op (op.take m) (List.replicate (op.length - m) 7)
theorem Go2.ok {op op' ks : List Nat} (h : Go2 op op' ks) (hB : OkB op) : OkB op' := by
  cases h with
  | inn k hk => exact hB.snoc hk
  | out m hm hl => exact hB.take hm
theorem begin_go2 {σ : Sc} {op op' ks : List Nat} (h : Go2 op op' ks) (hB : OkB op) (hb : σ.blocks = op) (hl : op.length ≤ 60) (hbg : σ.begins = true) (hc : σ.col = op'.getLastD 0) :
    σ.begin = .ok { σ with line := true, blocks := op', out := σ.out ++ ks.map (fun k => ⟨k, [], σ.pos⟩) } := by
  subst hb
  cases h with
  | inn k hk =>
    have hk2 : (σ.blocks ++ [k]).getLastD 0 = k := by simp
    rw [hk2] at hc
    rw [Sc.begin_in hbg (by rw [hc]; exact hk) hl, hc]
    rfl
  | out m hm hl2 =>
    have h1 : σ.col ≤ σ.blocks.getLastD 0 := by
      rw [hc]
      rcases Nat.lt_or_ge m σ.blocks.length with h2 | h2
      · exact Nat.le_of_lt (last_take hB hm h2)
      · rw [List.take_of_length_le h2]; exact Nat.le_refl _
    have h2 := outdent_take (σ.blocks.length - m) { σ with line := true } m σ.blocks.length hB hm (by simp only; omega) (by omega)
    simp only at h2
    rw [← hc] at h2
    rw [Sc.begin_out hbg h1 h2 hc]
    simp
/-- one line: so many spaces, an x, a newline -/
theorem run_line {σ : Sc} {op op' ks : List Nat} {rest : List UInt8} (h : Head σ op) (hB : OkB op) (hg : Go2 op op' ks) (hl : op.length ≤ 60)
    (hd : σ.s.drop σ.pos = List.replicate (op'.getLastD 0) 32 ++ 120 :: 10 :: rest) :
    ∃ σ', σ'.go = σ.go ∧ Head σ' op' ∧ σ'.s = σ.s ∧ σ'.pos = σ.pos + (op'.getLastD 0 + 2) ∧ (∃ toks : List Tok, σ'.out = σ.out ++ toks ∧ toks.map (·.kind) = ks ++ [1, 5]) := by
  obtain ⟨hI, hb, hk, hln, hcol⟩ := h
  have h1 := run_spaces _ σ _ hI hd
  have hp1 := take_add_drop (List.replicate (op'.getLastD 0) 32) hd hI.le
  rw [List.length_replicate] at hp1
  obtain ⟨hp, hbt, hd2⟩ := at_head hp1.2
  have hcol1 : ({ σ with pos := σ.pos + op'.getLastD 0 } : Sc).col = op'.getLastD 0 := by
    unfold Sc.col
    simp only [hp1.1, colL_spaces, hcol, Nat.zero_add]
  have hbg : ({ σ with pos := σ.pos + op'.getLastD 0 } : Sc).begins = true := by
    unfold Sc.begins
    simp only [hbt]
    rfl
  have h2 := begin_go2 (σ := { σ with pos := σ.pos + op'.getLastD 0 }) hg hB hb hl hbg hcol1
  have hbt' : bt σ.s (σ.pos + op'.getLastD 0) = 120 := hbt
  have h3 : ({ σ with pos := σ.pos + op'.getLastD 0 } : Sc).step = _ := (Sc.step_beg (σ := { σ with pos := σ.pos + op'.getLastD 0 }) (by simp only [hbt']; decide) (by simp only [hbt']; decide) (by simp only [hbt']; decide) hln h2).trans (Sc.token_word (by simp only [hbt']; rfl))
  have h4 := run_step h3 h1.1 hp
  have hw : wordL (σ.s.drop (σ.pos + op'.getLastD 0)) = 1 := by
    rw [hp1.2]; rfl
  have hwt : (σ.s.drop (σ.pos + op'.getLastD 0)).take 1 = [120] := by rw [hp1.2]; rfl
  have h5 : ({ σ with pos := σ.pos + op'.getLastD 0, line := true, blocks := op', out := σ.out ++ ks.map (fun k => (⟨k, [], σ.pos + op'.getLastD 0⟩ : Tok)) } : Sc).word =
      { σ with pos := σ.pos + op'.getLastD 0 + 1, line := true, blocks := op', out := σ.out ++ ks.map (fun k => (⟨k, [], σ.pos + op'.getLastD 0⟩ : Tok)) ++ [⟨1, [120], σ.pos + op'.getLastD 0⟩] } := by
    unfold Sc.word
    simp only [hw, hwt]
    rfl
  simp only at h4
  rw [h5] at h4
  obtain ⟨hq, hqt, hd3⟩ := at_head hd2
  have h6 := run_step (Sc.step_nl (σ := { σ with pos := σ.pos + op'.getLastD 0 + 1, line := true, blocks := op', out := σ.out ++ ks.map (fun k => (⟨k, [], σ.pos + op'.getLastD 0⟩ : Tok)) ++ [⟨1, [120], σ.pos + op'.getLastD 0⟩] }) hqt hk) h4.1 hq
  refine ⟨_, h6.2.trans (h4.2.trans h1.2), ⟨h6.1, rfl, hk, rfl, ?_⟩, rfl, ?_, ks.map (fun k => (⟨k, [], σ.pos + op'.getLastD 0⟩ : Tok)) ++ [⟨1, [120], σ.pos + op'.getLastD 0⟩, ⟨5, [], σ.pos + op'.getLastD 0 + 1⟩], ?_, ?_⟩
  · simp only [Sc.nl, Sc.tok, if_true]
    have h7 := take_add_drop [120, 10] hp1.2 (by omega)
    simp only [List.length_cons, List.length_nil] at h7
    rw [show σ.pos + op'.getLastD 0 + 1 + 1 = σ.pos + op'.getLastD 0 + (0 + 1 + 1) by omega, h7.1, show ([120, 10] : List UInt8) = [120] ++ [10] from rfl, ← List.append_assoc, colL_snoc]
    rfl
  · simp only [Sc.nl, Sc.tok, if_true]; omega
  · simp [Sc.nl, Sc.tok]
  · simp [Function.comp_def]

/-- what the statement's first loop has made -/
structure BS where
  text : List UInt8
  op : List Nat
  dep : List Nat
def op1B (op : List Nat) (n : Nat) : List Nat := if 4 ≤ n then op ++ [op.getLastD 0 + n - 3] else if 0 < n ∧ 1 < op.length then op.take (max 1 (op.length - n)) else op
def op2B (st : BS) (n : Nat) : List Nat := if st.dep.length = 0 then (op1B st.op n).take 1 else op1B st.op n
def stepB (st : BS) (n : Nat) : BS := ⟨st.text ++ List.replicate ((op2B st n).getLastD 0) 32 ++ [120, 10], op2B st n, st.dep ++ [(op2B st n).length - 1]⟩
def stB (ns : List Nat) : Nat → BS
  | 0 => ⟨[], [0], []⟩
  | k + 1 => stepB (stB ns k) (ns.getD k 0)
/-- the statement's second loop: how far in, which line; none: it says no -/
def walkB (dep : List Nat) : List Nat → Int → Nat → Option (Int × Nat)
  | [], now, line => some (now, line)
  | k :: r, now, line =>
    if k = 6 then walkB dep r (now + 1) line else if k = 7 then walkB dep r (now - 1) line else
    if k = 1 then (if dep.length ≤ line ∨ (dep.getD line 0 : Int) ≠ now then none else walkB dep r now (line + 1)) else walkB dep r now line
theorem walkB_out (dep : List Nat) (line : Nat) (tail : List Nat) : ∀ (d : Nat) (now : Int), walkB dep (List.replicate d 7 ++ tail) now line = walkB dep tail (now - d) line
  | 0, now => by simp
  | d + 1, now => by
    rw [List.replicate_succ, List.cons_append, walkB, if_neg (by decide), if_pos rfl, walkB_out dep line tail d (now - 1)]
    congr 1; omega
theorem walkB_line {dep : List Nat} {line m : Nat} (tail : List Nat) (h1 : line < dep.length) (h2 : dep.getD line 0 = m) : walkB dep ([1, 5] ++ tail) (m : Int) line = walkB dep tail (m : Int) (line + 1) := by
  simp only [List.cons_append, List.nil_append]
  rw [walkB, if_neg (by decide), if_neg (by decide), if_pos rfl, if_neg (by rw [h2]; omega), walkB, if_neg (by decide), if_neg (by decide), if_neg (by decide)]
theorem walkB_go2 {op op' ks dep : List Nat} {line : Nat} (tail : List Nat) (h : Go2 op op' ks) (hB : OkB op) (h1 : line < dep.length) (h2 : dep.getD line 0 = op'.length - 1) :
    walkB dep ((ks ++ [1, 5]) ++ tail) ((op.length - 1 : Nat) : Int) line = walkB dep tail ((op'.length - 1 : Nat) : Int) (line + 1) := by
  have hs := hB.some
  cases h with
  | inn k hk =>
    simp only [List.length_append, List.length_singleton, Nat.add_sub_cancel] at h2 ⊢
    rw [List.append_assoc, List.cons_append, List.nil_append, walkB, if_pos rfl, show ((op.length - 1 : Nat) : Int) + 1 = (op.length : Int) by omega]
    exact walkB_line tail h1 h2
  | out m hm hl =>
    rw [List.length_take, Nat.min_eq_left hl] at h2 ⊢
    rw [List.append_assoc, walkB_out, show ((op.length - 1 : Nat) : Int) - ((op.length - m : Nat) : Int) = ((m - 1 : Nat) : Int) by omega]
    exact walkB_line tail h1 h2
theorem op1B_go2 {op : List Nat} (hB : OkB op) (n : Nat) : ∃ ks, Go2 op (op1B op n) ks := by
  have hs := hB.some
  unfold op1B
  split
  · exact ⟨_, .inn _ (by omega)⟩
  · split
    · exact ⟨_, .out _ (by omega) (by omega)⟩
    · have := Go2.out (op := op) op.length hs (Nat.le_refl _)
      rw [List.take_length] at this
      exact ⟨_, this⟩
theorem op2B_go2 {st : BS} (hB : OkB st.op) (n : Nat) : ∃ ks, Go2 st.op (op2B st n) ks := by
  have hs := hB.some
  unfold op2B
  split
  · have : (op1B st.op n).take 1 = st.op.take 1 := by
      unfold op1B
      split
      · rw [List.take_append_of_le_length hs]
      · split
        · rw [List.take_take, Nat.min_eq_left (by omega)]
        · rfl
    rw [this]
    exact ⟨_, .out 1 (Nat.le_refl _) hs⟩
  · exact op1B_go2 hB n
/-- what holds of the first loop's state -/
structure InvB (k : Nat) (st : BS) : Prop where
  ok : OkB st.op
  deep : st.op.length ≤ k + 1
  dep : st.dep.length = k
  last : st.op.getLastD 0 ≤ 2 * k
  text : st.text.length ≤ k * 82
theorem last_le {op : List Nat} (h : OkB op) {m : Nat} (hm : 1 ≤ m) : (op.take m).getLastD 0 ≤ op.getLastD 0 := by
  rcases Nat.lt_or_ge m op.length with h1 | h1
  · exact Nat.le_of_lt (last_take h hm h1)
  · rw [List.take_of_length_le h1]; exact Nat.le_refl _
theorem op1B_bd {op : List Nat} (hB : OkB op) {n : Nat} (hn : n < 6) : (op1B op n).length ≤ op.length + 1 ∧ (op1B op n).getLastD 0 ≤ op.getLastD 0 + 2 := by
  have hs := hB.some
  unfold op1B
  split
  · constructor
    · simp
    · simp only [List.getLastD_concat]; omega
  · split
    · constructor
      · rw [List.length_take]; omega
      · have := last_le hB (m := max 1 (op.length - n)) (by omega); omega
    · omega
theorem stepB_inv {k : Nat} {st : BS} (h : InvB k st) {n : Nat} (hn : n < 6) (hk : k < 40) : InvB (k + 1) (stepB st n) := by
  obtain ⟨hB, hd, hdp, hl, ht⟩ := h
  obtain ⟨ks, hg⟩ := op2B_go2 hB n
  have hb1 := op1B_bd hB hn
  have hok1 : OkB (op1B st.op n) := by obtain ⟨ks1, hg1⟩ := op1B_go2 hB n; exact hg1.ok hB
  have h2 : (op2B st n).length ≤ st.op.length + 1 ∧ (op2B st n).getLastD 0 ≤ st.op.getLastD 0 + 2 := by
    unfold op2B
    split
    · refine ⟨by rw [List.length_take]; omega, ?_⟩
      have := last_le hok1 (m := 1) (Nat.le_refl _); omega
    · exact hb1
  refine ⟨hg.ok hB, by show (op2B st n).length ≤ _; omega, by simp [stepB, hdp], by show (op2B st n).getLastD 0 ≤ _; omega, ?_⟩
  simp only [stepB, List.length_append, List.length_replicate, List.length_cons, List.length_nil]
  have := h2.2
  omega
theorem stB_inv {ns : List Nat} (h6 : ∀ k, ns.getD k 0 < 6) : ∀ k, k ≤ 40 → InvB k (stB ns k)
  | 0, _ => ⟨⟨rfl, Nat.lt_succ_self _, by simp [stB]⟩, by simp [stB], rfl, by simp [stB], by simp [stB]⟩
  | k + 1, h => stepB_inv (stB_inv h6 k (by omega)) (h6 k) (by omega)
theorem stB_dep {ns : List Nat} : ∀ (k j i : Nat), j ≤ k → i < (stB ns j).dep.length → (stB ns k).dep.getD i 0 = (stB ns j).dep.getD i 0
  | 0, j, i, hj, _ => by rw [show j = 0 by omega]
  | k + 1, j, i, hj, hi => by
    rcases Nat.lt_or_eq_of_le hj with h | h
    · rw [← stB_dep k j i (by omega) hi]
      have : i < (stB ns k).dep.length := by
        have hmono : ∀ a b, a ≤ b → (stB ns a).dep.length ≤ (stB ns b).dep.length := by
          intro a b hab
          induction b with
          | zero => rw [show a = 0 by omega]; exact Nat.le_refl _
          | succ b ih =>
            rcases Nat.lt_or_eq_of_le hab with h1 | h1
            · exact Nat.le_trans (ih (by omega)) (by simp [stB, stepB])
            · rw [h1]; exact Nat.le_refl _
        exact Nat.lt_of_lt_of_le hi (hmono j k (by omega))
      simp only [stB, stepB, List.getD]
      rw [List.getElem?_append_left this]
    · rw [h]
theorem lines_run {ns : List Nat} (h6 : ∀ k, ns.getD k 0 < 6) (dep : List Nat) : ∀ (k : Nat), k ≤ 40 → k ≤ dep.length → (∀ i, i < k → dep.getD i 0 = (stB ns k).dep.getD i 0) → ∀ (T rest : List UInt8), T = (stB ns k).text ++ rest →
    ∃ σ : Sc, σ.go = (Sc.start T).go ∧ Head σ (stB ns k).op ∧ σ.s = T ∧ σ.pos = (stB ns k).text.length ∧ ∀ tail, walkB dep (σ.out.map (·.kind) ++ tail) 0 0 = walkB dep tail (((stB ns k).op.length - 1 : Nat) : Int) k
  | 0, _, _, _, T, rest, hT => ⟨Sc.start T, rfl, ⟨start_inv T, rfl, rfl, rfl, rfl⟩, rfl, rfl, fun tail => rfl⟩
  | k + 1, hk, hd, hdp, T, rest, hT => by
    have hI := stB_inv h6 k (by omega)
    obtain ⟨ks, hg⟩ := op2B_go2 hI.ok (ns.getD k 0)
    have hdp' : ∀ i, i < k → dep.getD i 0 = (stB ns k).dep.getD i 0 := fun i hi => (hdp i (by omega)).trans (stB_dep (k + 1) k i (by omega) (by rw [hI.dep]; exact hi))
    have hT' : T = (stB ns k).text ++ (List.replicate ((op2B (stB ns k) (ns.getD k 0)).getLastD 0) 32 ++ 120 :: 10 :: rest) := by
      rw [hT]; simp [stB, stepB]
    obtain ⟨σ, h1, h2, h3, h4, h5⟩ := lines_run h6 dep k (by omega) (by omega) hdp' T _ hT'
    have hdrop : σ.s.drop σ.pos = List.replicate ((op2B (stB ns k) (ns.getD k 0)).getLastD 0) 32 ++ 120 :: 10 :: rest := by
      rw [h3, h4, hT']; simp
    obtain ⟨σ', g1, g2, g3, g4, toks, g5, g6⟩ := run_line h2 hI.ok hg (by have := hI.deep; omega) hdrop
    refine ⟨σ', g1.trans h1, g2, g3.trans h3, ?_, fun tail => ?_⟩
    · rw [g4, h4]; simp [stB, stepB]
    · rw [g5, List.map_append, List.append_assoc, h5, g6]
      refine walkB_go2 tail hg hI.ok (by omega) ?_
      rw [hdp k (by omega)]
      simp only [stB, stepB, List.getD]
      rw [List.getElem?_append_right (by rw [hI.dep]; exact Nat.le_refl _), hI.dep]
      simp
theorem blocks_law {ns : List Nat} (h6 : ∀ k, ns.getD k 0 < 6) {n : Nat} (hn : n ≤ 40) : ∃ ts, scan (stB ns n).text = .ok ts ∧ walkB (stB ns n).dep (ts.map (·.kind)) 0 0 = some (0, n) := by
  have hI := stB_inv h6 n hn
  obtain ⟨σ, h1, h2, h3, h4, h5⟩ := lines_run h6 (stB ns n).dep n hn (by rw [hI.dep]; exact Nat.le_refl _) (fun _ _ => rfl) (stB ns n).text [] (by simp)
  have hend : (Sc.start (stB ns n).text).go = .ok σ := h1.symm.trans (go_end (by rw [h3, h4]; exact Nat.lt_irrefl _))
  refine ⟨_, scan_ok hend h2.brk, ?_⟩
  have hnl : σ.nl.out = σ.out := by unfold Sc.nl; rw [h2.line]; rfl
  rw [hnl, List.append_assoc, List.map_append, h5]
  unfold dedents
  rw [List.map_append, List.map_replicate, walkB_out, h2.blocks]
  have : (((stB ns n).op.length - 1 : Nat) : Int) - (((stB ns n).op.length - 1 : Nat) : Int) = 0 := by omega
  rw [this]
  rfl
/-- Go's rest, six at a time -/
def nOf (z : Int) : Nat := (z % 6).toNat
theorem nOf_eq (z : Int) : Int.tmod (Int.tmod z 6 + 6) 6 = (nOf z : Int) := by
  unfold nOf
  rcases Int.lt_or_le z 0 with h | h
  · obtain ⟨a, rfl⟩ : ∃ a : Int, z = -a := ⟨-z, by omega⟩
    rw [Int.neg_tmod, Int.tmod_eq_emod_of_nonneg (a := a) (by omega), Int.tmod_eq_emod_of_nonneg (by omega)]
    omega
  · rw [Int.tmod_eq_emod_of_nonneg (a := z) h, Int.tmod_eq_emod_of_nonneg (by omega)]
    omega
theorem nOf_lt (z : Int) : nOf z < 6 := by unfold nOf; omega
theorem op1B_in {op : List Nat} {n : Nat} (h : 4 ≤ n) : op1B op n = op ++ [op.getLastD 0 + n - 3] := if_pos h
theorem op1B_out {op : List Nat} {n : Nat} (h : n < 4) (h1 : 0 < n) (h2 : 1 < op.length) : op1B op n = op.take (max 1 (op.length - n)) := by
  unfold op1B; rw [if_neg (by omega), if_pos ⟨h1, h2⟩]
theorem op1B_same {op : List Nat} {n : Nat} (h : n < 4) (h1 : ¬ (0 < n ∧ 1 < op.length)) : op1B op n = op := by
  unfold op1B; rw [if_neg (by omega), if_neg h1]
theorem op2B_first {st : BS} {n : Nat} (h : st.dep.length = 0) : op2B st n = (op1B st.op n).take 1 := if_pos h
theorem op2B_later {st : BS} {n : Nat} (h : st.dep.length ≠ 0) : op2B st n = op1B st.op n := if_neg h
theorem max_cut {a n : Nat} : (if (a : Int) - n > 1 then (a : Int) - n else 1) = ((max 1 (a - n) : Nat) : Int) := by
  split <;> omega
theorem tmod_bd (z : Int) : -6 < Int.tmod z 6 ∧ Int.tmod z 6 < 6 := by
  rcases Int.lt_or_le z 0 with h | h
  · obtain ⟨a, rfl⟩ : ∃ a : Int, z = -a := ⟨-z, by omega⟩
    rw [Int.neg_tmod, Int.tmod_eq_emod_of_nonneg (a := a) (by omega)]
    omega
  · rw [Int.tmod_eq_emod_of_nonneg (a := z) h]
    omega
theorem nOf_getD (zs : List Int) (k : Nat) : (zs.map nOf).getD k 0 = nOf (zs.getD k 0) := by
  simp only [List.getD, List.getElem?_map]
  cases zs[k]? <;> rfl
/-- the second loop, a token at a time -/
theorem walkB_at {dep : List Nat} {ks : List Nat} {k : Nat} {now : Int} {line : Nat} (h : k < ks.length) : walkB dep (ks.drop k) now line =
    (if ks.getD k 0 = 6 then walkB dep (ks.drop (k + 1)) (now + 1) line else if ks.getD k 0 = 7 then walkB dep (ks.drop (k + 1)) (now - 1) line else
    if ks.getD k 0 = 1 then (if dep.length ≤ line ∨ (dep.getD line 0 : Int) ≠ now then none else walkB dep (ks.drop (k + 1)) now (line + 1)) else walkB dep (ks.drop (k + 1)) now line) := by
  rw [List.drop_eq_getElem_cons h, walkB]
  simp [List.getD, h]
theorem loop_inv : ∀ (f : Nat) (σ σ' : Sc), Inv σ → Sc.loop f σ = .ok σ' → Inv σ' ∧ σ'.s = σ.s
  | 0, σ, σ', hI, h => by cases h; exact ⟨hI, rfl⟩
  | f + 1, σ, σ', hI, h => by
    rw [Sc.loop] at h
    split at h
    · rename_i hp
      cases hs : σ.step with
      | error e => rw [hs] at h; cases h
      | ok σ1 =>
        rw [hs] at h
        have h1 := Sc.step_ok hs hI hp
        have h2 := loop_inv f σ1 σ' h1.1 h
        exact ⟨h2.1, h2.2.trans h1.2.1⟩
    · cases h; exact ⟨hI, rfl⟩
theorem scan_len {s : List UInt8} {ts : List Tok} (h : scan s = .ok ts) : ts.length ≤ 3 * s.length + 70 := by
  rw [scan_go] at h
  cases hg : (Sc.start s).go with
  | error e => rw [hg] at h; cases h
  | ok σ =>
    rw [hg] at h
    simp only at h
    split at h
    · cases h
    · cases h
      have hI := loop_inv _ _ _ (start_inv s) hg
      have h1 := hI.1.few
      have h2 := hI.1.deep
      have h3 := hI.1.le
      have h4 := Sc.nl_keeps σ
      have h5 : σ.s = s := hI.2
      rw [h5] at h3
      simp only [List.length_append, dedents, List.length_replicate, List.length_singleton]
      omega
end Go.Lex
