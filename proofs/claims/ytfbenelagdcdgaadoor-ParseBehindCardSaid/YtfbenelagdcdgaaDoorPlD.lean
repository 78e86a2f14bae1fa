/-
  Proved here: plain: a scanned text's tokens are what the parser may ask: names are names, numbers numbers, one end. No program stands here.
-/
import Derived.Test.YtfbenelagdcdgaaDoorPlC
import Derived.Test.YtfbenelagdcdgaaDoorNamP
namespace Go.Lex
open Go.SX
open Go.Tr (digitsOk digits_iff isDigit)
/-- a token that a scanner may lay -/
def tkOk (n : Nat) (t : Tok) : Prop := (t.kind = 1 → nameB t.text = true) ∧ (t.kind = 2 → digitsOk t.text) ∧ t.pos ≤ n ∧ t.kind < 8
structure TI (σ : Sc) : Prop where
  ok : ∀ t ∈ σ.out, tkOk σ.s.length t
  sum : (σ.out.map fun t => t.text.length).sum ≤ σ.pos
theorem TI.put {σ : Sc} (h : TI σ) {k : Nat} {x : List UInt8} {pos pos' : Nat} (hk : tkOk σ.s.length ⟨k, x, pos⟩) (hs : σ.pos + x.length ≤ pos') {b b2 : List Nat} {l : Bool} : TI (({ σ with pos := pos', blocks := b, brk := b2, line := l } : Sc).tok k x pos) := by
  refine ⟨fun t ht => ?_, ?_⟩
  · rcases List.mem_append.1 ht with ht | ht
    · exact h.ok t ht
    · cases List.mem_singleton.1 ht
      exact hk
  · show ((σ.out ++ [_]).map fun t : Tok => t.text.length).sum ≤ pos'
    rw [List.map_append, List.sum_append]
    have := h.sum
    simp only [List.map_cons, List.map_nil, List.sum_cons, List.sum_nil]
    omega
theorem TI.move {σ : Sc} (h : TI σ) {pos' : Nat} (hp : σ.pos ≤ pos') {b b2 : List Nat} {l : Bool} : TI { σ with pos := pos', blocks := b, brk := b2, line := l } := ⟨h.ok, Nat.le_trans h.sum hp⟩
theorem plain_tk {n k p : Nat} {x : List UInt8} (h1 : k ≠ 1) (h2 : k ≠ 2) (hp : p ≤ n) (h8 : k < 8) : tkOk n ⟨k, x, p⟩ := ⟨fun h => absurd h h1, fun h => absurd h h2, hp, h8⟩
theorem wordL_at : ∀ (l : List UInt8) (i : Nat), i < wordL l → isLet (bt l i) = true ∨ isDig (bt l i) = true
  | [], i, h => by cases h
  | c :: r, i, h => by
    unfold wordL at h
    split at h
    · next hc =>
      rw [Bool.or_eq_true] at hc
      cases i with
      | zero => exact hc
      | succ i =>
        have := wordL_at r i (by omega)
        exact this
    · cases h
theorem numL_at : ∀ (l : List UInt8) (n i : Nat), numL l = some n → i < n → isDig (bt l i) = true
  | [], n, i, h, hi => by cases h; cases hi
  | c :: r, n, i, h, hi => by
    unfold numL at h
    split at h
    · cases h
    · split at h
      · next hc =>
        cases hr : numL r with
        | none => rw [hr] at h; cases h
        | some m =>
          rw [hr] at h
          have e : m + 1 = n := by simpa using h
          cases i with
          | zero => exact hc
          | succ i => exact numL_at r m i hr (by omega)
      · cases h; cases hi
theorem txtL_len : ∀ (l : List UInt8) (i k : Nat) (acc t : List UInt8), txtL l i k acc = .ok t → t.length ≤ acc.length + l.length
  | [], i, k, acc, t, h => by
    cases k <;> (unfold txtL at h; cases h; exact Nat.le_refl _)
  | c :: r, i, 0, acc, t, h => by
    unfold txtL at h
    split at h
    · cases hp : pieceL r with
      | mk v n =>
        simp only [hp] at h
        split at h
        · cases h
        · have := txtL_len _ _ _ _ _ h
          rw [List.length_append] at this
          have h1 : [UInt8.ofNat v].length = 1 := rfl
          rw [List.length_cons]
          omega
    · split at h
      · cases h
      · have := txtL_len _ _ _ _ _ h
        rw [List.length_append] at this
        have h1 : [c].length = 1 := rfl
        rw [List.length_cons]
        omega
  | c :: r, i, k + 1, acc, t, h => by
    unfold txtL at h
    have := txtL_len _ _ _ _ _ h
    rw [List.length_cons]
    omega
theorem bt_take' {l : List UInt8} {n i : Nat} (h : i < n) : bt (l.take n) i = bt l i := bt_take h
theorem token_tk {σ σ1 : Sc} (h : σ.token (bt σ.s σ.pos) = .ok σ1) (hp : σ.pos < σ.s.length) (hT : TI σ) : TI σ1 := by
  have hd := drop_bt hp
  unfold Sc.token at h
  split at h
  · rename_i hl
    cases h
    have h1 := wordL_le (σ.s.drop σ.pos)
    have h2 : 0 < wordL (σ.s.drop σ.pos) := by
      rw [hd, wordL]
      unfold bt at hl
      rw [if_pos (by rw [hl]; rfl)]; omega
    have h3 : ((σ.s.drop σ.pos).take (wordL (σ.s.drop σ.pos))).length = wordL (σ.s.drop σ.pos) := by rw [List.length_take]; omega
    refine hT.put (b := σ.blocks) (b2 := σ.brk) (l := σ.line) ?_ (by rw [h3]; exact Nat.le_refl _)
    refine ⟨fun hk => ?_, fun hk => ?_, Nat.le_of_lt hp, ?_⟩
    · dsimp only at hk ⊢
      split at hk
      · cases hk
      · next hc =>
        unfold nameB plainB
        rw [decide_eq_true (by intro e; rw [e] at h3; simp at h3; omega), decide_eq_true, decide_eq_false (by rw [List.contains_iff_mem] at hc; exact hc)]
        · rfl
        · intro i hi
          rw [h3] at hi
          unfold okN
          rw [bt_take hi]
          rcases Nat.eq_zero_or_pos i with h0 | h0
          · left
            subst h0
            rw [hd]
            exact hl
          · rcases wordL_at _ i hi with h4 | h4
            · exact .inl h4
            · exact .inr ⟨by omega, h4⟩
    · dsimp only at hk
      split at hk <;> cases hk
    · dsimp only
      split <;> decide
  · rename_i hl
    split at h
    · rename_i hdg
      unfold Sc.number at h
      cases hn : numL (σ.s.drop σ.pos) with
      | none => rw [hn] at h; cases h
      | some n =>
        rw [hn] at h
        simp only at h
        split at h
        · cases h
        · next hno =>
          cases h
          have h1 := numL_bd _ _ hn
          have h3 : ((σ.s.drop σ.pos).take n).length = n := by rw [List.length_take]; omega
          have h2 : 0 < n := by
            rw [hd, numL] at hn
            unfold bt at hl hdg
            simp only [hl, hdg, if_true] at hn
            cases hr : numL (σ.s.drop (σ.pos + 1)) with
            | none => rw [hr] at hn; simp at hn
            | some m => rw [hr] at hn; simp at hn; omega
          refine hT.put (b := σ.blocks) (b2 := σ.brk) (l := σ.line) ?_ (by rw [h3]; exact Nat.le_refl _)
          refine ⟨fun hk => absurd (show (2 : Nat) = 1 from hk) (by decide), fun _ => ?_, Nat.le_of_lt hp, show 2 < 8 by decide⟩
          dsimp only
          refine (digits_iff fun i hi => ?_).2 ⟨by intro e; rw [e] at h3; simp at h3; omega, by rw [h3]; omega, ?_⟩
          · rw [h3] at hi
            rw [bt_take hi]
            have := numL_at _ _ _ hn hi
            unfold isDig at this
            simpa using this
          · by_cases h48 : bt ((σ.s.drop σ.pos).take n) 0 = 48
            · left
              have hn1 : n = 1 := by omega
              match hw : (σ.s.drop σ.pos).take n, h3, h48 with
              | [c], _, h48 => rw [show c = 48 from UInt8.toNat_inj.1 (by simpa [bt] using h48)]
              | [], h3, _ => simp at h3; omega
              | _ :: _ :: _, h3, _ => simp at h3; omega
            · exact .inr h48
    · split at h
      · unfold Sc.text at h
        cases he : endL (bt σ.s σ.pos) (σ.s.drop (σ.pos + 1)) (σ.pos + 1) with
        | none => rw [he] at h; cases h
        | some e =>
          rw [he] at h
          simp only at h
          have hbd := endL_bd _ _ _ he
          simp at hbd
          cases ht : txtL ((σ.s.take (e - 1)).drop (σ.pos + 1)) (σ.pos + 1) 0 [] with
          | error x => rw [ht] at h; cases h
          | ok t =>
            rw [ht] at h
            cases h
            have h5 := txtL_len _ _ _ _ _ ht
            simp only [List.length_nil, List.length_drop, List.length_take] at h5
            exact hT.put (b := σ.blocks) (b2 := σ.brk) (l := σ.line) (plain_tk (by decide) (by decide) (Nat.le_of_lt hp) (by decide)) (by omega)
      · unfold Sc.sign at h
        simp only at h
        split at h
        · cases h
        · split at h
          · split at h
            · cases h
            · cases h
              exact hT.put (b := σ.blocks) (l := σ.line) (plain_tk (by decide) (by decide) (Nat.le_of_lt hp) (by decide)) (Nat.le_refl _)
          · split at h
            · split at h
              · cases h
                exact hT.put (b := σ.blocks) (l := σ.line) (plain_tk (by decide) (by decide) (Nat.le_of_lt hp) (by decide)) (Nat.le_refl _)
              · cases h
            · cases h
              exact hT.put (b := σ.blocks) (b2 := σ.brk) (l := σ.line) (plain_tk (by decide) (by decide) (Nat.le_of_lt hp) (by decide)) (Nat.le_refl _)
theorem outdent_tk (i : Nat) : ∀ (f : Nat) (σ : Sc), σ.pos ≤ σ.s.length → TI σ → TI (Sc.outdent i f σ)
  | 0, σ, _, h => h
  | f + 1, σ, hp, h => by
    unfold Sc.outdent
    split
    · exact outdent_tk i f _ hp (h.put (pos' := σ.pos) (b2 := σ.brk) (l := σ.line) (plain_tk (by decide) (by decide) hp (by decide)) (Nat.le_refl _))
    · exact h
theorem begin_tk {σ σ1 : Sc} (h : σ.begin = .ok σ1) (hp : σ.pos ≤ σ.s.length) (hT : TI σ) : TI σ1 := by
  unfold Sc.begin at h
  split at h
  · cases h
  · simp only at h
    split at h
    · split at h
      · cases h
      · cases h
        exact hT.put (pos' := σ.pos) (b2 := σ.brk) (plain_tk (by decide) (by decide) hp (by decide)) (Nat.le_refl _)
    · split at h
      · cases h
        exact outdent_tk _ _ _ hp (hT.move (pos' := σ.pos) (b := σ.blocks) (b2 := σ.brk) (l := true) (Nat.le_refl _))
      · cases h
theorem nl_tk {σ : Sc} (hp : σ.pos ≤ σ.s.length) (hT : TI σ) : TI σ.nl := by
  unfold Sc.nl
  split
  · exact hT.put (pos' := σ.pos) (b := σ.blocks) (b2 := σ.brk) (l := false) (plain_tk (by decide) (by decide) hp (by decide)) (Nat.le_refl _)
  · exact hT.move (pos' := σ.pos) (b := σ.blocks) (b2 := σ.brk) (l := false) (Nat.le_refl _)
theorem step_tk {σ σ1 : Sc} (h : σ.step = .ok σ1) (hI : Inv σ) (hp : σ.pos < σ.s.length) (hT : TI σ) : TI σ1 := by
  obtain ⟨hle, hz, hn, hd, hb, hf⟩ := hI
  by_cases h10 : bt σ.s σ.pos = 10
  · by_cases hk : σ.brk = []
    · rw [Sc.step_nl h10 hk] at h
      cases h
      have h1 := nl_tk hle hT
      exact ⟨h1.ok, Nat.le_succ_of_le h1.sum⟩
    · rw [Sc.step_br h10 hk] at h
      cases h
      exact ⟨hT.ok, Nat.le_succ_of_le hT.sum⟩
  by_cases h32 : bt σ.s σ.pos = 32
  · rw [Sc.step_sp h32] at h
    cases h
    exact ⟨hT.ok, Nat.le_succ_of_le hT.sum⟩
  by_cases h35 : bt σ.s σ.pos = 35
  · rw [Sc.step_com h35] at h
    unfold Sc.comment at h
    cases hc : comL (σ.s.drop σ.pos) σ.pos with
    | error e => rw [hc] at h; cases h
    | ok j =>
      rw [hc] at h
      cases h
      exact ⟨hT.ok, Nat.le_trans hT.sum (comL_bd _ _ _ hc).1⟩
  by_cases hl : σ.line = true
  · rw [Sc.step_line h10 h32 h35 hl] at h
    exact token_tk h hp hT
  · simp only [Bool.not_eq_true] at hl
    cases hbg : σ.begin with
    | error e => rw [Sc.step_err h10 h32 h35 hl hbg] at h; cases h
    | ok σ2 =>
      rw [Sc.step_beg h10 h32 h35 hl hbg] at h
      have hB := Sc.begin_ok hbg hz hn hd hb
      rw [← hB.1.s, ← hB.2.1] at h
      exact token_tk h (by rw [hB.1.s, hB.2.1]; exact hp) (begin_tk hbg hle hT)
theorem loop_tk : ∀ (f : Nat) (σ σ1 : Sc), Sc.loop f σ = .ok σ1 → Inv σ → TI σ → Inv σ1 ∧ TI σ1 ∧ σ1.s = σ.s
  | 0, σ, σ1, h, hI, hT => by cases h; exact ⟨hI, hT, rfl⟩
  | f + 1, σ, σ1, h, hI, hT => by
    unfold Sc.loop at h
    split at h
    · next hp =>
      cases hs : σ.step with
      | error e => rw [hs] at h; cases h
      | ok σ2 =>
        rw [hs] at h
        have h1 := Sc.step_ok hs hI hp
        have h2 := loop_tk f σ2 σ1 h h1.1 (step_tk hs hI hp hT)
        exact ⟨h2.1, h2.2.1, h2.2.2.trans h1.2.1⟩
    · cases h; exact ⟨hI, hT, rfl⟩
/-- a token, for the parser -/
def tkP (t : Tok) : Go.Pa.Tk := ⟨t.kind, t.text, t.pos⟩
theorem scan_tks {s : List UInt8} {ts : List Tok} (hs : scan s = .ok ts) (hl : s.length ≤ 100000) : Go.Pa.Tks (ts.map tkP) nameB (fun p => 0 ≤ p ∧ p ≤ (s.length : Int)) := by
  unfold scan at hs
  cases hg : Sc.loop s.length (Sc.start s) with
  | error e => rw [hg] at hs; cases hs
  | ok σ =>
    rw [hg] at hs
    simp only at hs
    split at hs
    · cases hs
    · have e : σ.nl.out ++ dedents (σ.blocks.length - 1) s.length ++ [⟨8, [], s.length⟩] = ts := by simpa using hs
      obtain ⟨hI, hT, he⟩ := loop_tk _ _ _ hg (start_inv s) ⟨(fun t ht => absurd ht (by simp [Sc.start])), Nat.zero_le _⟩
      have he' : σ.s = s := he
      have hn := nl_tk hI.le hT
      have hns := (Sc.nl_keeps σ)
      have hnp := Sc.nl_pos σ
      have hle := hI.le
      have hfew := hI.few
      have hsome := hI.some
      rw [he'] at hle
      have hall : ∀ t ∈ σ.nl.out ++ dedents (σ.blocks.length - 1) s.length, tkOk s.length t := by
        intro t ht
        rcases List.mem_append.1 ht with ht | ht
        · have := hn.ok t ht
          rw [hns.1, he'] at this
          exact this
        · rw [(List.mem_replicate.1 ht).2]
          exact plain_tk (by decide) (by decide) (Nat.le_refl _) (by decide)
      have hlen : ts.length ≤ 3 * s.length + 3 := by
        rw [← e]
        have h1 := hns.2.2.2
        simp only [List.length_append, List.length_singleton, dedents, List.length_replicate]
        omega
      have hsum : (ts.map fun t => t.text.length).sum ≤ s.length := by
        rw [← e, List.map_append, List.map_append, List.sum_append, List.sum_append]
        have h1 := hn.sum
        rw [hnp] at h1
        have h2 : ((dedents (σ.blocks.length - 1) s.length).map fun t => t.text.length).sum = 0 := by
          unfold dedents
          rw [List.map_replicate]
          simp
        rw [h2]
        simp only [List.map_cons, List.map_nil, List.sum_cons, List.sum_nil, List.length_nil]
        omega
      refine ⟨?_, ?_, ?_, ?_, ?_, ?_, ?_, ?_, ?_⟩
      · rw [List.length_map, ← e, List.length_append]; exact Nat.succ_pos _
      · rw [List.length_map]; omega
      · intro i t ht
        rw [List.getElem?_map] at ht
        cases hti : ts[i]? with
        | none => rw [hti] at ht; cases ht
        | some t0 =>
          rw [hti] at ht
          cases ht
          rw [List.length_map]
          have hlt := (List.getElem?_eq_some_iff.1 hti).1
          rw [← e] at hti hlt ⊢
          simp only [List.length_append, List.length_singleton] at hlt ⊢
          rcases Nat.lt_or_ge i (σ.nl.out ++ dedents (σ.blocks.length - 1) s.length).length with h1 | h1
          · rw [List.getElem?_append_left h1] at hti
            have := (hall t0 (List.mem_of_getElem? hti)).2.2.2
            rw [List.length_append] at h1
            unfold tkP
            dsimp only
            constructor <;> intro h <;> omega
          · rw [List.getElem?_append_right h1] at hti
            rw [List.length_append] at h1
            have hz : i - (σ.nl.out ++ dedents (σ.blocks.length - 1) s.length).length = 0 := by rw [List.length_append]; omega
            rw [hz] at hti
            cases hti
            unfold tkP
            dsimp only
            constructor
            · intro _; omega
            · intro _; rfl
      · intro t ht
        obtain ⟨t0, h0, rfl⟩ := List.mem_map.1 ht
        intro hk
        rw [← e] at h0
        rcases List.mem_append.1 h0 with h1 | h1
        · exact (hall t0 h1).1 (by unfold tkP at hk; dsimp only at hk; omega)
        · cases List.mem_singleton.1 h1
          cases hk
      · intro t ht
        obtain ⟨t0, h0, rfl⟩ := List.mem_map.1 ht
        intro hk
        rw [← e] at h0
        rcases List.mem_append.1 h0 with h1 | h1
        · exact (hall t0 h1).2.1 (by unfold tkP at hk; dsimp only at hk; omega)
        · cases List.mem_singleton.1 h1
          cases hk
      · intro t ht
        obtain ⟨t0, h0, rfl⟩ := List.mem_map.1 ht
        rw [← e] at h0
        unfold tkP
        dsimp only
        rcases List.mem_append.1 h0 with h1 | h1
        · have := (hall t0 h1).2.2.1
          omega
        · cases List.mem_singleton.1 h1
          dsimp only
          omega
      · omega
      · intro t ht
        obtain ⟨t0, h0, rfl⟩ := List.mem_map.1 ht
        rw [← e] at h0
        unfold tkP
        dsimp only
        rcases List.mem_append.1 h0 with h1 | h1
        · have := (hall t0 h1).2.2.2
          omega
        · cases List.mem_singleton.1 h1
          dsimp only
          omega
      · rw [List.map_map]
        have : (fun t : Go.Pa.Tk => t.text.length) ∘ tkP = fun t => t.text.length := rfl
        rw [this]
        omega
end Go.Lex
