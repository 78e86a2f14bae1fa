/-
  Proved here: plain: two lists of tokens that are one up to an end are parsed alike up to there. No program stands here.
-/
import Derived.Test.YtfbenelagdcdgaaDoorPlE
set_option linter.unusedSimpArgs false
namespace Go.Pa.Bh
open Go.Pa
/-- two lists of tokens, one up to an end, but for the places of what ends a block -/
structure Two (L L' : List Tk) (e : Nat) : Prop where
  same : ∀ (i : Nat) (t : Tk), L[i]? = some t → i < e → L'[i]? = some t ∨ (t.kind = 7 ∧ ∃ t', L'[i]? = some t' ∧ t'.kind = 7 ∧ t'.text = t.text)
  len : L.length = e + 1
  fin : ∀ (i : Nat) (t : Tk), L[i]? = some t → (t.kind = 8 ↔ i = e)
  nx : ∃ t', L'[e]? = some t' ∧ t'.kind = 1
/-- what the first reads, as long as it stays ahead of the end, the second reads too -/
def Sm {α : Type} (e l p : Nat) (x x' : M α) (s : St) : Prop := ∀ a s', x s = some (.ok a s') → s.at_ + p ≤ s'.at_ ∧ (s'.at_ + l ≤ e → x' s = some (.ok a s'))
def Still {α : Type} (x : M α) : Prop := ∀ s a s', x s = some (.ok a s') → s'.at_ = s.at_
section
variable {α β : Type} {L L' : List Tk} {e l l1 p p1 p2 : Nat} {x x' y : M α} {f f' : α → M β} {s : St}
theorem bnd_ok {b : β} {s' : St} (h : bnd x f s = some (.ok b s')) : ∃ a s1, x s = some (.ok a s1) ∧ f a s1 = some (.ok b s') := by
  unfold bnd at h
  cases hx : x s with
  | none => rw [hx] at h; cases h
  | some r =>
    rw [hx] at h
    cases r with
    | ok a s1 => exact ⟨a, s1, rfl, h⟩
    | stop _ _ => cases h
theorem bnd_go {a : α} {s1 : St} (h : x s = some (.ok a s1)) : bnd x f s = f a s1 := by
  unfold bnd
  rw [h]
theorem sm_bnd (h : Sm e l1 p1 x x' s) (hf : ∀ a s1, x s = some (.ok a s1) → Sm e l p2 (f a) (f' a) s1) (hl : l1 ≤ l + p2) (hp : p ≤ p1 + p2) : Sm e l p (bnd x f) (bnd x' f') s := by
  intro b s' hb
  obtain ⟨a, s1, h1, h2⟩ := bnd_ok hb
  obtain ⟨q1, q2⟩ := h a s1 h1
  obtain ⟨r1, r2⟩ := hf a s1 h1 b s' h2
  exact ⟨by omega, fun he => by rw [bnd_go (q2 (by omega))]; exact r2 he⟩
theorem sm_bnd1 (h : Sm e 1 0 x x' s) (hf : ∀ a s1, Sm e 1 0 (f a) (f' a) s1) : Sm e 1 0 (bnd x f) (bnd x' f') s := sm_bnd h (fun a s1 _ => hf a s1) (by decide) (by decide)
theorem Sm.w (h : Sm e 0 p x x' s) : Sm e 1 0 x x' s := fun a s' ha => ⟨by have := (h a s' ha).1; omega, fun he => (h a s' ha).2 (by omega)⟩
theorem sm_ret {a : α} : Sm e l 0 (ret a) (ret a) s := fun b s' h => by cases h; exact ⟨Nat.le_refl _, fun _ => rfl⟩
theorem sm_none : Sm e l p (fun _ => none) y s := fun b s' h => by cases h
theorem sm_stop {q : Int} {c : Bool} : Sm e l p (fun _ => some (.stop q c)) y s := fun b s' h => by cases h
theorem sm_bad : Sm e l p (bad L) y s := fun b s' h => by
  obtain ⟨a, s1, _, h2⟩ := bnd_ok h
  cases h2
theorem sm_still (h : Still x) : Sm e 0 0 x x s := fun a s' ha => ⟨Nat.le_of_eq (h s a s' ha).symm, fun _ => ha⟩
theorem sm_grow {γ : Type} {k : List γ} (h : Sm e l p x x' s) : Sm e l p (grow k x) (grow k x') s := fun a s' ha => by
  unfold grow at ha
  split at ha
  · next hk =>
    obtain ⟨q1, q2⟩ := h a s' ha
    refine ⟨q1, fun he => ?_⟩
    unfold grow
    rw [if_pos hk]
    exact q2 he
  · cases ha
theorem sm_ite {c : Prop} [Decidable c] {y' : M α} (h1 : c → Sm e l p x x' s) (h2 : ¬ c → Sm e l p y y' s) : Sm e l p (if c then x else y) (if c then x' else y') s := by
  by_cases hc : c
  · rw [if_pos hc, if_pos hc]; exact h1 hc
  · rw [if_neg hc, if_neg hc]; exact h2 hc
theorem tok_ok {t : Tk} {s' : St} (h : tok L s = some (.ok t s')) : L[s.at_]? = some t ∧ s' = s := by
  unfold tok at h
  cases hx : L[s.at_]? with
  | none => rw [hx] at h; cases h
  | some t' => rw [hx] at h; cases h; exact ⟨rfl, rfl⟩
theorem tok_go {t : Tk} (h : L[s.at_]? = some t) : tok L s = some (.ok t s) := by unfold tok; rw [h]
theorem isB7 {t : Tk} {ss : List B} (h : t.kind = 7) : isB t ss = false := by unfold isB; rw [h]; rfl
theorem n71 : ((7 : Int) = 1) = False := by decide
theorem n72 : ((7 : Int) = 2) = False := by decide
theorem n73 : ((7 : Int) = 3) = False := by decide
theorem n75 : ((7 : Int) = 5) = False := by decide
theorem n78 : ((7 : Int) = 8) = False := by decide
theorem isBn {t : Tk} {ss : List B} (h : t.kind ≠ 4) : isB t ss = false := by unfold isB; rw [decide_eq_false h, Bool.false_and]
theorem take_yes {t : Tk} {z : B} (ht : L[s.at_]? = some t) (hz : isB t [z] = true) : take L z s = some (.ok true { s with at_ := s.at_ + 1 }) := by
  unfold take is_
  rw [bnd_assoc, bnd_go (tok_go ht), hz]
  rfl
theorem take_no {t : Tk} {z : B} (ht : L[s.at_]? = some t) (hz : isB t [z] = false) : take L z s = some (.ok false s) := by
  unfold take is_
  rw [bnd_assoc, bnd_go (tok_go ht), hz]
  rfl
theorem is_yes {ss : List B} {s1 : St} (h : is_ L ss s = some (.ok true s1)) : ∃ t, L[s1.at_]? = some t ∧ t.kind = 4 := by
  obtain ⟨t, s2, ht, h2⟩ := bnd_ok h
  obtain ⟨ht, hs⟩ := tok_ok ht
  have h3 : isB t ss = true ∧ s2 = s1 := by
    cases hb : isB t ss with
    | false => rw [hb] at h2; cases h2
    | true => rw [hb] at h2; cases h2; exact ⟨rfl, rfl⟩
  refine ⟨t, by rw [← h3.2, hs]; exact ht, isB_kind h3.1⟩
theorem Sm.p0 (h : Sm e l p x x' s) : Sm e l 0 x x' s := fun a s' ha => ⟨by have := (h a s' ha).1; omega, (h a s' ha).2⟩
variable (T : Two L L' e)
include T
theorem sm_tok0 {f f' : Tk → M β} (h : ∀ t, L[s.at_]? = some t → Sm e l p (f t) (f' t) s) (h7 : ∀ t t', L[s.at_]? = some t → t.kind = 7 → t'.kind = 7 → Sm e l p (f t) (f' t') s) (h8 : ∀ t t', L[s.at_]? = some t → t.kind = 8 → t'.kind = 1 → Sm e l p (f t) (f' t') s) : Sm e l p (bnd (tok L) f) (bnd (tok L') f') s := by
  intro b s' hb
  obtain ⟨t, s1, ht, h2⟩ := bnd_ok hb
  obtain ⟨ht, rfl⟩ := tok_ok ht
  obtain ⟨q1, q2⟩ := h t ht b s' h2
  refine ⟨q1, fun he => ?_⟩
  rcases Nat.lt_or_ge s1.at_ e with hlt | hge
  · rcases T.same s1.at_ t ht hlt with h3 | ⟨h3, t', h4, h5, h6⟩
    · rw [bnd_go (tok_go h3)]; exact q2 he
    · rw [bnd_go (tok_go h4)]; exact (h7 t t' ht h3 h5 b s' h2).2 he
  · have h9 : s1.at_ = e := by omega
    obtain ⟨t', h3, h4⟩ := T.nx
    rw [← h9] at h3
    rw [bnd_go (tok_go h3)]
    exact (h8 t t' ht ((T.fin _ t ht).2 h9) h4 b s' h2).2 he
theorem sm_tok {f f' : Tk → M β} (hl : 1 ≤ l + p) (h : ∀ t, L[s.at_]? = some t → Sm e l p (f t) (f' t) s) (h7 : ∀ t t', L[s.at_]? = some t → t.kind = 7 → t'.kind = 7 → t'.text = t.text → Sm e l p (f t) (f' t') s) : Sm e l p (bnd (tok L) f) (bnd (tok L') f') s := by
  intro b s' hb
  obtain ⟨t, s1, ht, h2⟩ := bnd_ok hb
  obtain ⟨ht, rfl⟩ := tok_ok ht
  obtain ⟨q1, q2⟩ := h t ht b s' h2
  refine ⟨q1, fun he => ?_⟩
  rcases T.same s1.at_ t ht (by omega) with h3 | ⟨h3, t', h4, h5, h6⟩
  · rw [bnd_go (tok_go h3)]; exact q2 he
  · rw [bnd_go (tok_go h4)]; exact (h7 t t' ht h3 h5 h6 b s' h2).2 he
/-- up to the end, signs are the same -/
theorem isB_two {t : Tk} (ht : L[s.at_]? = some t) (hs : s.at_ ≤ e) (ss : List B) : ∃ t', L'[s.at_]? = some t' ∧ isB t' ss = isB t ss ∧ (isB t ss = true → t' = t) := by
  rcases Nat.lt_or_ge s.at_ e with h | h
  · rcases T.same s.at_ t ht h with h3 | ⟨h3, t', h4, h5, h6⟩
    · exact ⟨t, h3, rfl, fun _ => rfl⟩
    · exact ⟨t', h4, by rw [isB7 h3, isB7 h5], fun h => by rw [isB7 h3] at h; cases h⟩
  · have he : s.at_ = e := by omega
    obtain ⟨t', h1, h2⟩ := T.nx
    have h8 := (T.fin _ t ht).2 he
    have e1 : isB t ss = false := isBn (by rw [h8]; decide)
    have e2 : isB t' ss = false := isBn (by rw [h2]; decide)
    exact ⟨t', by rw [he]; exact h1, by rw [e1, e2], fun h => by rw [e1] at h; cases h⟩
theorem sm_is {ss : List B} : Sm e 0 0 (is_ L ss) (is_ L' ss) s := by
  intro b s' hb
  obtain ⟨t, s1, ht, h2⟩ := bnd_ok hb
  obtain ⟨ht, rfl⟩ := tok_ok ht
  cases h2
  refine ⟨Nat.le_refl _, fun he => ?_⟩
  obtain ⟨t', h1, h2, _⟩ := isB_two T ht he ss
  unfold is_
  rw [bnd_go (tok_go h1), h2]
theorem sm_take {z : B} : Sm e 0 0 (take L z) (take L' z) s := by
  unfold take
  refine sm_bnd (sm_is T) (p2 := 0) (fun b s1 _ => sm_ite (fun _ => ?_) (fun _ => sm_ret)) (by decide) (by decide)
  intro b s' h
  obtain ⟨_, s2, h1, h2⟩ := bnd_ok h
  cases h1
  cases h2
  exact ⟨Nat.le_succ _, fun _ => rfl⟩
theorem sm_must {z : B} : Sm e 0 1 (must L z) (must L' z) s := by
  unfold must
  refine sm_tok T (by decide) (fun t ht => ?_) fun t t' ht hk _ _ => ?_
  · intro b s' h
    cases hz : isB t [z] with
    | false =>
      rw [bnd_go (take_no ht hz), if_neg (by decide)] at h
      obtain ⟨_, _, _, h2⟩ := bnd_ok h
      cases h2
    | true =>
      rw [bnd_go (take_yes ht hz), if_pos rfl] at h
      cases h
      refine ⟨Nat.le_refl _, fun he => ?_⟩
      obtain ⟨t', h1, h2, h3⟩ := isB_two T ht (by have : s.at_ + 1 + 0 ≤ e := he; omega) [z]
      rw [h3 hz] at h1
      rw [bnd_go (take_yes h1 hz), if_pos rfl]
  · intro b s' h
    rw [bnd_go (take_no ht (isB7 hk)), if_neg (by decide)] at h
    obtain ⟨_, _, _, h2⟩ := bnd_ok h
    cases h2
theorem sm_kinds {k : Int} (h8 : k ≠ 8) (h7 : k ≠ 7) : Sm e 0 1 (kinds L k) (kinds L' k) s := by
  unfold kinds
  refine sm_tok T (by decide) (fun t ht => sm_ite (fun _ => sm_bad) fun _ => ?_) fun t t' ht hk _ _ => ?_
  · rw [if_pos h8]
    intro b s' h
    obtain ⟨_, s2, h1, h2⟩ := bnd_ok h
    cases h1
    cases h2
    exact ⟨Nat.le_refl _, fun _ => rfl⟩
  · rw [if_pos (by rw [hk]; exact fun h => h7 h.symm)]
    exact sm_bad
theorem sm_ahead {z : B} : Sm e 1 0 (ahead L z) (ahead L' z) s := by
  intro b s' hb
  unfold ahead at hb
  cases hb
  refine ⟨Nat.le_refl _, fun he => ?_⟩
  unfold ahead
  have hlt : s.at_ + 1 < L.length := by rw [T.len]; omega
  have ht := List.getElem?_eq_getElem hlt
  obtain ⟨t', h1, h2, h3⟩ := isB_two T (s := { s with at_ := s.at_ + 1 }) ht he [z]
  have e1 : ∀ t : Tk, (decide (t.kind = 4) && decide (t.text = z)) = isB t [z] := fun t => by unfold isB; simp [eq_comm]
  rw [ht, show L'[s.at_ + 1]? = some t' from h1]
  simp only [e1]
  rw [h2]
omit T
theorem sm_adv : Sm e 0 1 adv adv s := fun b s' h => by cases h; exact ⟨Nat.le_refl _, fun _ => rfl⟩
theorem still_inn {q : Int} : Still (inn q) := fun s a s' h => by unfold inn at h; split at h <;> cases h; rfl
theorem still_out : Still outn := fun s a s' h => by
  unfold outn at h
  split at h
  · cases h
  · split at h <;> cases h
    rfl
theorem still_node {o q : Int} {z : B} {ks : List Int} : Still (node o q z ks) := fun s a s' h => by unfold node at h; split at h <;> cases h; rfl
theorem still_at {k : Int} : Still (nodeAt k) := fun s a s' h => by
  unfold nodeAt at h
  split at h
  · cases h
  · split at h <;> cases h
    rfl
theorem still_pos {k q : Int} : Still (setPos k q) := fun s a s' h => by
  unfold setPos at h
  split at h
  · cases h
  · split at h <;> cases h
    rfl
theorem still_op {z : B} : Still (op_ z) := fun s a s' h => by unfold op_ at h; split at h <;> cases h; rfl
theorem still_gf : Still getFors := fun s a s' h => by cases h; rfl
theorem still_gd : Still getDefs := fun s a s' h => by cases h; rfl
theorem still_sf {k : Nat} : Still (setFors k) := fun s a s' h => by unfold setFors at h; split at h <;> cases h; rfl
theorem still_sd {b : Bool} : Still (setDefs b) := fun s a s' h => by cases h; rfl
end
/-- it reads nothing -/
def No {α : Type} (x : M α) (s : St) : Prop := ∀ a s', x s ≠ some (.ok a s')
theorem No.bnd {α β : Type} {x : M α} {f : α → M β} {s : St} (h : No x s) : No (Go.Pa.bnd x f) s := fun b s' hb => by
  obtain ⟨a, s1, h1, _⟩ := bnd_ok hb
  exact h a s1 h1
section
variable {L L' : List Tk} {nameB : B → Bool} {e n m : Nat}
/-- what begins no expression -/
def Hd : {α : Type} → F α → Bool
  | _, .test | _, .left _ | _, .not_ | _, .compare | _, .unary | _, .primary | _, .atom | _, .one => true
  | _, _ => false
theorem no_is {s : St} {t : Tk} (ht : L[s.at_]? = some t) (hk : t.kind = 7) (ss : List B) : is_ L ss s = some (.ok false s) := by unfold is_; rw [bnd_go (tok_go ht), isB7 hk]
theorem no_take {s : St} {t : Tk} (ht : L[s.at_]? = some t) (hk : t.kind = 7) (z : B) : take L z s = some (.ok false s) := by unfold take; rw [bnd_go (no_is ht hk [z])]; rfl
theorem no_bad {α : Type} {s : St} : No (bad (α := α) L) s := fun a s' h => by
  obtain ⟨_, _, _, h2⟩ := bnd_ok h
  cases h2
theorem No.go {α β : Type} {x : M α} {f : α → M β} {s s1 : St} {a : α} (h : x s = some (.ok a s1)) (h2 : No (f a) s1) : No (Go.Pa.bnd x f) s := fun b s' hb => by
  rw [bnd_go h] at hb
  exact h2 b s' hb
theorem no7 {s : St} {t : Tk} (ht : L[s.at_]? = some t) (hk : t.kind = 7) : ∀ (n : Nat) {α : Type} (g : F α), Hd g = true → No (run L nameB n g) s := by
  intro n
  induction n with
  | zero => intro α g _ a s' h; cases h
  | succ n ih =>
    intro α g hg
    have hkn : ∀ k : Int, k ≠ 7 → ¬ t.kind = k := fun k h => by rw [hk]; exact fun h' => h h'.symm
    show No (body L nameB (fun {_} g => run L nameB n g) g) s
    match g, hg with
    | .test, _ => dsimp only [body]; exact (ih (.left 0) rfl).bnd
    | .left lv, _ =>
      dsimp only [body]
      match lv with
      | 0 => exact (ih (.left 1) rfl).bnd
      | 1 => exact (ih .not_ rfl).bnd
      | 2 => exact (ih (.left 3) rfl).bnd
      | lv + 3 => exact (ih .unary rfl).bnd
    | .not_, _ =>
      dsimp only [body]
      exact No.go (no_is ht hk _) (ih .compare rfl)
    | .compare, _ => dsimp only [body]; exact (ih (.left 2) rfl).bnd
    | .unary, _ =>
      dsimp only [body]
      exact No.go (no_is ht hk _) (ih .primary rfl)
    | .primary, _ => dsimp only [body]; exact (ih .atom rfl).bnd
    | .atom, _ =>
      dsimp only [body]
      refine No.go (tok_go ht) ?_
      rw [if_neg (hkn 1 (by decide)), if_neg (hkn 2 (by decide)), if_neg (hkn 3 (by decide))]
      refine No.go (no_take ht hk _) ?_
      rw [if_neg (by decide)]
      refine No.go (no_take ht hk _) ?_
      rw [if_neg (by decide)]
      refine No.go (no_take ht hk _) ?_
      rw [if_neg (by decide), isB7 hk, isB7 hk, isB7 hk, if_neg (by decide), if_neg (by decide), if_neg (by decide)]
      exact no_bad
    | .one, _ =>
      dsimp only [body]
      refine No.go (tok_go ht) ?_
      rw [isB7 hk, if_neg (by decide), if_pos (hkn 1 (by decide))]
      exact no_bad
theorem sm_tk7 (T : Two L L' e) {β : Type} {f f' : Bool → M β} {s : St} {t : Tk} {z : B} (ht : L[s.at_]? = some t) (hk : t.kind = 7) (h : Sm e 1 0 (f false) (f' false) s) : Sm e 1 0 (bnd (take L z) f) (bnd (take L' z) f') s :=
  sm_bnd (sm_take T).w (fun a s1 h1 => by rw [no_take ht hk] at h1; cases h1; exact h) (by decide) (by decide)
theorem No.sm {α : Type} {l p : Nat} {x x' : M α} {s : St} (h : No x s) : Sm e l p x x' s := fun a s' ha => absurd ha (h a s')
/-- how near to the end a function may come -/
def lim : {α : Type} → F α → Nat
  | _, .statement _ | _, .block | _, .blockGo _ | _, .cond | _, .loop | _, .def_ => 0
  | _, _ => 1
/-- what surely moves on -/
def mov : {α : Type} → F α → Nat
  | _, .statement _ | _, .block | _, .cond | _, .loop | _, .def_ => 1
  | _, _ => 0
def Ok (L : List Tk) : {α : Type} → F α → St → Prop
  | _, .cond, s => ∀ t, L[s.at_]? = some t → t.kind = 4
  | _, .file, _ => False
  | _, .fileGo _, _ => False
  | _, _, _ => True
/-- within lines -/
def Ex : {α : Type} → F α → Bool
  | _, .statement _ | _, .block | _, .blockGo _ | _, .cond | _, .loop | _, .def_ | _, .file | _, .fileGo _ => false
  | _, _ => true
def H (L L' : List Tk) (nameB : B → Bool) (e n m : Nat) : Prop := ∀ {α : Type} (g : F α) (s : St), Ok L g s → Sm e (lim g) (mov g) (run L nameB n g) (run L' nameB m g) s
def HE (L L' : List Tk) (nameB : B → Bool) (e n m : Nat) : Prop := ∀ {α : Type} (g : F α) (s : St), Ex g = true → Sm e 1 0 (run L nameB n g) (run L' nameB m g) s
theorem H.ex (h : H L L' nameB e n m) : HE L L' nameB e n m := by
  intro α g s hg
  cases g <;> first | exact h _ s trivial | cases hg
theorem HE.part (hE : HE L L' nameB e n m) (lv : Nat) (s : St) : Sm e 1 0 (run L nameB n (part lv)) (run L' nameB m (part lv)) s := by
  match lv with
  | 0 => exact hE (.left 1) s rfl
  | 1 => exact hE .not_ s rfl
  | 2 => exact hE (.left 3) s rfl
  | lv + 3 => exact hE .unary s rfl
theorem h_leftGo (T : Two L L' e) (hE : HE L L' nameB e n m) (lv : Nat) (k : Int) (s : St) : Sm e 1 0 (body L nameB (fun {_} g => run L nameB n g) (.leftGo lv k)) (body L' nameB (fun {_} g => run L' nameB m g) (.leftGo lv k)) s := by
  dsimp only [body]
  refine sm_bnd (sm_is T).w (fun b s1 hb => sm_ite (fun hb1 => ?_) fun _ => sm_ret) (by decide) (by decide)
  rw [hb1] at hb
  obtain ⟨t4, ht4, hk4⟩ := is_yes hb
  refine sm_tok T (by decide) (fun t ht => ?_) (fun t t' ht hk hk' hx => ?_)
  · repeat' first
      | exact hE.part _ _
      | exact hE _ _ rfl
      | exact absurd ‹false = true› Bool.false_ne_true
      | exact sm_ret
      | exact sm_bad
      | exact sm_none
      | exact sm_stop
      | exact (sm_is T).w
      | exact (sm_take T).w
      | exact (sm_must T).w
      | exact (sm_kinds T (by decide) (by decide)).w
      | exact sm_ahead T
      | exact sm_adv.w
      | exact (sm_still still_inn).w
      | exact (sm_still still_out).w
      | exact (sm_still still_node).w
      | exact (sm_still still_at).w
      | exact (sm_still still_pos).w
      | exact (sm_still still_op).w
      | exact (sm_still still_gf).w
      | exact (sm_still still_gd).w
      | exact (sm_still still_sf).w
      | exact (sm_still still_sd).w
      | refine sm_ite (fun _ => ?_) (fun _ => ?_)
      | refine sm_tok T (by decide) (fun t ht => ?_) (fun t t' ht hk hk' hx => ?_)
      | refine sm_grow ?_
      | refine sm_tk7 T ht hk ?_
      | refine sm_bnd1 ?_ (fun a s1 => ?_)
      | simp only [isB7 hk, isB7 hk', hk, hk', n71, n72, n73, n75, n78, Bool.false_eq_true, if_false, if_true, Bool.or_false, Bool.and_false, Bool.false_and, Bool.false_or, decide_false, not_false_eq_true, ne_eq, true_or, or_true]
  · rw [ht4] at ht
    cases ht
    rw [hk4] at hk
    cases hk
theorem h_many (T : Two L L' e) (hE : HE L L' nameB e n m) (s : St) : Sm e 1 0 (body L nameB (fun {_} g => run L nameB n g) .many) (body L' nameB (fun {_} g => run L' nameB m g) .many) s := by
  dsimp only [body]
  refine sm_tok T (by decide) (fun t ht => ?_) (fun t t' ht hk hk' hx => (no7 ht hk n .test rfl).bnd.sm)
  repeat' first
    | exact hE _ _ rfl
    | exact absurd ‹false = true› Bool.false_ne_true
    | exact sm_ret
    | exact sm_bad
    | exact sm_none
    | exact sm_stop
    | exact (sm_is T).w
    | exact (sm_take T).w
    | exact (sm_must T).w
    | exact (sm_kinds T (by decide) (by decide)).w
    | exact sm_ahead T
    | exact sm_adv.w
    | exact (sm_still still_inn).w
    | exact (sm_still still_out).w
    | exact (sm_still still_node).w
    | exact (sm_still still_at).w
    | exact (sm_still still_pos).w
    | exact (sm_still still_op).w
    | exact (sm_still still_gf).w
    | exact (sm_still still_gd).w
    | exact (sm_still still_sf).w
    | exact (sm_still still_sd).w
    | refine sm_ite (fun _ => ?_) (fun _ => ?_)
    | refine sm_tok T (by decide) (fun t ht => ?_) (fun t t' ht hk hk' hx => ?_)
    | refine sm_grow ?_
    | refine sm_tk7 T ht hk ?_
    | refine sm_bnd1 ?_ (fun a s1 => ?_)
    | simp only [isB7 hk, isB7 hk', hk, hk', n71, n72, n73, n75, n78, Bool.false_eq_true, if_false, if_true, Bool.or_false, Bool.and_false, Bool.false_and, Bool.false_or, decide_false, not_false_eq_true, ne_eq, true_or, or_true]
theorem h_some (T : Two L L' e) (hE : HE L L' nameB e n m) (z : B) (s : St) : Sm e 1 0 (body L nameB (fun {_} g => run L nameB n g) (.some_ z)) (body L' nameB (fun {_} g => run L' nameB m g) (.some_ z)) s := by
  dsimp only [body]
  refine sm_tok T (by decide) (fun t ht => ?_) (fun t t' ht hk hk' hx => (no7 ht hk n .one rfl).bnd.sm)
  repeat' first
    | exact hE _ _ rfl
    | exact absurd ‹false = true› Bool.false_ne_true
    | exact sm_ret
    | exact sm_bad
    | exact sm_none
    | exact sm_stop
    | exact (sm_is T).w
    | exact (sm_take T).w
    | exact (sm_must T).w
    | exact (sm_kinds T (by decide) (by decide)).w
    | exact sm_ahead T
    | exact sm_adv.w
    | exact (sm_still still_inn).w
    | exact (sm_still still_out).w
    | exact (sm_still still_node).w
    | exact (sm_still still_at).w
    | exact (sm_still still_pos).w
    | exact (sm_still still_op).w
    | exact (sm_still still_gf).w
    | exact (sm_still still_gd).w
    | exact (sm_still still_sf).w
    | exact (sm_still still_sd).w
    | refine sm_ite (fun _ => ?_) (fun _ => ?_)
    | refine sm_tok T (by decide) (fun t ht => ?_) (fun t t' ht hk hk' hx => ?_)
    | refine sm_grow ?_
    | refine sm_tk7 T ht hk ?_
    | refine sm_bnd1 ?_ (fun a s1 => ?_)
    | simp only [isB7 hk, isB7 hk', hk, hk', n71, n72, n73, n75, n78, Bool.false_eq_true, if_false, if_true, Bool.or_false, Bool.and_false, Bool.false_and, Bool.false_or, decide_false, not_false_eq_true, ne_eq, true_or, or_true]
theorem h_targetGo (T : Two L L' e) (hE : HE L L' nameB e n m) (ks : List Int) (s : St) : Sm e 1 0 (body L nameB (fun {_} g => run L nameB n g) (.targetGo ks)) (body L' nameB (fun {_} g => run L' nameB m g) (.targetGo ks)) s := by
  cases ks with
  | nil => dsimp only [body]; exact sm_ret
  | cons k ks =>
    dsimp only [body]
    exact sm_bnd1 (hE (.target k) s rfl) fun b s1 => sm_ite (fun _ => hE (.targetGo ks) s1 rfl) fun _ => sm_ret
theorem b_end (T : Two L L' e) (hE : HE L L' nameB e n m) (w : Bool) {β : Type} {g : Int → β} (s : St) : Sm e 0 1 (bnd (run L nameB n (.simple w)) fun k => bnd (kinds L 5) fun _ => ret (g k)) (bnd (run L' nameB m (.simple w)) fun k => bnd (kinds L' 5) fun _ => ret (g k)) s :=
  sm_bnd (l1 := 1) (p1 := 0) (p2 := 1) (hE (.simple w) s rfl) (fun k s1 _ => sm_bnd (l1 := 0) (p1 := 1) (p2 := 0) (sm_kinds T (by decide) (by decide)) (fun _ s2 _ => sm_ret) (by decide) (by decide)) (by decide) (by decide)
theorem h_statement (T : Two L L' e) (hH : H L L' nameB e n m) (w : Bool) (s : St) : Sm e 0 1 (body L nameB (fun {_} g => run L nameB n g) (.statement w)) (body L' nameB (fun {_} g => run L' nameB m g) (.statement w)) s := by
  dsimp only [body]
  refine sm_tok T (by decide) (fun t ht => ?_) (fun t t' ht hk hk' hx => ?_)
  · exact sm_ite (fun hb => hH .cond s fun t' ht' => by rw [ht] at ht'; cases ht'; exact isB_kind hb) fun _ => sm_ite (fun _ => hH .loop s trivial) fun _ => sm_ite (fun _ => sm_ite (fun _ => hH .def_ s trivial) fun _ => sm_bad) fun _ => b_end T hH.ex w s
  · simp only [isB7 hk, isB7 hk', Bool.false_eq_true, if_false]
    exact b_end T hH.ex w s
theorem b_block (T : Two L L' e) (hH : H L L' nameB e n m) (s : St) : Sm e 0 1 (bnd adv fun _ => bnd (kinds L 6) fun _ => bnd (run L nameB n (.blockGo [])) fun l => bnd adv fun _ => ret l) (bnd adv fun _ => bnd (kinds L' 6) fun _ => bnd (run L' nameB m (.blockGo [])) fun l => bnd adv fun _ => ret l) s :=
  sm_bnd (l1 := 0) (p1 := 1) (p2 := 0) sm_adv (fun _ s1 _ => sm_bnd (l1 := 0) (p1 := 1) (p2 := 0) (sm_kinds T (by decide) (by decide)) (fun _ s2 _ => sm_bnd (l1 := 0) (p1 := 0) (p2 := 0) (hH (.blockGo []) s2 trivial) (fun l s3 _ => sm_bnd (l1 := 0) (p1 := 1) (p2 := 0) sm_adv (fun _ s4 _ => sm_ret) (by decide) (by decide)) (by decide) (by decide)) (by decide) (by decide)) (by decide) (by decide)
theorem b_rest {l : List Int} (s : St) : Sm e 0 0 (bnd outn fun _ => bnd (nodeAt (l.headD 0)) fun x => node 47 x.pos [] l) (bnd outn fun _ => bnd (nodeAt (l.headD 0)) fun x => node 47 x.pos [] l) s :=
  sm_bnd (l1 := 0) (p1 := 0) (p2 := 0) (sm_still still_out) (fun _ s1 _ => sm_bnd (l1 := 0) (p1 := 0) (p2 := 0) (sm_still still_at) (fun _ s2 _ => sm_still still_node) (by decide) (by decide)) (by decide) (by decide)
theorem h_block (T : Two L L' e) (hH : H L L' nameB e n m) (s : St) : Sm e 0 1 (body L nameB (fun {_} g => run L nameB n g) .block) (body L' nameB (fun {_} g => run L' nameB m g) .block) s := by
  dsimp only [body]
  refine sm_bnd (l1 := 0) (p1 := 1) (p2 := 0) (sm_must T) (fun _ s1 _ => ?_) (by decide) (by decide)
  refine sm_bnd (l1 := 0) (p1 := 0) (p2 := 0) (sm_still still_inn) (fun _ s2 _ => ?_) (by decide) (by decide)
  refine Sm.p0 (p := 1) (sm_tok T (by decide) (fun t ht => ?_) (fun t t' ht hk hk' hx => ?_))
  · exact sm_bnd (l1 := 0) (p1 := 1) (p2 := 0) (sm_ite (fun _ => b_block T hH s2) fun _ => b_end T hH.ex false s2) (fun l s3 _ => b_rest s3) (by decide) (by decide)
  · rw [if_neg (by rw [hk]; decide), if_neg (by rw [hk']; decide)]
    exact sm_bnd (l1 := 0) (p1 := 1) (p2 := 0) (b_end T hH.ex false s2) (fun l s3 _ => b_rest s3) (by decide) (by decide)
theorem h_blockGo (T : Two L L' e) (hH : H L L' nameB e n m) (l : List Int) (s : St) : Sm e 0 0 (body L nameB (fun {_} g => run L nameB n g) (.blockGo l)) (body L' nameB (fun {_} g => run L' nameB m g) (.blockGo l)) s := by
  dsimp only [body]
  have key : Sm e 0 0 (bnd (run L nameB n (.statement false)) fun k => grow l (run L nameB n (.blockGo (l ++ [k])))) (bnd (run L' nameB m (.statement false)) fun k => grow l (run L' nameB m (.blockGo (l ++ [k])))) s :=
    sm_bnd (l1 := 0) (p1 := 1) (p2 := 0) (hH (.statement false) s trivial) (fun k s1 _ => sm_grow (hH (.blockGo (l ++ [k])) s1 trivial)) (by decide) (by decide)
  refine sm_tok0 T (fun t ht => sm_ite (fun _ => key) fun _ => sm_ret) (fun t t' ht hk hk' => ?_) (fun t t' ht hk hk' => ?_)
  · by_cases hl : l = []
    · rw [if_pos (.inl hl), if_pos (.inl hl)]; exact key
    · rw [if_neg (by rw [hk]; exact fun h => h.elim hl fun h => h rfl), if_neg (by rw [hk']; exact fun h => h.elim hl fun h => h rfl)]; exact sm_ret
  · rw [if_pos (.inr (by rw [hk]; decide)), if_pos (.inr (by rw [hk']; decide))]; exact key
theorem h_cond (T : Two L L' e) (hH : H L L' nameB e n m) (s : St) (h4 : ∀ t, L[s.at_]? = some t → t.kind = 4) : Sm e 0 1 (body L nameB (fun {_} g => run L nameB n g) .cond) (body L' nameB (fun {_} g => run L' nameB m g) .cond) s := by
  dsimp only [body]
  refine sm_tok T (by decide) (fun t ht => ?_) (fun t t' ht hk hk' hx => absurd ((h4 t ht).symm.trans hk) (by decide))
  refine sm_bnd (l1 := 0) (p1 := 1) (p2 := 0) sm_adv (fun _ s1 _ => ?_) (by decide) (by decide)
  refine sm_bnd (l1 := 1) (p1 := 0) (p2 := 1) (hH.ex .test s1 rfl) (fun c s2 _ => ?_) (by decide) (by decide)
  refine sm_bnd (l1 := 0) (p1 := 1) (p2 := 0) (hH .block s2 trivial) (fun b s3 _ => ?_) (by decide) (by decide)
  have key : Sm e 0 0 (bnd (take L [101, 108, 115, 101]) fun e => if e then bnd (run L nameB n .block) fun n => node 43 t.pos [] [c, b, n] else node 43 t.pos [] [c, b]) (bnd (take L' [101, 108, 115, 101]) fun e => if e then bnd (run L' nameB m .block) fun n => node 43 t.pos [] [c, b, n] else node 43 t.pos [] [c, b]) s3 :=
    sm_bnd (l1 := 0) (p1 := 0) (p2 := 0) (sm_take T) (fun _ s4 _ => sm_ite (fun _ => sm_bnd (l1 := 0) (p1 := 1) (p2 := 0) (hH .block s4 trivial) (fun _ s5 _ => sm_still still_node) (by decide) (by decide)) fun _ => sm_still still_node) (by decide) (by decide)
  refine sm_tok0 T (fun t2 ht2 => sm_ite (fun hb => ?_) fun _ => key) (fun t2 t2' ht hk hk' => ?_) (fun t2 t2' ht hk hk' => ?_)
  · refine sm_bnd (l1 := 0) (p1 := 0) (p2 := 0) (sm_still still_inn) (fun _ s4 h => ?_) (by decide) (by decide)
    refine sm_bnd (l1 := 0) (p1 := 1) (p2 := 0) (hH .cond s4 fun t' ht' => ?_) (fun k s5 _ => ?_) (by decide) (by decide)
    · rw [still_inn _ _ _ h, ht2] at ht'
      cases ht'
      exact isB_kind hb
    · exact sm_bnd (l1 := 0) (p1 := 0) (p2 := 0) (sm_still still_out) (fun _ s6 _ => sm_bnd (l1 := 0) (p1 := 0) (p2 := 0) (sm_still still_node) (fun _ s7 _ => sm_still still_node) (by decide) (by decide)) (by decide) (by decide)
  · rw [isB7 hk, isB7 hk', if_neg (by decide), if_neg (by decide)]; exact key
  · rw [isBn (by rw [hk]; decide), isBn (by rw [hk']; decide), if_neg (by decide), if_neg (by decide)]; exact key
theorem h_loop (T : Two L L' e) (hH : H L L' nameB e n m) (s : St) : Sm e 0 1 (body L nameB (fun {_} g => run L nameB n g) .loop) (body L' nameB (fun {_} g => run L' nameB m g) .loop) s := by
  dsimp only [body]
  refine sm_bnd (l1 := 0) (p1 := 1) (p2 := 0) (sm_must T) (fun _ s1 _ => ?_) (by decide) (by decide)
  refine Sm.p0 (p := 1) (sm_bnd (l1 := 1) (p1 := 0) (p2 := 1) (hH.ex (.some_ _) s1 rfl) (fun _ s2 _ => ?_) (by decide) (by decide))
  refine sm_bnd (l1 := 0) (p1 := 1) (p2 := 0) (sm_must T) (fun _ s3 _ => ?_) (by decide) (by decide)
  refine Sm.p0 (p := 1) (sm_bnd (l1 := 1) (p1 := 0) (p2 := 1) (hH.ex .many s3 rfl) (fun _ s4 _ => ?_) (by decide) (by decide))
  refine sm_bnd (l1 := 0) (p1 := 0) (p2 := 1) (sm_still still_gf) (fun _ s5 _ => ?_) (by decide) (by decide)
  refine sm_bnd (l1 := 0) (p1 := 0) (p2 := 1) (sm_still still_sf) (fun _ s6 _ => ?_) (by decide) (by decide)
  refine sm_bnd (l1 := 0) (p1 := 1) (p2 := 0) (hH .block s6 trivial) (fun _ s7 _ => ?_) (by decide) (by decide)
  refine sm_bnd (l1 := 0) (p1 := 0) (p2 := 0) (sm_still still_gf) (fun k s8 _ => ?_) (by decide) (by decide)
  match k with
  | 0 => exact sm_none
  | k + 1 => exact sm_bnd (l1 := 0) (p1 := 0) (p2 := 0) (sm_still still_sf) (fun _ s9 _ => sm_still still_node) (by decide) (by decide)
theorem h_def (T : Two L L' e) (hH : H L L' nameB e n m) (s : St) : Sm e 0 1 (body L nameB (fun {_} g => run L nameB n g) .def_) (body L' nameB (fun {_} g => run L' nameB m g) .def_) s := by
  dsimp only [body]
  refine sm_bnd (l1 := 0) (p1 := 1) (p2 := 0) (sm_must T) (fun _ s1 _ => ?_) (by decide) (by decide)
  refine sm_bnd (l1 := 0) (p1 := 1) (p2 := 0) (sm_kinds T (by decide) (by decide)) (fun _ s2 _ => ?_) (by decide) (by decide)
  refine sm_bnd (l1 := 0) (p1 := 1) (p2 := 0) (sm_must T) (fun _ s3 _ => ?_) (by decide) (by decide)
  refine Sm.p0 (p := 1) (sm_bnd (l1 := 1) (p1 := 0) (p2 := 1) (hH.ex (.defGo _ _ _) s3 rfl) (fun _ s4 _ => ?_) (by decide) (by decide))
  refine sm_bnd (l1 := 0) (p1 := 1) (p2 := 0) (sm_must T) (fun _ s5 _ => ?_) (by decide) (by decide)
  refine sm_bnd (l1 := 0) (p1 := 0) (p2 := 0) (sm_still still_sd) (fun _ s6 _ => ?_) (by decide) (by decide)
  refine sm_bnd (l1 := 0) (p1 := 0) (p2 := 0) (sm_still still_gf) (fun _ s7 _ => ?_) (by decide) (by decide)
  refine sm_bnd (l1 := 0) (p1 := 0) (p2 := 0) (sm_still still_sf) (fun _ s8 _ => ?_) (by decide) (by decide)
  refine sm_bnd (l1 := 0) (p1 := 1) (p2 := 0) (hH .block s8 trivial) (fun _ s9 _ => ?_) (by decide) (by decide)
  exact sm_bnd (l1 := 0) (p1 := 0) (p2 := 0) (sm_still still_sd) (fun _ s10 _ => sm_bnd (l1 := 0) (p1 := 0) (p2 := 0) (sm_still still_sf) (fun _ s11 _ => sm_still still_node) (by decide) (by decide)) (by decide) (by decide)
set_option maxHeartbeats 4000000 in
theorem all_two (T : Two L L' e) : ∀ n m : Nat, n ≤ m → H L L' nameB e n m := by
  intro n
  induction n with
  | zero => intro m _ α g s _ a s' h; cases h
  | succ n ih =>
    intro m hm α g s hok
    obtain ⟨m, rfl⟩ : ∃ k, m = k + 1 := ⟨m - 1, by omega⟩
    have hH : H L L' nameB e n m := ih m (by omega)
    have hE : HE L L' nameB e n m := hH.ex
    cases g with
    | leftGo lv k => exact h_leftGo T hE lv k s
    | many => exact h_many T hE s
    | some_ z => exact h_some T hE z s
    | targetGo ks => exact h_targetGo T hE ks s
    | statement w => exact h_statement T hH w s
    | block => exact h_block T hH s
    | blockGo l => exact h_blockGo T hH l s
    | cond => exact h_cond T hH s hok
    | loop => exact h_loop T hH s
    | def_ => exact h_def T hH s
    | file => exact hok.elim
    | fileGo l => exact hok.elim
    | _ =>
      show Sm e 1 0 (body L nameB (fun {_} g => run L nameB n g) _) (body L' nameB (fun {_} g => run L' nameB m g) _) s
      dsimp only [body]
      repeat' first
        | exact hE.part _ _
        | exact hE _ _ rfl
        | exact absurd ‹false = true› Bool.false_ne_true
        | exact sm_ret
        | exact sm_bad
        | exact sm_none
        | exact sm_stop
        | exact (sm_is T).w
        | exact (sm_take T).w
        | exact (sm_must T).w
        | exact (sm_kinds T (by decide) (by decide)).w
        | exact sm_ahead T
        | exact sm_adv.w
        | exact (sm_still still_inn).w
        | exact (sm_still still_out).w
        | exact (sm_still still_node).w
        | exact (sm_still still_at).w
        | exact (sm_still still_pos).w
        | exact (sm_still still_op).w
        | exact (sm_still still_gf).w
        | exact (sm_still still_gd).w
        | exact (sm_still still_sf).w
        | exact (sm_still still_sd).w
        | refine sm_ite (fun _ => ?_) (fun _ => ?_)
        | refine sm_tok T (by decide) (fun t ht => ?_) (fun t t' ht hk hk' hx => ?_)
        | refine sm_grow ?_
        | refine sm_tk7 T ht hk ?_
        | refine sm_bnd1 ?_ (fun a s1 => ?_)
        | simp only [isB7 hk, isB7 hk', hk, hk', n71, n72, n73, n75, n78, Bool.false_eq_true, if_false, if_true, Bool.or_false, Bool.and_false, Bool.false_and, Bool.false_or, decide_false, not_false_eq_true, ne_eq, true_or, or_true]
end
end Go.Pa.Bh
