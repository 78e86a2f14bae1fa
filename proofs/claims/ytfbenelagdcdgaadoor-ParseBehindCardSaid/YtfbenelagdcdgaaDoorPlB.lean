/-
  Proved here: plain: the plain parser's steps, as it goes on: how far it is, what it has laid. No program stands here.
-/
import Derived.Test.YtfbenelagdcdgaaDoorPlA
namespace Go.Pa
open Go.Tr (nd nd_at exprB stmtB digitsOk paramsGo)
/-- what tokens may be -/
structure Tks (L : List Tk) (nameB : B → Bool) (okp : Int → Prop) : Prop where
  pos : 0 < L.length
  len : L.length ≤ 400000
  fin : ∀ (i : Nat) (t : Tk), L[i]? = some t → (t.kind = 8 ↔ i + 1 = L.length)
  name : ∀ t ∈ L, t.kind = 1 → nameB t.text = true
  int : ∀ t ∈ L, t.kind = 2 → digitsOk t.text
  place : ∀ t ∈ L, okp t.pos
  zero : okp 0
  sort : ∀ t ∈ L, 0 ≤ t.kind ∧ t.kind ≤ 8
  txt : (L.map fun t => t.text.length).sum < 1000000
/-- it ends, and in what -/
def wp {α : Type} (x : M α) (s : St) (Q : α → St → Prop) : Prop := match x s with
  | none => False
  | some (.ok a s') => Q a s'
  | some (.stop _ _) => True
section
variable {α β : Type} {x : M α} {s : St} {Q Q' : α → St → Prop} {f : α → M β} {Qb : β → St → Prop}
theorem wp_mono (h : wp x s Q) (hq : ∀ a s', Q a s' → Q' a s') : wp x s Q' := by
  unfold wp at h ⊢
  cases hx : x s with
  | none => rw [hx] at h; exact h
  | some r =>
    rw [hx] at h
    cases r with
    | ok a s' => exact hq a s' h
    | stop p l => trivial
theorem wp_call (h : wp x s Q) (hq : ∀ a s', Q a s' → wp (f a) s' Qb) : wp (bnd x f) s Qb := by
  unfold wp at h
  show wp (bnd x f) s Qb
  unfold wp bnd
  cases hx : x s with
  | none => rw [hx] at h; exact h
  | some r =>
    rw [hx] at h
    cases r with
    | ok a s' => exact hq a s' h
    | stop p l => trivial
theorem wp_ret {a : α} (h : Q a s) : wp (ret a) s Q := h
theorem wp_assoc {γ : Type} {g : β → M γ} {Qc : γ → St → Prop} (h : wp (bnd x fun a => bnd (f a) g) s Qc) : wp (bnd (bnd x f) g) s Qc := by
  rw [bnd_assoc]
  exact h
end
variable {L : List Tk} {nameB : B → Bool} {okp : Int → Prop}
theorem Tks.at_ (T : Tks L nameB okp) {i : Nat} (h : i < L.length) : ∃ t, L[i]? = some t := ⟨_, List.getElem?_eq_getElem h⟩
theorem Tks.next (T : Tks L nameB okp) {i : Nat} {t : Tk} (ht : L[i]? = some t) (hk : t.kind ≠ 8) : i + 1 < L.length := by
  have h1 := (List.getElem?_eq_some_iff.1 ht).1
  have h2 := mt (T.fin i t ht).2 hk
  omega
theorem Tks.small (T : Tks L nameB okp) {i : Nat} {t : Tk} (h : L[i]? = some t) : t.text.length < 1000000 := by
  have h1 := T.txt
  have key : ∀ (l : List Tk) (t : Tk), t ∈ l → t.text.length ≤ (l.map fun t => t.text.length).sum := by
    intro l
    induction l with
    | nil => intro t h; cases h
    | cons a r ih =>
      intro t h
      rw [List.map_cons, List.sum_cons]
      rcases List.mem_cons.1 h with rfl | h
      · omega
      · have := ih t h
        omega
  have := key L t (List.mem_of_getElem? h)
  omega
theorem isB_kind {t : Tk} {ss : List B} (h : isB t ss = true) : t.kind = 4 := by
  unfold isB at h
  rw [Bool.and_eq_true, decide_eq_true_eq] at h
  exact h.1
theorem isB_8 {t : Tk} {ss : List B} (h : isB t ss = true) : t.kind ≠ 8 := by rw [isB_kind h]; decide
/-- how far it went: from where, how much deeper, who is nobody's kid, how many nodes are still free, how many tokens were taken -/
structure W (L : List Tk) (nameB : B → Bool) (okp : Int → Prop) (s0 : St) (d : Nat) (R : List Int) (c e : Nat) (s : St) : Prop where
  le : s0.at_ + e ≤ s.at_
  lt : s.at_ < L.length
  cnt : s.out.length + 2 * s0.at_ + c ≤ s0.out.length + 2 * s.at_
  cap : s0.out.length ≤ 2 * s0.at_
  deep : s.deep = s0.deep + d
  hd : s.deep ≤ 60
  fors : s.fors = s0.fors
  hf : s0.fors ≤ s0.at_
  defs : s.defs = s0.defs
  ext : Ext s0.out s.out
  fst : Fst nameB okp s.out R
section
variable {s0 s s2 : St} {d d2 c c2 e e2 : Nat} {R R2 : List Int} {α : Type} {Q : α → St → Prop} {x : B} {t : Tk}
theorem W.pre (w : W L nameB okp s0 d R c e s) : W L nameB okp s 0 R 0 0 s :=
  ⟨Nat.le_refl _, w.lt, Nat.le_refl _, by have := w.cnt; have := w.cap; omega, rfl, w.hd, rfl, by have := w.hf; have := w.fors; have := w.le; omega, rfl, Ext.same _, w.fst⟩
theorem W.call (w : W L nameB okp s0 d R c e s) (w2 : W L nameB okp s d2 R2 c2 e2 s2) : W L nameB okp s0 (d + d2) R2 (c + c2) (e + e2) s2 :=
  ⟨by have := w.le; have := w2.le; omega, w2.lt, by have := w.cnt; have := w2.cnt; omega, w.cap, by have := w.deep; have := w2.deep; omega, w2.hd, w2.fors.trans w.fors, w.hf, w2.defs.trans w.defs, w.ext.trans w2.ext, w2.fst⟩
theorem W.weak (w : W L nameB okp s0 d R c e s) (h1 : c2 ≤ c) (h2 : e2 ≤ e) : W L nameB okp s0 d R c2 e2 s :=
  ⟨by have := w.le; omega, w.lt, by have := w.cnt; omega, w.cap, w.deep, w.hd, w.fors, w.hf, w.defs, w.ext, w.fst⟩
theorem W.re (w : W L nameB okp s0 d R c e s) (h : R.Perm R2) : W L nameB okp s0 d R2 c e s := ⟨w.le, w.lt, w.cnt, w.cap, w.deep, w.hd, w.fors, w.hf, w.defs, w.ext, w.fst.re h⟩
theorem W.adv (w : W L nameB okp s0 d R c e s) (T : Tks L nameB okp) (ht : L[s.at_]? = some t) (hk : t.kind ≠ 8) : W L nameB okp s0 d R (c + 2) (e + 1) { s with at_ := s.at_ + 1 } :=
  ⟨by have := w.le; show s0.at_ + (e + 1) ≤ s.at_ + 1; omega, T.next ht hk, by have := w.cnt; show s.out.length + 2 * s0.at_ + (c + 2) ≤ s0.out.length + 2 * (s.at_ + 1); omega, w.cap, w.deep, w.hd, w.fors, w.hf, w.defs, w.ext, w.fst⟩
theorem fuel_lem {K A B e n r r' : Nat} (h1 : B + e ≤ A) (hn : A * K + r ≤ n + 1) (h : r' + 1 ≤ r + e * K) : B * K + r' ≤ n := by
  have h2 := Nat.mul_le_mul_right K h1
  rw [Nat.add_mul] at h2
  omega
/-- fuel that is left -/
theorem W.fuel {n r r' : Nat} (w : W L nameB okp s0 d R c e s) (hn : (L.length - s0.at_) * 2000000000000 + r ≤ n + 1) (h : r' + 1 ≤ r + e * 2000000000000) : (L.length - s.at_) * 2000000000000 + r' ≤ n := by
  have h1 := w.le
  have h2 := w.lt
  exact fuel_lem (by omega) hn h
theorem W.tokEx (w : W L nameB okp s0 d R c e s) (T : Tks L nameB okp) : ∃ t, L[s.at_]? = some t := T.at_ w.lt
theorem W.wpTok (w : W L nameB okp s0 d R c e s) (T : Tks L nameB okp) {f : Tk → M α} (h : ∀ t, L[s.at_]? = some t → wp (f t) s Q) : wp (bnd (tok L) f) s Q := by
  obtain ⟨t, ht⟩ := w.tokEx T
  have h1 := h t ht
  unfold wp bnd tok at *
  rw [ht]
  exact h1
theorem tok_eq' (ht : L[s.at_]? = some t) : tok L s = some (.ok t s) := by unfold tok; rw [ht]
theorem W.wpIs (w : W L nameB okp s0 d R c e s) (T : Tks L nameB okp) {ss : List B} {f : Bool → M α} (h : ∀ t, L[s.at_]? = some t → wp (f (isB t ss)) s Q) : wp (bnd (is_ L ss) f) s Q := by
  obtain ⟨t, ht⟩ := w.tokEx T
  have h1 := h t ht
  unfold is_
  refine wp_assoc ?_
  exact w.wpTok T fun t' ht' => by rw [ht] at ht'; cases ht'; exact h1
theorem W.wpAdv (w : W L nameB okp s0 d R c e s) (T : Tks L nameB okp) (ht : L[s.at_]? = some t) (hk : t.kind ≠ 8) {f : Unit → M α} (h : W L nameB okp s0 d R (c + 2) (e + 1) { s with at_ := s.at_ + 1 } → wp (f ()) { s with at_ := s.at_ + 1 } Q) : wp (bnd Go.Pa.adv f) s Q := h (w.adv T ht hk)
theorem W.wpTake (w : W L nameB okp s0 d R c e s) (T : Tks L nameB okp) {f : Bool → M α} (h1 : ∀ t, L[s.at_]? = some t → isB t [x] = true → W L nameB okp s0 d R (c + 2) (e + 1) { s with at_ := s.at_ + 1 } → wp (f true) { s with at_ := s.at_ + 1 } Q)
    (h2 : ∀ t, L[s.at_]? = some t → isB t [x] = false → wp (f false) s Q) : wp (bnd (take L x) f) s Q := by
  unfold take
  refine wp_assoc (w.wpIs T fun t ht => ?_)
  cases hb : isB t [x] with
  | true => exact h1 t ht hb (w.adv T ht (isB_8 hb))
  | false => exact h2 t ht hb
theorem W.wpBad (w : W L nameB okp s0 d R c e s) (T : Tks L nameB okp) : wp (bad L) s Q := by
  unfold bad
  exact w.wpTok T fun t ht => trivial
theorem W.wpBadB {β : Type} (w : W L nameB okp s0 d R c e s) (T : Tks L nameB okp) {f : β → M α} : wp (bnd (bad L) f) s Q := by
  unfold bad
  exact wp_assoc (w.wpTok T fun t ht => trivial)
theorem W.wpMust (w : W L nameB okp s0 d R c e s) (T : Tks L nameB okp) {f : Int → M α} (h : ∀ t, L[s.at_]? = some t → isB t [x] = true → okp t.pos → W L nameB okp s0 d R (c + 2) (e + 1) { s with at_ := s.at_ + 1 } → wp (f t.pos) { s with at_ := s.at_ + 1 } Q) : wp (bnd (must L x) f) s Q := by
  unfold must
  refine wp_assoc (w.wpTok T fun t ht => ?_)
  refine wp_assoc (w.wpTake T (fun t2 ht2 hb w2 => ?_) fun t2 ht2 hb => ?_)
  · rw [ht] at ht2; cases ht2
    exact h t ht hb (T.place t (List.mem_of_getElem? ht)) w2
  · exact w.wpBadB T
theorem W.wpKinds (w : W L nameB okp s0 d R c e s) (T : Tks L nameB okp) {k : Int} (hk : k ≠ 8) {f : B × Int → M α} (h : ∀ t, L[s.at_]? = some t → t.kind = k → okp t.pos → W L nameB okp s0 d R (c + 2) (e + 1) { s with at_ := s.at_ + 1 } → wp (f (t.text, t.pos)) { s with at_ := s.at_ + 1 } Q) : wp (bnd (kinds L k) f) s Q := by
  unfold kinds
  refine wp_assoc (w.wpTok T fun t ht => ?_)
  by_cases h1 : t.kind ≠ k
  · rw [if_pos h1]
    exact w.wpBadB T
  · have h2 : t.kind = k := Decidable.of_not_not h1
    rw [if_neg h1, if_pos hk]
    exact h t ht h2 (T.place t (List.mem_of_getElem? ht)) (w.adv T ht (by rw [h2]; exact hk))
theorem W.wpIn (w : W L nameB okp s0 d R c e s) {pos : Int} {f : Unit → M α} (h : W L nameB okp s0 (d + 1) R c e { s with deep := s.deep + 1 } → wp (f ()) { s with deep := s.deep + 1 } Q) : wp (bnd (inn pos) f) s Q := by
  by_cases hd : 60 ≤ s.deep
  · unfold wp bnd inn
    rw [if_pos hd]
    trivial
  · have h1 := h ⟨w.le, w.lt, w.cnt, w.cap, by show s.deep + 1 = s0.deep + (d + 1); have := w.deep; omega, by show s.deep + 1 ≤ 60; omega, w.fors, w.hf, w.defs, w.ext, w.fst⟩
    unfold wp bnd inn at *
    rw [if_neg hd]
    exact h1
theorem W.wpOut (w : W L nameB okp s0 (d + 1) R c e s) {f : Unit → M α} (h : ∀ k, W L nameB okp s0 d R c e { s with deep := k } → wp (f ()) { s with deep := k } Q) : wp (bnd outn f) s Q := by
  have h1 := w.deep
  obtain ⟨k, hk⟩ : ∃ k, s.deep = k + 1 := ⟨s0.deep + d, by omega⟩
  have h0 := w.hd
  have h2 := h k ⟨w.le, w.lt, w.cnt, w.cap, by show k = s0.deep + d; omega, by show k ≤ 60; omega, w.fors, w.hf, w.defs, w.ext, w.fst⟩
  unfold wp bnd outn at *
  rw [hk]
  dsimp only
  rw [if_pos (show k < 1000000 by omega)]
  exact h2
theorem W.small (w : W L nameB okp s0 d R c e s) (T : Tks L nameB okp) : s.out.length < 1000000 := by
  have := w.cnt
  have := w.cap
  have := w.lt
  have := T.len
  omega
theorem W.put (w : W L nameB okp s0 d R (c + 1) e s) {ks : List Int} (hp : R.Perm (R2 ++ ks)) {op pos : Int} (hf : Fit nameB s.out op x ks) (ho : okp pos) (hx : x.length < 1000000) : W L nameB okp s0 d (R2 ++ [(s.out.length : Int)]) c e { s with out := s.out ++ [⟨op, 0, pos, x, ks⟩] } :=
  ⟨w.le, w.lt, by show (s.out ++ [_]).length + 2 * s0.at_ + c ≤ s0.out.length + 2 * s.at_; rw [List.length_append, List.length_singleton]; have := w.cnt; omega, w.cap, w.deep, w.hd, w.fors, w.hf, w.defs, w.ext.trans (Ext.snoc _ _), w.fst.node hp hf ho hx⟩
theorem W.wpNode (w : W L nameB okp s0 d R (c + 1) e s) (T : Tks L nameB okp) {ks : List Int} (hp : R.Perm (R2 ++ ks)) {op pos : Int} (hf : Fit nameB s.out op x ks) (ho : okp pos) {f : Int → M α}
    (h : W L nameB okp s0 d (R2 ++ [(s.out.length : Int)]) c e { s with out := s.out ++ [⟨op, 0, pos, x, ks⟩] } → Ext s.out (s.out ++ [⟨op, 0, pos, x, ks⟩]) → At (s.out ++ [⟨op, 0, pos, x, ks⟩]) (s.out.length : Int) (fun o x' ks' => o = op ∧ x' = x ∧ ks' = ks) → wp (f (s.out.length : Int)) { s with out := s.out ++ [⟨op, 0, pos, x, ks⟩] } Q) (hx : x.length < 1000000 := by decide) : wp (bnd (node op pos x ks) f) s Q := by
  have h1 := h (w.put hp hf ho hx) (Ext.snoc _ _) (At.new _ _ ⟨rfl, rfl, rfl⟩)
  unfold wp bnd node at *
  rw [if_pos (w.small T)]
  exact h1
theorem W.end_ (w : W L nameB okp s0 d R (c + 1) e s) (T : Tks L nameB okp) {ks : List Int} (hp : R.Perm (R2 ++ ks)) {op pos : Int} (hf : Fit nameB s.out op x ks) (ho : okp pos) {Q : Int → St → Prop}
    (h : ∀ s', W L nameB okp s0 d (R2 ++ [(s.out.length : Int)]) c e s' → Ext s.out s'.out → At s'.out (s.out.length : Int) (fun o x' ks' => o = op ∧ x' = x ∧ ks' = ks) → Q (s.out.length : Int) s') (hx : x.length < 1000000 := by decide) : wp (node op pos x ks) s Q := by
  have h1 := h _ (w.put hp hf ho hx) (Ext.snoc _ _) (At.new _ _ ⟨rfl, rfl, rfl⟩)
  unfold wp node
  rw [if_pos (w.small T)]
  exact h1
theorem W.wpGrow {γ : Type} (w : W L nameB okp s0 d R c e s) (T : Tks L nameB okp) {l : List γ} (hl : l.length ≤ s.out.length) {x : M α} (h : wp x s Q) : wp (grow l x) s Q := by
  have := w.small T
  unfold wp grow at *
  rw [if_pos (by omega)]
  exact h
theorem W.wpNodeAt (_ : W L nameB okp s0 d R c e s) {k : Int} {y : Nd} (h0 : 0 ≤ k) (hy : s.out[k.toNat]? = some y) {f : Nd → M α} (h : wp (f y) s Q) : wp (bnd (nodeAt k) f) s Q := by
  unfold wp bnd nodeAt at *
  rw [if_neg (by omega), hy]
  exact h
theorem W.wpSetPos (w : W L nameB okp s0 d R c e s) {k pos : Int} (ho : okp pos) {y : Nd} (h0 : 0 ≤ k) (hy : s.out[k.toNat]? = some y) {f : Unit → M α}
    (h : W L nameB okp s0 d R c e { s with out := s.out.set k.toNat { y with pos := pos } } → Ext s.out (s.out.set k.toNat { y with pos := pos }) → wp (f ()) { s with out := s.out.set k.toNat { y with pos := pos } } Q) : wp (bnd (setPos k pos) f) s Q := by
  have h1 := h ⟨w.le, w.lt, by show (s.out.set k.toNat { y with pos := pos }).length + _ + _ ≤ _; rw [List.length_set]; exact w.cnt, w.cap, w.deep, w.hd, w.fors, w.hf, w.defs, w.ext.trans (Ext.setPos hy pos), w.fst.setPos hy ho⟩ (Ext.setPos hy pos)
  unfold wp bnd setPos at *
  rw [if_neg (by omega), hy]
  exact h1
/-- with other loops and defs for a while -/
theorem W.other (w : W L nameB okp s0 d R c e s) {k : Nat} {b : Bool} (hk : k ≤ s.at_) : W L nameB okp { s with fors := k, defs := b } 0 R 0 0 { s with fors := k, defs := b } :=
  ⟨Nat.le_refl _, w.lt, Nat.le_refl _, by show s.out.length ≤ 2 * s.at_; have := w.cnt; have := w.cap; omega, rfl, w.hd, rfl, hk, rfl, Ext.same _, w.fst⟩
theorem W.back (w : W L nameB okp s0 d R c e s) {k : Nat} {b : Bool} (w2 : W L nameB okp { s with fors := k, defs := b } d2 R2 c2 e2 s2) : W L nameB okp s0 (d + d2) R2 (c + c2) (e + e2) { s2 with fors := s.fors, defs := s.defs } :=
  ⟨by have := w.le; have h2 : s.at_ + e2 ≤ s2.at_ := w2.le; show s0.at_ + (e + e2) ≤ s2.at_; omega, w2.lt, by have := w.cnt; have h2 : s2.out.length + 2 * s.at_ + c2 ≤ s.out.length + 2 * s2.at_ := w2.cnt; show s2.out.length + 2 * s0.at_ + (c + c2) ≤ s0.out.length + 2 * s2.at_; omega, w.cap, by have := w.deep; have h2 : s2.deep = s.deep + d2 := w2.deep; show s2.deep = s0.deep + (d + d2); omega, w2.hd, w.fors, w.hf, w.defs, w.ext.trans w2.ext, w2.fst⟩
end
end Go.Pa
