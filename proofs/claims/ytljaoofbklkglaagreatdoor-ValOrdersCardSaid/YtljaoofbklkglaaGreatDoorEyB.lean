/-
  Proved here: the steps of a machine of mine, each handing on what it yields, and what they come to.
-/
import Derived.Test.YtljaoofbklkglaaGreatDoorTok
namespace Go.EY
open Go.SX Go.EX Go.RowKit
/-! looking up -/
noncomputable def HT.getK (t : HT) (k : MI → R) (e : R) : Nat → R :=
  HT.rec (motive := fun _ => Nat → R) (fun _ => e) (fun v _ _ ihl ihr i => Bool.rec (motive := fun _ => R) (Bool.rec (motive := fun _ => R) (ihr (Nat.div i 2)) (ihl (Nat.div i 2)) (Nat.beq (Nat.mod i 2) 0)) (Option.rec e k v) (Nat.beq i 1)) t
theorem bad_ok {c : Nat} {r : AR} {T' : HT} {n' : Nat} {Z : Prop} (h : R.bad c = .ok r T' n') : Z := by cases h
theorem HT.getK_inv {k : MI → R} {e : R} {r : AR} {T' : HT} {n' : Nat} : ∀ {t : HT} {i : Nat}, t.getK k e i = .ok r T' n' → (∃ m, t.get i = some m ∧ k m = .ok r T' n') ∨ (t.get i = none ∧ e = .ok r T' n') := by
  intro t
  induction t with
  | nil => intro i h; exact .inr ⟨rfl, h⟩
  | node v l r ihl ihr =>
    intro i h
    unfold HT.get
    have h' : (Bool.rec (motive := fun _ => R) (Bool.rec (motive := fun _ => R) (r.getK k e (Nat.div i 2)) (l.getK k e (Nat.div i 2)) (Nat.beq (Nat.mod i 2) 0)) (Option.rec e k v) (Nat.beq i 1)) = _ := h
    cases h1 : Nat.beq i 1 with
    | true =>
      rw [h1] at h'
      cases v with
      | none => exact .inr ⟨rfl, h'⟩
      | some m => exact .inl ⟨m, rfl, h'⟩
    | false =>
      rw [h1] at h'
      cases hm : Nat.beq (Nat.mod i 2) 0 with
      | true => rw [hm] at h'; exact ihl h'
      | false => rw [hm] at h'; exact ihr h'
noncomputable def VT.getK (t : VT) (k : AV → R) (e : R) : Nat → R :=
  VT.rec (motive := fun _ => Nat → R) (fun _ => e) (fun v _ _ ihl ihr i => Bool.rec (motive := fun _ => R) (Bool.rec (motive := fun _ => R) (ihr (Nat.div i 2)) (ihl (Nat.div i 2)) (Nat.beq (Nat.mod i 2) 0)) (Option.rec e k v) (Nat.beq i 1)) t
theorem VT.getK_inv {k : AV → R} {e : R} {r : AR} {T' : HT} {n' : Nat} : ∀ {t : VT} {i : Nat}, t.getK k e i = .ok r T' n' → (∃ m, t.get i = some m ∧ k m = .ok r T' n') ∨ (t.get i = none ∧ e = .ok r T' n') := by
  intro t
  induction t with
  | nil => intro i h; exact .inr ⟨rfl, h⟩
  | node v l r ihl ihr =>
    intro i h
    unfold VT.get
    have h' : (Bool.rec (motive := fun _ => R) (Bool.rec (motive := fun _ => R) (r.getK k e (Nat.div i 2)) (l.getK k e (Nat.div i 2)) (Nat.beq (Nat.mod i 2) 0)) (Option.rec e k v) (Nat.beq i 1)) = _ := h
    cases h1 : Nat.beq i 1 with
    | true =>
      rw [h1] at h'
      cases v with
      | none => exact .inr ⟨rfl, h'⟩
      | some m => exact .inl ⟨m, rfl, h'⟩
    | false =>
      rw [h1] at h'
      cases hm : Nat.beq (Nat.mod i 2) 0 with
      | true => rw [hm] at h'; exact ihl h'
      | false => rw [hm] at h'; exact ihr h'
/-! laying down -/
noncomputable def HT.mkK (f : Nat) : Nat → MI → (HT → R) → R :=
  Nat.rec (motive := fun _ => Nat → MI → (HT → R) → R) (fun _ _ k => k .nil) (fun _ ih i x k => Bool.rec (motive := fun _ => R) (Bool.rec (motive := fun _ => R) (ih (Nat.div i 2) x (fun r => k (.node none .nil r))) (ih (Nat.div i 2) x (fun l => k (.node none l .nil))) (Nat.beq (Nat.mod i 2) 0)) (k (.node (some x) .nil .nil)) (Nat.beq i 1)) f
theorem HT.mkK_eq : ∀ (f i : Nat) (x : MI) (k : HT → R), HT.mkK f i x k = k (HT.mk f i x) := by
  intro f
  induction f with
  | zero => intro i x k; rfl
  | succ f ih =>
    intro i x k
    show (Bool.rec (motive := fun _ => R) (Bool.rec (motive := fun _ => R) (HT.mkK f _ x _) (HT.mkK f _ x _) (Nat.beq (Nat.mod i 2) 0)) _ (Nat.beq i 1)) = _
    unfold HT.mk
    cases Nat.beq i 1 <;> cases Nat.beq (Nat.mod i 2) 0 <;> simp [ih]
noncomputable def HT.insK (t : HT) : Nat → MI → (HT → R) → R :=
  HT.rec (motive := fun _ => Nat → MI → (HT → R) → R) (fun i x k => HT.mkK i i x k) (fun v l r ihl ihr i x k => Bool.rec (motive := fun _ => R) (Bool.rec (motive := fun _ => R) (ihr (Nat.div i 2) x (fun r' => k (.node v l r'))) (ihl (Nat.div i 2) x (fun l' => k (.node v l' r))) (Nat.beq (Nat.mod i 2) 0)) (k (.node (some x) l r)) (Nat.beq i 1)) t
theorem HT.insK_eq : ∀ (t : HT) (i : Nat) (x : MI) (k : HT → R), t.insK i x k = k (t.ins i x) := by
  intro t
  induction t with
  | nil => intro i x k; exact HT.mkK_eq i i x k
  | node v l r ihl ihr =>
    intro i x k
    show (Bool.rec (motive := fun _ => R) (Bool.rec (motive := fun _ => R) (r.insK _ x _) (l.insK _ x _) (Nat.beq (Nat.mod i 2) 0)) _ (Nat.beq i 1)) = _
    unfold HT.ins
    cases Nat.beq i 1 <;> cases Nat.beq (Nat.mod i 2) 0 <;> simp [ihl, ihr]
noncomputable def HT.delK (t : HT) : Nat → (HT → R) → R :=
  HT.rec (motive := fun _ => Nat → (HT → R) → R) (fun _ k => k .nil) (fun v l r ihl ihr i k => Bool.rec (motive := fun _ => R) (Bool.rec (motive := fun _ => R) (ihr (Nat.div i 2) (fun r' => k (.node v l r'))) (ihl (Nat.div i 2) (fun l' => k (.node v l' r))) (Nat.beq (Nat.mod i 2) 0)) (k (.node none l r)) (Nat.beq i 1)) t
theorem HT.delK_eq : ∀ (t : HT) (i : Nat) (k : HT → R), t.delK i k = k (t.del i) := by
  intro t
  induction t with
  | nil => intro i k; rfl
  | node v l r ihl ihr =>
    intro i k
    show (Bool.rec (motive := fun _ => R) (Bool.rec (motive := fun _ => R) (r.delK _ _) (l.delK _ _) (Nat.beq (Nat.mod i 2) 0)) _ (Nat.beq i 1)) = _
    unfold HT.del
    cases Nat.beq i 1 <;> cases Nat.beq (Nat.mod i 2) 0 <;> simp [ihl, ihr]
noncomputable def VT.mkK (f : Nat) : Nat → AV → (VT → R) → R :=
  Nat.rec (motive := fun _ => Nat → AV → (VT → R) → R) (fun _ _ k => k .nil) (fun _ ih i x k => Bool.rec (motive := fun _ => R) (Bool.rec (motive := fun _ => R) (ih (Nat.div i 2) x (fun r => k (.node none .nil r))) (ih (Nat.div i 2) x (fun l => k (.node none l .nil))) (Nat.beq (Nat.mod i 2) 0)) (k (.node (some x) .nil .nil)) (Nat.beq i 1)) f
theorem VT.mkK_eq : ∀ (f i : Nat) (x : AV) (k : VT → R), VT.mkK f i x k = k (VT.mk f i x) := by
  intro f
  induction f with
  | zero => intro i x k; rfl
  | succ f ih =>
    intro i x k
    show (Bool.rec (motive := fun _ => R) (Bool.rec (motive := fun _ => R) (VT.mkK f _ x _) (VT.mkK f _ x _) (Nat.beq (Nat.mod i 2) 0)) _ (Nat.beq i 1)) = _
    unfold VT.mk
    cases Nat.beq i 1 <;> cases Nat.beq (Nat.mod i 2) 0 <;> simp [ih]
noncomputable def VT.insK (t : VT) : Nat → AV → (VT → R) → R :=
  VT.rec (motive := fun _ => Nat → AV → (VT → R) → R) (fun i x k => VT.mkK i i x k) (fun v l r ihl ihr i x k => Bool.rec (motive := fun _ => R) (Bool.rec (motive := fun _ => R) (ihr (Nat.div i 2) x (fun r' => k (.node v l r'))) (ihl (Nat.div i 2) x (fun l' => k (.node v l' r))) (Nat.beq (Nat.mod i 2) 0)) (k (.node (some x) l r)) (Nat.beq i 1)) t
theorem VT.insK_eq : ∀ (t : VT) (i : Nat) (x : AV) (k : VT → R), t.insK i x k = k (t.ins i x) := by
  intro t
  induction t with
  | nil => intro i x k; exact VT.mkK_eq i i x k
  | node v l r ihl ihr =>
    intro i x k
    show (Bool.rec (motive := fun _ => R) (Bool.rec (motive := fun _ => R) (r.insK _ x _) (l.insK _ x _) (Nat.beq (Nat.mod i 2) 0)) _ (Nat.beq i 1)) = _
    unfold VT.ins
    cases Nat.beq i 1 <;> cases Nat.beq (Nat.mod i 2) 0 <;> simp [ihl, ihr]
/-- a value that is laid where one lies -/
noncomputable def VT.updK (c : Nat) (t : VT) : Nat → AV → (VT → R) → R :=
  VT.rec (motive := fun _ => Nat → AV → (VT → R) → R) (fun _ _ _ => .bad c) (fun v l r ihl ihr i x k => Bool.rec (motive := fun _ => R) (Bool.rec (motive := fun _ => R) (ihr (Nat.div i 2) x (fun r' => k (.node v l r'))) (ihl (Nat.div i 2) x (fun l' => k (.node v l' r))) (Nat.beq (Nat.mod i 2) 0)) (Option.rec (.bad c) (fun _ => k (.node (some x) l r)) v) (Nat.beq i 1)) t
theorem VT.updK_inv {c : Nat} {r0 : AR} {T' : HT} {n' : Nat} : ∀ {t : VT} {i : Nat} {x : AV} {k : VT → R}, t.updK c i x k = .ok r0 T' n' → ∃ y, t.get i = some y ∧ k (t.ins i x) = .ok r0 T' n' := by
  intro t
  induction t with
  | nil => intro i x k h; cases h
  | node v l r ihl ihr =>
    intro i x k h
    have h' : (Bool.rec (motive := fun _ => R) (Bool.rec (motive := fun _ => R) (r.updK c (Nat.div i 2) x (fun r' => k (.node v l r'))) (l.updK c (Nat.div i 2) x (fun l' => k (.node v l' r))) (Nat.beq (Nat.mod i 2) 0)) (Option.rec (.bad c) (fun _ => k (.node (some x) l r)) v) (Nat.beq i 1)) = _ := h
    unfold VT.get VT.ins
    cases h1 : Nat.beq i 1 with
    | true =>
      rw [h1] at h'
      cases v with
      | none => cases h'
      | some y => exact ⟨y, rfl, h'⟩
    | false =>
      rw [h1] at h'
      cases hm : Nat.beq (Nat.mod i 2) 0 with
      | true => rw [hm] at h'; exact ihl h'
      | false => rw [hm] at h'; exact ihr h'
/-! lists -/
noncomputable def lgetK (l : List AV) (k : AV → R) (e : R) : Nat → R :=
  List.rec (motive := fun _ => Nat → R) (fun _ => e) (fun x _ ih i => Bool.rec (motive := fun _ => R) (ih (Nat.pred i)) (k x) (Nat.beq i 0)) l
theorem lgetK_inv {k : AV → R} {c : Nat} {r : AR} {T' : HT} {n' : Nat} : ∀ {l : List AV} {i : Nat}, lgetK l k (.bad c) i = .ok r T' n' → ∃ v, l[i]? = some v ∧ k v = .ok r T' n' := by
  intro l
  induction l with
  | nil => intro i h; cases h
  | cons x t ih =>
    intro i h
    have h' : (Bool.rec (motive := fun _ => R) (lgetK t k (.bad c) (Nat.pred i)) (k x) (Nat.beq i 0)) = _ := h
    cases i with
    | zero => exact ⟨x, rfl, h'⟩
    | succ i =>
      obtain ⟨v, h1, h2⟩ := ih (i := i) h'
      exact ⟨v, by simpa using h1, h2⟩
noncomputable def lsetK (c : Nat) (l : List AV) : Nat → AV → (List AV → R) → R :=
  List.rec (motive := fun _ => Nat → AV → (List AV → R) → R) (fun _ _ _ => .bad c) (fun x t ih i v k => Bool.rec (motive := fun _ => R) (ih (Nat.pred i) v (fun t' => k (x :: t'))) (k (v :: t)) (Nat.beq i 0)) l
theorem lsetK_inv {c : Nat} {r : AR} {T' : HT} {n' : Nat} : ∀ {l : List AV} {i : Nat} {v : AV} {k : List AV → R}, lsetK c l i v k = .ok r T' n' → i < l.length ∧ k (l.set i v) = .ok r T' n' := by
  intro l
  induction l with
  | nil => intro i v k h; cases h
  | cons x t ih =>
    intro i v k h
    have h' : (Bool.rec (motive := fun _ => R) (lsetK c t (Nat.pred i) v (fun t' => k (x :: t'))) (k (v :: t)) (Nat.beq i 0)) = _ := h
    cases i with
    | zero => exact ⟨by simp, h'⟩
    | succ i =>
      obtain ⟨h1, h2⟩ := ih (i := i) h'
      exact ⟨by simp; omega, by simpa using h2⟩
/-! items -/
def MI.cell : MI → Nat → Option AV
  | .obj cs _, i => cs[i]?
  | .row _ _ _ vt, i => vt.get (i + 1)
  | .mp _ _ _ _, _ => none
theorem MRel.cell {m : MI} {it : AI} (h : MRel m it) {i : Nat} {v : AV} (hv : m.cell i = some v) : it.cells[i]? = some v := by
  cases m with
  | obj cs T => obtain rfl := h; exact hv
  | row n e s vt => obtain ⟨cs, rfl, h2⟩ := h; exact h2 i v hv
  | mp ks vs bs ck => cases hv
noncomputable def MI.cellK (c : Nat) (m : MI) (off : Nat) (k : AV → R) : R :=
  MI.rec (fun cs _ => lgetK cs k (.bad c) off) (fun _ _ _ vt => vt.getK k (.bad c) (Nat.add off 1)) (fun _ _ _ _ => .bad c) m
theorem MI.cellK_inv {c : Nat} {m : MI} {off : Nat} {k : AV → R} {r : AR} {T' : HT} {n' : Nat} (h : m.cellK c off k = .ok r T' n') : ∃ v, m.cell off = some v ∧ k v = .ok r T' n' := by
  cases m with
  | obj cs T => exact lgetK_inv h
  | row n e s vt =>
    rcases VT.getK_inv (h : vt.getK k (.bad c) (off + 1) = _) with ⟨v, h1, h2⟩ | ⟨_, h2⟩
    · exact ⟨v, h1, h2⟩
    · cases h2
  | mp ks vs bs ck => cases h
/-- so many cells from a place on -/
def MI.cells (m : MI) : Nat → Nat → Option (List AV)
  | _, 0 => some []
  | off, n + 1 => match m.cell off with
    | some v => (m.cells (off + 1) n).map fun l => v :: l
    | none => none
noncomputable def MI.cellsK (c : Nat) (m : MI) (n : Nat) : Nat → (List AV → R) → R :=
  Nat.rec (motive := fun _ => Nat → (List AV → R) → R) (fun _ k => k []) (fun _ ih off k => m.cellK c off fun v => ih (Nat.add off 1) fun l => k (v :: l)) n
theorem MI.cellsK_inv {c : Nat} {m : MI} {r : AR} {T' : HT} {n' : Nat} : ∀ {n off : Nat} {k : List AV → R}, m.cellsK c n off k = .ok r T' n' → ∃ l, m.cells off n = some l ∧ k l = .ok r T' n' := by
  intro n
  induction n with
  | zero => intro off k h; exact ⟨[], rfl, h⟩
  | succ n ih =>
    intro off k h
    obtain ⟨v, h1, h2⟩ := MI.cellK_inv (h : m.cellK c off (fun v => m.cellsK c n (off + 1) fun l => k (v :: l)) = _)
    obtain ⟨l, h3, h4⟩ := ih h2
    exact ⟨v :: l, by unfold MI.cells; rw [h1]; simp [h3], h4⟩
theorem MI.cells_it {m : MI} {it : AI} (h : MRel m it) : ∀ {n off : Nat} {l : List AV}, m.cells off n = some l → (it.cells.drop off).take n = l ∧ l.length = n := by
  intro n
  induction n with
  | zero => intro off l hl; cases hl; simp
  | succ n ih =>
    intro off l hl
    unfold MI.cells at hl
    cases hc : m.cell off with
    | none => rw [hc] at hl; cases hl
    | some v =>
      rw [hc] at hl
      cases hr : m.cells (off + 1) n with
      | none => rw [hr] at hl; cases hl
      | some t =>
        rw [hr] at hl; cases hl
        obtain ⟨e1, e2⟩ := ih hr
        have h1 := h.cell hc
        have hlt := (List.getElem?_eq_some_iff.1 h1).1
        have h2 := (List.getElem?_eq_some_iff.1 h1).2
        rw [List.drop_eq_getElem_cons hlt, List.take_succ_cons, h2, e1]
        exact ⟨rfl, by simp [e2]⟩
/-! looking up, in what is owned and what may be read -/
def roGet : List HT → Nat → Option MI
  | [], _ => none
  | t :: r, id => match t.get id with
    | some m => some m
    | none => roGet r id
def lookT (T : HT) (ro : List HT) (id : Nat) : Option MI :=
  match T.get id with
  | some m => some m
  | none => roGet ro id
noncomputable def roK (ro : List HT) (id : Nat) (k : MI → R) (e : R) : R := List.rec (motive := fun _ => R) e (fun t _ ih => t.getK k ih id) ro
noncomputable def lookK (T : HT) (ro : List HT) (id : Nat) (k : MI → R) (e : R) : R := T.getK k (roK ro id k e) id
theorem lookK_inv {T : HT} {ro : List HT} {id c : Nat} {k : MI → R} {r : AR} {T' : HT} {n' : Nat} (h : lookK T ro id k (.bad c) = .ok r T' n') : ∃ m, lookT T ro id = some m ∧ k m = .ok r T' n' := by
  unfold lookT
  rcases HT.getK_inv (h : T.getK k _ id = _) with ⟨m, h1, h2⟩ | ⟨h1, h2⟩
  · exact ⟨m, by rw [h1], h2⟩
  · rw [h1]
    have key : ∀ (ro : List HT), roK ro id k (.bad c) = .ok r T' n' → ∃ m, roGet ro id = some m ∧ k m = .ok r T' n' := by
      intro ro
      induction ro with
      | nil => intro h; cases h
      | cons t ro ih =>
        intro h
        rcases HT.getK_inv (h : t.getK k (roK ro id k (.bad c)) id = _) with ⟨m, e1, e2⟩ | ⟨e1, e2⟩
        · exact ⟨m, by unfold roGet; rw [e1], e2⟩
        · obtain ⟨m, e3, e4⟩ := ih e2
          exact ⟨m, by unfold roGet; rw [e1]; exact e3, e4⟩
    exact key ro h2
def ROT (w0 : World) (base : Nat) (ρ : Rho) (ro : List HT) : Prop :=
  ∀ id m, roGet ro id = some m → ∃ p it us, rat ρ.blk id = some p ∧ MRel m it ∧ instL ρ it.cells = some us ∧ p.1 < base ∧ (∀ off u, us[off]? = some u → w0.cell? ⟨p.1, off, none⟩ = some u) ∧ (∀ n e s cs, it = .row n e s cs → n ≤ p.2) ∧ (∀ ks vs bs ck, it = .mp ks vs bs ck → ∃ us xs, instL ρ ks = some us ∧ instL ρ vs = some xs ∧ w0.heap[p.1]? = some (.map (mkEs us xs bs).toArray ck))
/-- values that are not looked into: pointers to api's errors, each to one of its own -/
def OPQ0 (w0 : World) (base : Nat) (ρ : Rho) : Prop :=
  ∃ aE : Nat → Addr, (∀ i, i < 17 → ρ.opq i = .pointer (some (aE i))) ∧ (∀ i, i < 17 → (aE i).block < base ∧ ∃ c t, w0.heap[(aE i).block]? = some (.cells c t (0, 0))) ∧ ∀ i j, i < 17 → j < 17 → i ≠ j → aE i ≠ aE j
/-- .. and what else is named -/
def OPQ (w0 : World) (base : Nat) (E : List (Nat × AV)) (ρ : Rho) : Prop := OPQ0 w0 base ρ ∧ TKE w0 base E ρ.opq
theorem OPQ.ext {w0 : World} {base : Nat} {E : List (Nat × AV)} {ρ ρ' : Rho} (h : OPQ w0 base E ρ) (he : Ext ρ ρ') : OPQ w0 base E ρ' := by
  unfold OPQ OPQ0
  rw [he.opq]
  exact h
theorem OPQ.push {w0 w : World} {base : Nat} {E : List (Nat × AV)} {ρ : Rho} {its : List It} (h : OPQ w0 base E ρ) (hw : WA w0 base its w) : OPQ w w.heap.size E ρ := by
  obtain ⟨⟨aE, h1, h2, h3⟩, h4⟩ := h
  refine ⟨⟨aE, h1, fun i hi => ?_, h3⟩, h4.push hw⟩
  obtain ⟨e1, c, t, e2⟩ := h2 i hi
  exact ⟨Nat.lt_of_lt_of_le e1 hw.fits, c, t, (hw.below.block _ e1).trans e2⟩
theorem OPQ.mk0 {w0 : World} {base : Nat} {E : List (Nat × AV)} {ρ : Rho} (h : OPQ0 w0 base ρ) (he : (match E.getLast? with | some (_, .ptr _ _) => false | _ => true) = true) : OPQ w0 base E ρ := ⟨h, TKE.none he⟩
/-- what is known of the memory of a run -/
structure ST (w0 : World) (base : Nat) (E : List (Nat × AV)) (ρ0 ρ : Rho) (T : HT) (ro : List HT) (nx : Nat) (its : List It) : Prop where
  hp : ∃ hp, Sub T hp ∧ instH ρ hp = some its
  fresh : Fresh ρ nx
  ro : ROT w0 base ρ ro
  env : EE w0 base ρ E
  ext : Ext ρ0 ρ
  opq : OPQ w0 base E ρ
theorem ROT.ext {w0 : World} {base : Nat} {ρ ρ' : Rho} {ro : List HT} (h : ROT w0 base ρ ro) (he : Ext ρ ρ') : ROT w0 base ρ' ro := fun id m hm => by
  obtain ⟨p, it, us, h1, h2, h3, h4, h5, h6, h7⟩ := h id m hm
  refine ⟨p, it, us, he.blk _ _ h1, h2, instL_ext he _ _ h3, h4, h5, h6, fun ks vs bs ck e => ?_⟩
  obtain ⟨us, xs, g1, g2, g3⟩ := h7 ks vs bs ck e
  exact ⟨us, xs, instL_ext he _ _ g1, instL_ext he _ _ g2, g3⟩
section
variable {P : Program} {w0 : World} {base : Nat} {ρ0 ρ : Rho} {T : HT} {ro : List HT} {nx : Nat} {its : List It} {E : List (Nat × AV)} {af : AF} {l : Fr} {m : SX.Mode} {ops : Array Oper} {n : Nat} {D : List Deferred} {rest : List Oper} {o : Oper} {d : Nat}
theorem ST.look (hS : ST w0 base E ρ0 ρ T ro nx its) {id : Nat} {m : MI} (h : lookT T ro id = some m) :
    ∃ p it us, rat ρ.blk id = some p ∧ MRel m it ∧ instL ρ it.cells = some us ∧ (∀ w, WA w0 base its w → ∀ off u, us[off]? = some u → w.cell? ⟨p.1, off, none⟩ = some u) ∧ (∀ n e s cs, it = .row n e s cs → ∀ w, WA w0 base its w → n ≤ p.2) ∧ (∀ ks vs bs ck, it = .mp ks vs bs ck → ∃ us xs, instL ρ ks = some us ∧ instL ρ vs = some xs ∧ ∀ w, WA w0 base its w → w.heap[p.1]? = some (.map (mkEs us xs bs).toArray ck)) := by
  obtain ⟨hp, hs, hH⟩ := hS.hp
  unfold lookT at h
  cases hf : T.get id with
  | some q =>
    rw [hf] at h
    cases h
    obtain ⟨i, it, hfd, hm⟩ := hs id m hf
    obtain ⟨x, _, hx, hi⟩ := findA_ok hH hfd
    cases it with
    | obj cs T =>
      obtain ⟨p, us, h1, h2, rfl⟩ := instI_obj hi
      exact ⟨p, _, us, h1, hm, h2, fun w hw off u hu => hw.cell hx hu, (fun n e s cs h => by cases h), fun ks vs bs ck h => by cases h⟩
    | row n e s cs =>
      obtain ⟨p, us, h1, h2, rfl⟩ := instI_row hi
      refine ⟨p, _, us, h1, hm, h2, fun w hw off u hu => (hw.rowCell hx hu).1, fun n' e' s' cs' h w hw => ?_, fun ks vs bs ck h => by cases h⟩
      cases h
      exact (row_len (hw.get hx)).2
    | mp ks vs bs ck =>
      obtain ⟨p, us, xs, h1, h2, h3, rfl⟩ := instI_mp hi
      refine ⟨p, _, [], h1, hm, rfl, (fun w hw off u hu => by cases hu), (fun n e s cs h => by cases h), fun ks' vs' bs' ck' h => ?_⟩
      cases h
      exact ⟨us, xs, h2, h3, fun w hw => (hw.get hx).2⟩
  | none =>
    rw [hf] at h
    obtain ⟨p, it, us, h1, h2, h3, h4, h5, h6, h7⟩ := hS.ro id m h
    refine ⟨p, it, us, h1, h2, h3, fun w hw off u hu => hw.old (a := ⟨p.1, off, none⟩) h4 (h5 off u hu), (fun n e s cs h w hw => h6 n e s cs h), fun ks vs bs ck e => ?_⟩
    obtain ⟨us', xs, g1, g2, g3⟩ := h7 ks vs bs ck e
    exact ⟨us', xs, g1, g2, fun w hw => (hw.below.block _ h4).trans g3⟩
/-! frames and values -/
theorem FRel.cons {af : AF} (h : FRel ρ af l) {v : AV} {u : Value} (d : Nat) (hv : inst ρ v = some u) : FRel ρ ((d, v) :: af) ((d, u) :: l) := by
  intro i x hx
  by_cases hi : d = i
  · subst hi
    rw [getA_same] at hx
    cases hx
    exact ⟨u, get_cons_same _ _ _, hv⟩
  · rw [getA_ne _ _ hi] at hx
    obtain ⟨u', h1, h2⟩ := h i x hx
    exact ⟨u', by rw [get_cons_ne _ _ hi]; exact h1, h2⟩
def VAL (P : Program) (W : World → Prop) (ρ : Rho) (af : AF) (op : Op) (v : AV) : Prop :=
  ∀ l, FRel ρ af l → ∀ ty, ∃ u, inst ρ v = some u ∧ Y P l W op ty u
def LV (P : Program) (ops : Array Oper) (n : Nat) (D : List Deferred) (m : SX.Mode) (w0 : World) (base : Nat) (ρ : Rho) (its : List It) (af : AF) (rest : List Oper) : Prop :=
  ∀ l, FRel ρ af l → LX P ops n D m l (WA w0 base its) rest
theorem LV.step {v : AV} (hv : VAL P (WA w0 base its) ρ af o.op v) (hw : wantA ops af o.guard = some true) (hd : o.dst = some d) (hdn : Nat.blt d n = true)
    (hk : LV P ops n D m w0 base ρ its ((d, v) :: af) rest) : LV P ops n D m w0 base ρ its af (o :: rest) := fun l hf => by
  obtain ⟨u, h1, h2⟩ := hv l hf o.type
  exact LX.step1 (wantA_ok hf hw) h2 hd hdn (hk _ (FRel.cons hf d h1))
theorem LV.by {k : AV → R} {r : AR} {T' : HT} {n' : Nat} (h : ∃ v, k v = .ok r T' n' ∧ VAL P (WA w0 base its) ρ af o.op v) (hw : wantA ops af o.guard = some true) (hd : o.dst = some d) (hdn : Nat.blt d n = true)
    (hk : ∀ v, k v = .ok r T' n' → LV P ops n D m w0 base ρ its ((d, v) :: af) rest) : LV P ops n D m w0 base ρ its af (o :: rest) := by
  obtain ⟨v, h1, h2⟩ := h
  exact LV.step h2 hw hd hdn (hk v h1)
/-- an operation that its guard bars -/
theorem LV.skip (hw : wantA ops af o.guard = some false) (hd : o.dst = some d) (hdn : Nat.blt d n = true)
    (hk : LV P ops n D m w0 base ρ its ((d, .lit undef) :: af) rest) : LV P ops n D m w0 base ρ its af (o :: rest) := fun l hf =>
  LX.skip1 (wantA_ok hf hw) hd hdn (hk _ (FRel.cons hf d rfl))
variable {W : World → Prop}
theorem VAL.pure {op : Op} {v : AV} (h : pureA P af op = some v) : VAL P W ρ af op v := fun _ hf ty => pureA_ok hf h _ ty
theorem VAL.build {op : Op} {v : AV} (h : buildA P af op = some v) : VAL P W ρ af op v := fun _ hf ty => buildA_ok hf h _ ty
theorem VAL.move {x : Operand} {v : AV} (hx : evalA af x = some v) : VAL P W ρ af (.move x) v := VAL.pure hx
theorem VAL.assign {x : Operand} {v : AV} (hx : evalA af x = some v) : VAL P W ρ af (.assign x) v := VAL.pure hx
variable {r : AR} {T' : HT} {n' c : Nat} {k : AV → R} {x y : Operand} {a b : AV} {t t2 : TypeId}
/-! whole numbers -/
noncomputable def bin0 (P : Program) (op : BinOp) (t : TypeId) (x y : Operand) (c : Nat) (a b : AV) (k : AV → R) : R := Option.rec (.bad c) k (binA P op t x y a b)
theorem VAL.bin {op : BinOp} {v : AV} (h : binA P op t x y a b = some v) (hx : evalA af x = some a) (hy : evalA af y = some b) : VAL P W ρ af (.binOp op t x y t2) v :=
  VAL.pure (by show (evalA af x).bind (fun v => (evalA af y).bind fun w => binA P op t x y v w) = _; rw [hx, hy]; exact h)
theorem V.bin0 {op : BinOp} (h : bin0 P op t x y c a b k = .ok r T' n') (hx : evalA af x = some a) (hy : evalA af y = some b) : ∃ v, k v = .ok r T' n' ∧ VAL P W ρ af (.binOp op t x y t2) v := by
  unfold EY.bin0 at h
  cases hb : binA P op t x y a b with
  | none => rw [hb] at h; cases h
  | some v => rw [hb] at h; exact ⟨v, h, VAL.bin hb hx hy⟩
noncomputable def i64V (a : AV) : Option Nat :=
  AV.rec (motive_1 := fun _ => Option Nat) (motive_2 := fun _ => Unit) (fun v => Value.rec (motive_1 := fun _ => Option Nat) (motive_2 := fun _ => Unit) (motive_3 := fun _ => Unit) (fun _ => none) (fun kk z => IntKind.rec (motive := fun _ => Option Nat) none none none (Int.rec (motive := fun _ => Option Nat) (fun i => some i) (fun _ => none) z) none none none none kk) (fun _ _ => none) (fun _ _ _ => none) (fun _ => none) (fun _ => none) (fun _ _ _ => none) (fun _ => none) (fun _ => none) (fun _ _ _ _ _ => none) none (fun _ _ _ => none) none (fun _ _ => none) (fun _ _ => none) (fun _ _ => ()) () (fun _ _ _ _ => ()) v) (fun _ _ => none) (fun _ _ _ _ => none) (fun _ => none) (fun _ _ => none) (fun _ _ => none) (fun _ _ _ => none) (fun _ _ _ _ _ => none) (fun _ => none) () (fun _ _ _ _ => ()) a
theorem i64V_ok {i : Nat} (h : i64V a = some i) : a = .lit (.int .i64 (.ofNat i)) := by
  cases a with
  | lit v => cases v with
    | int kk z => cases kk with
      | i64 => cases z with
        | ofNat i => cases (h : some _ = some _); rfl
        | negSucc i => cases (h : (none : Option Nat) = some _)
      | _ => cases (h : (none : Option Nat) = some _)
    | _ => cases (h : (none : Option Nat) = some _)
  | _ => cases (h : (none : Option Nat) = some _)
noncomputable def u8V (a : AV) : Option Nat :=
  AV.rec (motive_1 := fun _ => Option Nat) (motive_2 := fun _ => Unit) (fun v => Value.rec (motive_1 := fun _ => Option Nat) (motive_2 := fun _ => Unit) (motive_3 := fun _ => Unit) (fun _ => none) (fun kk z => IntKind.rec (motive := fun _ => Option Nat) none none none none (Int.rec (motive := fun _ => Option Nat) (fun i => some i) (fun _ => none) z) none none none kk) (fun _ _ => none) (fun _ _ _ => none) (fun _ => none) (fun _ => none) (fun _ _ _ => none) (fun _ => none) (fun _ => none) (fun _ _ _ _ _ => none) none (fun _ _ _ => none) none (fun _ _ => none) (fun _ _ => none) (fun _ _ => ()) () (fun _ _ _ _ => ()) v) (fun _ _ => none) (fun _ _ _ _ => none) (fun _ => none) (fun _ _ => none) (fun _ _ => none) (fun _ _ _ => none) (fun _ _ _ _ _ => none) (fun _ => none) () (fun _ _ _ _ => ()) a
theorem u8V_ok {i : Nat} (h : u8V a = some i) : a = .lit (.int .u8 (.ofNat i)) := by
  cases a with
  | lit v => cases v with
    | int kk z => cases kk with
      | u8 => cases z with
        | ofNat i => cases (h : some _ = some _); rfl
        | negSucc i => cases (h : (none : Option Nat) = some _)
      | _ => cases (h : (none : Option Nat) = some _)
    | _ => cases (h : (none : Option Nat) = some _)
  | _ => cases (h : (none : Option Nat) = some _)
/-- both are numbers of a kind that are not below zero -/
noncomputable def nat2 (a b : AV) (f : Nat → Nat → R) (e : R) : R :=
  Option.rec (motive := fun _ => R) e (fun i => Option.rec (motive := fun _ => R) e (fun j => f i j) (i64V b)) (i64V a)
theorem nat2_inv {f : Nat → Nat → R} {e : R} {X : R} (h : nat2 a b f e = X) : (∃ i j, a = .lit (.int .i64 (.ofNat i)) ∧ b = .lit (.int .i64 (.ofNat j)) ∧ f i j = X) ∨ e = X := by
  unfold nat2 at h
  cases ha : i64V a with
  | none => rw [ha] at h; exact .inr h
  | some i =>
    rw [ha] at h
    cases hb : i64V b with
    | none => rw [hb] at h; exact .inr h
    | some j => rw [hb] at h; exact .inl ⟨i, j, i64V_ok ha, i64V_ok hb, h⟩
/-- both are numbers of a kind that are not below zero -/
noncomputable def byt2 (a b : AV) (f : Nat → Nat → R) (e : R) : R :=
  Option.rec (motive := fun _ => R) e (fun i => Option.rec (motive := fun _ => R) e (fun j => f i j) (u8V b)) (u8V a)
theorem byt2_inv {f : Nat → Nat → R} {e : R} {X : R} (h : byt2 a b f e = X) : (∃ i j, a = .lit (.int .u8 (.ofNat i)) ∧ b = .lit (.int .u8 (.ofNat j)) ∧ f i j = X) ∨ e = X := by
  unfold byt2 at h
  cases ha : u8V a with
  | none => rw [ha] at h; exact .inr h
  | some i =>
    rw [ha] at h
    cases hb : u8V b with
    | none => rw [hb] at h; exact .inr h
    | some j => rw [hb] at h; exact .inl ⟨i, j, u8V_ok ha, u8V_ok hb, h⟩
theorem VAL.yy {op : Op} {v : Value} (h : ∀ l, FRel ρ af l → ∀ ty, Y P l W op ty v) : VAL P W ρ af op (.lit v) := fun l hf ty => ⟨v, rfl, h l hf ty⟩
theorem evlit {v : Value} (hf : FRel ρ af l) (hx : evalA af x = some (.lit v)) : evl l x = some v := by
  obtain ⟨u, h1, h2⟩ := hf.eval hx
  obtain rfl := inst_lit h2
  exact h1
noncomputable def addK (P : Program) (t : TypeId) (x y : Operand) (c : Nat) (a b : AV) (k : AV → R) : R :=
  nat2 a b (fun i j => Bool.rec (motive := fun _ => R) (.bad c) (k (.lit (.int .i64 (.ofNat (Nat.add i j))))) (Nat.ble (Nat.add i j) 9223372036854775807)) (bin0 P .add t x y c a b k)
theorem V.add (h : addK P t x y c a b k = .ok r T' n') (hx : evalA af x = some a) (hy : evalA af y = some b) : ∃ v, k v = .ok r T' n' ∧ VAL P W ρ af (.binOp .add t x y t2) v := by
  rcases nat2_inv h with ⟨i, j, rfl, rfl, h'⟩ | h'
  · cases hb : Nat.ble (Nat.add i j) 9223372036854775807 with
    | false => rw [hb] at h'; cases h'
    | true =>
      rw [hb] at h'
      exact ⟨_, h', VAL.yy fun l hf ty => Y.addN (evlit hf hx) (evlit hf hy) (by simpa using hb)⟩
  · exact V.bin0 h' hx hy
noncomputable def subK (P : Program) (t : TypeId) (x y : Operand) (c : Nat) (a b : AV) (k : AV → R) : R :=
  nat2 a b (fun i j => Bool.rec (motive := fun _ => R) (bin0 P .sub t x y c a b k) (Bool.rec (motive := fun _ => R) (.bad c) (k (.lit (.int .i64 (.ofNat (Nat.sub i j))))) (Nat.ble i 9223372036854775807)) (Nat.ble j i)) (bin0 P .sub t x y c a b k)
theorem V.sub (h : subK P t x y c a b k = .ok r T' n') (hx : evalA af x = some a) (hy : evalA af y = some b) : ∃ v, k v = .ok r T' n' ∧ VAL P W ρ af (.binOp .sub t x y t2) v := by
  rcases nat2_inv h with ⟨i, j, rfl, rfl, h'⟩ | h'
  · cases hb : Nat.ble j i with
    | false => rw [hb] at h'; exact V.bin0 h' hx hy
    | true =>
      rw [hb] at h'
      cases hb2 : Nat.ble i 9223372036854775807 with
      | false => rw [hb2] at h'; cases h'
      | true =>
        rw [hb2] at h'
        exact ⟨_, h', VAL.yy fun l hf ty => Y.subN (evlit hf hx) (evlit hf hy) (by simpa using hb) (by simpa using hb2)⟩
  · exact V.bin0 h' hx hy
theorem decide_beq (i j : Nat) : decide (i = j) = Nat.beq i j := by
  cases h : Nat.beq i j with
  | true => simpa using h
  | false => simpa using beqF h
theorem decide_blt (i j : Nat) : decide (i < j) = Nat.blt i j := by
  cases h : Nat.blt i j with
  | true => simpa using h
  | false => simpa [← Bool.not_eq_true] using h
theorem decide_ble (i j : Nat) : decide (i ≤ j) = Nat.ble i j := by
  cases h : Nat.ble i j with
  | true => simpa using h
  | false => simpa [← Bool.not_eq_true] using h
noncomputable def cmpK (P : Program) (op : BinOp) (f : Nat → Nat → Bool) (t : TypeId) (x y : Operand) (c : Nat) (a b : AV) (k : AV → R) : R :=
  nat2 a b (fun i j => Bool.rec (motive := fun _ => R) (k (.lit (.bool false))) (k (.lit (.bool true))) (f i j)) (byt2 a b (fun i j => Bool.rec (motive := fun _ => R) (k (.lit (.bool false))) (k (.lit (.bool true))) (f i j)) (bin0 P op t x y c a b k))
theorem bifk {p : Bool} (h : (Bool.rec (motive := fun _ => R) (k (.lit (.bool false))) (k (.lit (.bool true))) p) = .ok r T' n') : k (.lit (.bool p)) = .ok r T' n' := by
  cases p <;> exact h
theorem V.cmp {op : BinOp} {f : Nat → Nat → Bool} (hop : ∀ (l : Fr) (kk : IntKind) (i j : Nat) (ty : TypeId), evl l x = some (.int kk (i : Int)) → evl l y = some (.int kk (j : Int)) → Y P l W (.binOp op t x y t2) ty (.bool (f i j)))
    (h : cmpK P op f t x y c a b k = .ok r T' n') (hx : evalA af x = some a) (hy : evalA af y = some b) : ∃ v, k v = .ok r T' n' ∧ VAL P W ρ af (.binOp op t x y t2) v := by
  rcases nat2_inv h with ⟨i, j, rfl, rfl, h'⟩ | h'
  · exact ⟨_, bifk h', VAL.yy fun l hf ty => hop l _ _ _ ty (evlit hf hx) (evlit hf hy)⟩
  · rcases byt2_inv h' with ⟨i, j, rfl, rfl, h''⟩ | h''
    · exact ⟨_, bifk h'', VAL.yy fun l hf ty => hop l _ _ _ ty (evlit hf hx) (evlit hf hy)⟩
    · exact V.bin0 h'' hx hy
noncomputable def eqK (P : Program) := cmpK P .eql Nat.beq
noncomputable def neK (P : Program) := cmpK P .neq (fun i j => not (Nat.beq i j))
noncomputable def ltK (P : Program) := cmpK P .lss Nat.blt
noncomputable def leK (P : Program) := cmpK P .leq Nat.ble
noncomputable def gtK (P : Program) := cmpK P .gtr (fun i j => Nat.blt j i)
noncomputable def geK (P : Program) := cmpK P .geq (fun i j => Nat.ble j i)
theorem V.eq (h : eqK P t x y c a b k = .ok r T' n') (hx : evalA af x = some a) (hy : evalA af y = some b) : ∃ v, k v = .ok r T' n' ∧ VAL P W ρ af (.binOp .eql t x y t2) v :=
  V.cmp (fun l kk i j ty h1 h2 => by rw [← decide_beq]; exact Y.eqN h1 h2) h hx hy
theorem V.ne (h : neK P t x y c a b k = .ok r T' n') (hx : evalA af x = some a) (hy : evalA af y = some b) : ∃ v, k v = .ok r T' n' ∧ VAL P W ρ af (.binOp .neq t x y t2) v :=
  V.cmp (fun l kk i j ty h1 h2 => by rw [← decide_beq]; exact Y.neN h1 h2) h hx hy
theorem V.lt (h : ltK P t x y c a b k = .ok r T' n') (hx : evalA af x = some a) (hy : evalA af y = some b) : ∃ v, k v = .ok r T' n' ∧ VAL P W ρ af (.binOp .lss t x y t2) v :=
  V.cmp (fun l kk i j ty h1 h2 => by rw [← decide_blt]; exact Y.ltN h1 h2) h hx hy
theorem V.le (h : leK P t x y c a b k = .ok r T' n') (hx : evalA af x = some a) (hy : evalA af y = some b) : ∃ v, k v = .ok r T' n' ∧ VAL P W ρ af (.binOp .leq t x y t2) v :=
  V.cmp (fun l kk i j ty h1 h2 => by rw [← decide_ble]; exact Y.leN h1 h2) h hx hy
theorem V.gt (h : gtK P t x y c a b k = .ok r T' n') (hx : evalA af x = some a) (hy : evalA af y = some b) : ∃ v, k v = .ok r T' n' ∧ VAL P W ρ af (.binOp .gtr t x y t2) v :=
  V.cmp (fun l kk i j ty h1 h2 => by rw [← decide_blt]; exact Y.gtN h1 h2) h hx hy
theorem V.ge (h : geK P t x y c a b k = .ok r T' n') (hx : evalA af x = some a) (hy : evalA af y = some b) : ∃ v, k v = .ok r T' n' ∧ VAL P W ρ af (.binOp .geq t x y t2) v :=
  V.cmp (fun l kk i j ty h1 h2 => by rw [← decide_ble]; exact Y.geN h1 h2) h hx hy
/-! what the small machine's own steps yield -/
noncomputable def optK (c : Nat) (v : Option AV) (k : AV → R) : R := Option.rec (.bad c) k v
theorem optK_inv {v : Option AV} (h : optK c v k = .ok r T' n') : ∃ u, v = some u ∧ k u = .ok r T' n' := by
  cases v with
  | none => cases h
  | some u => exact ⟨u, rfl, h⟩
/-- any step of the small machine that asks no memory -/
theorem V.pure {op : Op} {v : Option AV} (h : optK c v k = .ok r T' n') (hv : pureA P af op = v) : ∃ v, k v = .ok r T' n' ∧ VAL P W ρ af op v := by
  obtain ⟨u, rfl, h2⟩ := optK_inv h
  exact ⟨u, h2, VAL.pure hv⟩
theorem V.bld {op : Op} {v : Option AV} (h : optK c v k = .ok r T' n') (hv : buildA P af op = v) : ∃ v, k v = .ok r T' n' ∧ VAL P W ρ af op v := by
  obtain ⟨u, rfl, h2⟩ := optK_inv h
  exact ⟨u, h2, VAL.build hv⟩
end
end Go.EY
