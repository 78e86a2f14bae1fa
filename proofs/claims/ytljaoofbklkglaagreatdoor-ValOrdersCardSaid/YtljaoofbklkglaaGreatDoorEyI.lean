/-
  Proved here: loads that wait while operations come that change memory: what they read is held against what it was.
-/
import Derived.Test.YtljaoofbklkglaaGreatDoorEyH
namespace Go.EY
open Go.SX Go.EX Go.RowKit
section
variable {P : Program} {w0 : World} {base : Nat} {ρ0 ρ ρ1 : Rho} {T T1 : HT} {ro : List HT} {nx n1 : Nat} {its its1 : List It} {E : List (Nat × AV)} {af : AF} {l : Fr}
variable {n : Nat} {D : List Deferred} {Q : Exit → Act → World → Prop} {S : World → Prop} {ps : List (AV × Nat × Nat)}
variable {r : AR} {T' : HT} {n' c : Nat} {x y : Operand} {a b v : AV} {t : TypeId}
/-- which cells are kept: those that a pointer leads to, from a place on, so many (0: all of the item) -/
noncomputable def keptP (id off : Nat) (q : AV × Nat × Nat) : Bool :=
  match q.1 with
  | .ptr j o => Bool.rec (motive := fun _ => Bool) false (Bool.rec (motive := fun _ => Bool) (Bool.rec (motive := fun _ => Bool) false (Nat.blt off (Nat.add (Nat.add o q.2.1) q.2.2)) (Nat.ble (Nat.add o q.2.1) off)) true (Nat.beq q.2.2 0)) (Nat.beq j id)
  | .sl j _ _ _ => Bool.rec (motive := fun _ => Bool) false (Nat.beq q.2.2 0) (Nat.beq j id)
  | _ => false
noncomputable def kept (ps : List (AV × Nat × Nat)) (id off : Nat) : Bool := List.rec (motive := fun _ => Bool) false (fun q _ ih => bif keptP id off q then true else ih) ps
noncomputable def keptN (ps : List (AV × Nat × Nat)) (id : Nat) (n : Nat) : Nat → Bool := Nat.rec (motive := fun _ => Nat → Bool) (fun _ => true) (fun _ ih off => bif kept ps id off then ih (Nat.add off 1) else false) n
theorem keptN_at : ∀ {n off : Nat} {id : Nat}, keptN ps id n off = true → ∀ j, j < n → kept ps id (off + j) = true := by
  intro n
  induction n with
  | zero => intro off id _ j hj; omega
  | succ n ih =>
    intro off id h j hj
    have h' : (bif kept ps id off then keptN ps id n (off + 1) else false) = true := h
    obtain ⟨h1, h2⟩ := bif_and h'
    cases j with
    | zero => exact h1
    | succ j =>
      have := ih h2 j (by omega)
      rw [show off + (j + 1) = off + 1 + j by omega]
      exact this
/-- a cell stands as it did -/
def SameAt (T T1 : HT) (id off : Nat) : Prop := (∀ m, T.get id = some m → ∃ m', T1.get id = some m' ∧ ∀ v, m.cell off = some v → m'.cell off = some v) ∧ (T.get id = none → T1.get id = none)
noncomputable def keepI (c : Nat) (T T1 : HT) (id : Nat) (X : R) : R := T.getK (fun m => T1.getK (fun m' => bif eqM m m' then X else .bad c) (.bad c) id) (T1.getK (fun _ => .bad c) X id) id
theorem keepI_inv {id : Nat} {X : R} (h : keepI c T T1 id X = .ok r T' n') : T1.get id = T.get id ∧ X = .ok r T' n' := by
  rcases HT.getK_inv h with ⟨m, h1, h2⟩ | ⟨h1, h2⟩
  · rcases HT.getK_inv h2 with ⟨m', h3, h4⟩ | ⟨_, h4⟩
    · obtain ⟨h5, h6⟩ := bif_ok h4
      exact ⟨by rw [h1, h3, eqM_ok h5], h6⟩
    · cases h4
  · rcases HT.getK_inv h2 with ⟨m', h3, h4⟩ | ⟨h3, h4⟩
    · cases h4
    · exact ⟨by rw [h1, h3], h4⟩
theorem cells_get {m : MI} : ∀ {n off : Nat} {cs : List AV}, m.cells off n = some cs → ∀ j v, cs[j]? = some v → m.cell (off + j) = some v := by
  intro n
  induction n with
  | zero => intro off cs h j v hj; cases h; simp at hj
  | succ n ih =>
    intro off cs h j v hj
    unfold MI.cells at h
    split at h
    · rename_i v0 hv0
      cases hr : m.cells (off + 1) n with
      | none => rw [hr] at h; cases h
      | some t =>
        rw [hr] at h; cases h
        cases j with
        | zero => simp at hj; subst hj; simpa using hv0
        | succ j =>
          have := ih hr j v (by simpa using hj)
          rw [show off + (j + 1) = off + 1 + j by omega]
          exact this
    · cases h
theorem cells_all {m : MI} : ∀ {n off : Nat} {cs : List AV}, m.cells off n = some cs → cs.length = n := by
  intro n
  induction n with
  | zero => intro off cs h; cases h; rfl
  | succ n ih =>
    intro off cs h
    unfold MI.cells at h
    split at h
    · cases hr : m.cells (off + 1) n with
      | none => rw [hr] at h; cases h
      | some t => rw [hr] at h; cases h; simp [ih hr]
    · cases h
noncomputable def keepR (c : Nat) (T T1 : HT) (id off len : Nat) (X : R) : R := T.getK (fun m => T1.getK (fun m' => m.cellsK c len off fun l => m'.cellsK c len off fun l' => bif eqL l l' then X else .bad c) (.bad c) id) (T1.getK (fun _ => .bad c) X id) id
theorem keepR_inv {id off len : Nat} {X : R} (h : keepR c T T1 id off len X = .ok r T' n') : (∀ j, j < len → SameAt T T1 id (off + j)) ∧ X = .ok r T' n' := by
  rcases HT.getK_inv h with ⟨m, h1, h2⟩ | ⟨h1, h2⟩
  · rcases HT.getK_inv h2 with ⟨m', h3, h4⟩ | ⟨_, h4⟩
    · obtain ⟨l1, h5, h6⟩ := MI.cellsK_inv h4
      obtain ⟨l2, h7, h8⟩ := MI.cellsK_inv h6
      obtain ⟨h9, h10⟩ := bif_ok h8
      have := eqL_ok h9
      subst this
      refine ⟨fun j hj => ⟨fun m0 hm0 => ?_, fun hn => by rw [h1] at hn; cases hn⟩, h10⟩
      rw [h1] at hm0; cases hm0
      refine ⟨m', h3, fun v hv => ?_⟩
      have hjl : j < l1.length := by rw [cells_all h5]; exact hj
      have e1 := cells_get h5 j _ (List.getElem?_eq_getElem hjl)
      have e2 := cells_get h7 j _ (List.getElem?_eq_getElem hjl)
      rw [hv] at e1; cases e1; exact e2
    · cases h4
  · rcases HT.getK_inv h2 with ⟨m', h3, h4⟩ | ⟨h3, h4⟩
    · cases h4
    · exact ⟨fun j _ => ⟨(fun m hm => by rw [h1] at hm; cases hm), fun _ => h3⟩, h4⟩
noncomputable def keep1 (c : Nat) (T T1 : HT) (q : AV × Nat × Nat) (X : R) : R :=
  match q.1 with
  | .ptr id o => Bool.rec (motive := fun _ => R) (keepR c T T1 id (Nat.add o q.2.1) q.2.2 X) (keepI c T T1 id X) (Nat.beq q.2.2 0)
  | .sl id _ _ _ => keepI c T T1 id X
  | _ => X
noncomputable def keepK (c : Nat) (T T1 : HT) (ps : List (AV × Nat × Nat)) (X : R) : R := List.rec (motive := fun _ => R) X (fun a _ ih => keep1 c T T1 a ih) ps
theorem SameAt.all {id : Nat} (h : T1.get id = T.get id) (off : Nat) : SameAt T T1 id off := ⟨fun m hm => ⟨m, by rw [h]; exact hm, fun v hv => hv⟩, fun hn => by rw [h]; exact hn⟩
theorem keep1_inv {q : AV × Nat × Nat} {X : R} (h : keep1 c T T1 q X = .ok r T' n') : (∀ id off, keptP id off q = true → SameAt T T1 id off) ∧ X = .ok r T' n' := by
  obtain ⟨a, lo, len⟩ := q
  cases a with
  | ptr j o =>
    have h' : Bool.rec (motive := fun _ => R) (keepR c T T1 j (o + lo) len X) (keepI c T T1 j X) (Nat.beq len 0) = .ok r T' n' := h
    have hk : ∀ id off, keptP id off (.ptr j o, lo, len) = Bool.rec (motive := fun _ => Bool) false (Bool.rec (motive := fun _ => Bool) (Bool.rec (motive := fun _ => Bool) false (Nat.blt off (o + lo + len)) (Nat.ble (o + lo) off)) true (Nat.beq len 0)) (Nat.beq j id) := fun _ _ => rfl
    cases hb : Nat.beq len 0 with
    | true =>
      rw [hb] at h'
      obtain ⟨h1, h2⟩ := keepI_inv (h' : keepI c T T1 j X = _)
      refine ⟨fun id off hk' => ?_, h2⟩
      rw [hk] at hk'
      cases hj : Nat.beq j id with
      | false => rw [hj] at hk'; cases hk'
      | true => obtain rfl := beqT hj; exact SameAt.all h1 off
    | false =>
      rw [hb] at h'
      obtain ⟨h1, h2⟩ := keepR_inv (h' : keepR c T T1 j (o + lo) len X = _)
      refine ⟨fun id off hk' => ?_, h2⟩
      rw [hk, hb] at hk'
      cases hj : Nat.beq j id with
      | false => rw [hj] at hk'; cases hk'
      | true =>
        obtain rfl := beqT hj
        rw [hj] at hk'
        cases hl : Nat.ble (o + lo) off with
        | false => rw [hl] at hk'; cases hk'
        | true =>
          rw [hl] at hk'
          have h3 : Nat.blt off (o + lo + len) = true := hk'
          have h4 : o + lo ≤ off := by simpa using hl
          have h5 : off < o + lo + len := by simpa using h3
          have := h1 (off - (o + lo)) (by omega)
          rwa [show o + lo + (off - (o + lo)) = off by omega] at this
  | sl j o n k =>
    obtain ⟨h1, h2⟩ := keepI_inv (h : keepI c T T1 j X = _)
    refine ⟨fun id off hk' => ?_, h2⟩
    have hk2 : Bool.rec (motive := fun _ => Bool) false (Nat.beq len 0) (Nat.beq j id) = true := hk'
    cases hj : Nat.beq j id with
    | false => rw [hj] at hk2; cases hk2
    | true => obtain rfl := beqT hj; exact SameAt.all h1 off
  | _ => exact ⟨(fun id off hk => by cases hk), h⟩
theorem keepK_inv {X : R} : ∀ {ps : List (AV × Nat × Nat)}, keepK c T T1 ps X = .ok r T' n' → (∀ id off, kept ps id off = true → SameAt T T1 id off) ∧ X = .ok r T' n' := by
  intro ps
  induction ps with
  | nil => intro h; exact ⟨(fun id off hi => by cases hi), h⟩
  | cons a ps ih =>
    intro h
    obtain ⟨k1, k2⟩ := keep1_inv (h : keep1 c T T1 a (keepK c T T1 ps X) = _)
    obtain ⟨h1, h2⟩ := ih k2
    refine ⟨fun id off hi => ?_, h2⟩
    have hi' : (bif keptP id off a then true else kept ps id off) = true := hi
    cases hb : keptP id off a with
    | true => exact k1 id off hb
    | false => rw [hb] at hi'; exact h1 id off hi'
/-- what some pointers lead to is as it was -/
def KeepS (w0 : World) (base : Nat) (ρ : Rho) (T : HT) (ro : List HT) (ps : List (AV × Nat × Nat)) (w : World) : Prop :=
  Below base w0 w ∧ ∀ id off, kept ps id off = true → ∀ m, lookT T ro id = some m → ∃ p, rat ρ.blk id = some p ∧ ∀ v, m.cell off = some v → ∃ u, inst ρ v = some u ∧ w.cell? ⟨p.1, off, none⟩ = some u
theorem KeepS.start (ps : List (AV × Nat × Nat)) (hS : ST w0 base E ρ0 ρ T ro nx its) : ∀ w, WA w0 base its w → KeepS w0 base ρ T ro ps w := fun w hw => ⟨hw.below, fun id off _ m hm => by
  obtain ⟨p, it, us, e1, e2, e3, e4, _⟩ := hS.look hm
  refine ⟨p, e1, fun v hv => ?_⟩
  obtain ⟨u, g1, g2⟩ := instL_get e3 (e2.cell hv)
  exact ⟨u, g2, e4 w hw _ _ g1⟩⟩
theorem KeepS.step {X : R} (hR : ST w0 base E ρ0 ρ T ro nx its) (hS : ST w0 base E ρ ρ1 T1 ro n1 its1) (h : keepK c T T1 ps X = .ok r T' n') : (∀ w, WA w0 base its1 w → KeepS w0 base ρ T ro ps w) ∧ X = .ok r T' n' := by
  obtain ⟨h1, h2⟩ := keepK_inv h
  refine ⟨fun w hw => ⟨hw.below, fun id off hi m hm => ?_⟩, h2⟩
  have hm1 : ∃ m', lookT T1 ro id = some m' ∧ ∀ v, m.cell off = some v → m'.cell off = some v := by
    obtain ⟨k1, k2⟩ := h1 id off hi
    unfold lookT at hm ⊢
    cases hg : T.get id with
    | none => rw [k2 hg]; rw [hg] at hm; exact ⟨m, hm, fun v hv => hv⟩
    | some m0 =>
      rw [hg] at hm; cases hm
      obtain ⟨m', g1, g2⟩ := k1 _ hg
      exact ⟨m', by rw [g1], g2⟩
  obtain ⟨m', hm1, hsame⟩ := hm1
  obtain ⟨p, it, us, e1, e2, e3, _, _⟩ := hR.look hm
  obtain ⟨p1, it1, us1, f1, f2, f3, f4, _⟩ := hS.look hm1
  have hp := hS.ext.blk _ _ e1
  rw [f1] at hp
  injection hp with hp
  subst hp
  refine ⟨_, e1, fun v hv => ?_⟩
  obtain ⟨u, g1, g2⟩ := instL_get e3 (e2.cell hv)
  obtain ⟨u1, q1, q2⟩ := instL_get f3 (f2.cell (hsame v hv))
  have := inst_ext hS.ext _ _ g2
  rw [q2] at this
  injection this with this
  subst this
  exact ⟨_, g2, f4 w hw _ _ q1⟩
theorem PK.up (hS : ST w0 base E ρ0 ρ T ro nx its) (hP : PK n D Q w0 base E ρ0 ro r T' n') : PK n D Q w0 base E ρ ro r T' n' := fun v hv ρ1 its1 u h => hP v hv ρ1 its1 u (hS.up h)
noncomputable def ldQK (c : Nat) (T : HT) (ro : List HT) (ps : List (AV × Nat × Nat)) (a : AV) (k : AV → R) : R := ptrK c a fun id off => bif kept ps id off then lookK T ro id (fun m => m.cellK c off k) (.bad c) else .bad c
theorem V.ldQ {k : AV → R} (hS : ST w0 base E ρ0 ρ T ro nx its) (h : ldQK c T ro ps a k = .ok r T' n') (hx : evalA af x = some a) (ht : oneT P t = true) : ∃ v, k v = .ok r T' n' ∧ VAL P (KeepS w0 base ρ T ro ps) ρ af (.load t x) v := by
  obtain ⟨id, off, rfl, h2⟩ := ptrK_inv h
  obtain ⟨hi, h2⟩ := bif_ok h2
  obtain ⟨m, h3, h4⟩ := lookK_inv h2
  obtain ⟨v, h5, h6⟩ := MI.cellK_inv h4
  refine ⟨v, h6, fun l hf ty => ?_⟩
  obtain ⟨p, it, us, e1, e2, e3, _, _⟩ := hS.look h3
  obtain ⟨u, g1, g2⟩ := hf.eval hx
  obtain ⟨p', g3, rfl⟩ := inst_ptr g2
  rw [e1] at g3; cases g3
  obtain ⟨z, q1, q2⟩ := instL_get e3 (e2.cell h5)
  refine ⟨z, q2, Y.load (oneT_ok ht) g1 fun w hw => ?_⟩
  obtain ⟨p2, f1, f2⟩ := hw.2 id off hi m h3
  rw [e1] at f1; cases f1
  obtain ⟨z2, f3, f4⟩ := f2 v h5
  rw [q2] at f3; cases f3
  exact f4
noncomputable def ldAQK (c : Nat) (T : HT) (ro : List HT) (ps : List (AV × Nat × Nat)) (a : AV) (n : Nat) (k : AV → R) : R := ptrK c a fun id off => bif keptN ps id n off then lookK T ro id (fun m => m.cellsK c n off fun l => k (.agg l)) (.bad c) else .bad c
theorem V.ldAQ {k : AV → R} {q : Nat} (hS : ST w0 base E ρ0 ρ T ro nx its) (h : ldAQK c T ro ps a q k = .ok r T' n') (hx : evalA af x = some a) (ht : aggT P t = some q) : ∃ v, k v = .ok r T' n' ∧ VAL P (KeepS w0 base ρ T ro ps) ρ af (.load t x) v := by
  obtain ⟨id, off, rfl, h2⟩ := ptrK_inv h
  obtain ⟨hi, h2⟩ := bif_ok h2
  obtain ⟨m, h3, h4⟩ := lookK_inv h2
  obtain ⟨cs, h5, h6⟩ := MI.cellsK_inv h4
  refine ⟨_, h6, fun l hf ty => ?_⟩
  obtain ⟨p, it, us, e1, e2, e3, _, _⟩ := hS.look h3
  obtain ⟨u, g1, g2⟩ := hf.eval hx
  obtain ⟨p', g3, rfl⟩ := inst_ptr g2
  rw [e1] at g3; cases g3
  obtain ⟨q1, q2⟩ := MI.cells_it e2 h5
  have q3 := instL_take q (instL_drop off e3)
  rw [q1] at q3
  have hlen : ((us.drop off).take q).length = q := by rw [instL_len q3]; exact q2
  refine ⟨_, by unfold inst; rw [q3]; rfl, Y.loadA (aggT_ok ht) hlen g1 fun w hw j u hj => ?_⟩
  have hjl : j < cs.length := by rw [← instL_len q3]; exact (List.getElem?_eq_some_iff.1 hj).1
  obtain ⟨p2, f1, f2⟩ := hw.2 id (off + j) (keptN_at hi j (by rw [← q2]; exact hjl)) m h3
  rw [e1] at f1; cases f1
  have hcj : cs[j]? = some cs[j] := List.getElem?_eq_getElem hjl
  obtain ⟨z2, f3, f4⟩ := f2 _ (cells_get h5 j _ hcj)
  obtain ⟨u2, g4, g5⟩ := instL_get q3 hcj
  rw [hj] at g4; cases g4
  rw [f3] at g5; cases g5
  exact f4
theorem VAL.ldGQ {g : Nat} {v : AV} (hS : ST w0 base E ρ0 ρ T ro nx its) (hg : lookE E g = some v) (ht : oneT P t = true) : VAL P (KeepS w0 base ρ T ro ps) ρ af (.load t (.global g)) v := fun l hf ty => by
  obtain ⟨z, h3, h4, h5⟩ := hS.env g v hg
  obtain ⟨u, h1, h2⟩ := hf.eval (x := .global g) rfl
  obtain rfl := inst_lit h2
  exact ⟨z, h3, Y.load (oneT_ok ht) h1 fun w hw => (hw.1.cell h5).trans h4⟩
theorem CV.regionMS {id : Nat} {lo : List Oper} (hS : ST w0 base E ρ0 ρ T ro nx its) (ps : List (AV × Nat × Nat)) (plan : List (Nat × Kd)) (hm : P.follows .mixedOrders = true) (hQ : PanicOk Q) (hB : (Region.noSelect lo.toArray && planOk .any lo.toArray plan (Array.replicate lo.toArray.size false) && (plan.length == lo.toArray.size)) = true)
    (h : MV P lo.toArray n D Q (KeepS w0 base ρ T ro ps) w0 base ρ its af plan []) : CV P n D Q w0 base ρ its af (.region id lo.toArray true) := fun l hf => CX.regionY plan hm hQ hB (h l hf)
/-- how long what is cut off at the front is -/
noncomputable def cutLenK (c : Nat) (T : HT) (ro : List HT) (a b : AV) (k : AV → R) : R :=
  slcK c a fun id _ q sk => natK c b fun j => lookK T ro id (fun m => rowK c m fun q' _ _ _ => bif Nat.ble (Nat.add q sk) q' then bif Nat.ble j q then k (.lit (.int .i64 (.ofNat (Nat.sub q j)))) else .bad c else .bad c) (.bad c)
theorem LV.cutLen {k : AV → R} {ops : Array Oper} {m : SX.Mode} {rest : List Oper} {o o2 : Oper} {d d2 e size by' : Nat} {z : Value} {ats : Array TypeId} {e2 : TypeId} (hS : ST w0 base E ρ0 ρ T ro nx its) (h : cutLenK c T ro a b k = .ok r T' n') (hx : evalA af x = some a) (hy : evalA af y = some b) (ho : o.op = .slice t x (some y) none none) (he : elemT P t = some (e, size, by', z)) (hw : wantA ops af o.guard = some true) (hd : o.dst = some d) (hdn : Nat.blt d n = true)
    (hn : getA af d = none) (ho2 : o2.op = .call { callee := .builtin .len, args := #[.tmp d], argTypes := ats }) (ht2 : (ats[0]?).bind P.underlying = some (.slice e2)) (hw2 : o2.guard = none) (hd2 : o2.dst = some d2) (hdn2 : Nat.blt d2 n = true)
    (hk : ∀ v, k v = .ok r T' n' → LV P ops n D m w0 base ρ its ((d2, v) :: af) rest) : LV P ops n D m w0 base ρ its af (o :: o2 :: rest) := by
  obtain ⟨id, off, q, sk, rfl, h2⟩ := slcK_inv h
  obtain ⟨kk, j, rfl, h3⟩ := natK_inv h2
  obtain ⟨mi, h5, h6⟩ := lookK_inv h3
  obtain ⟨q', e', s', vt, rfl, h7⟩ := rowK_inv h6
  obtain ⟨hb2, h8⟩ := bif_ok h7
  obtain ⟨hb3, h9⟩ := bif_ok h8
  have hq : q + sk ≤ q' := by simpa using hb2
  have hj : j ≤ q := by simpa using hb3
  obtain ⟨p, e1, e2'⟩ := hS.room h5
  obtain ⟨hEl, hSz, _⟩ := elemT_ok he
  refine LV.step (v := .lit (.slice (if p.2 - sk = j then some ⟨p.1, off, none⟩ else some ⟨p.1, off + j * size, none⟩) (q - j) (p.2 - sk - j))) (fun l hf ty => ?_) hw hd hdn ?_
  · refine ⟨_, rfl, fun σ hσ o' ho' ht w hw => ?_⟩
    obtain ⟨ux, g1, g2⟩ := hf.eval hx
    obtain ⟨p', g3, rfl⟩ := inst_sl g2
    rw [e1] at g3; cases g3
    have h9 := e2' w hw
    rw [ho] at ho'
    have h10 := Y.cutLo (W := WA w0 base its) (ty := ty) hEl.ht hSz g1 (evlit hf hy) hj σ hσ o' ho' ht w hw
    rw [h10]
    congr 2
    split <;> simp [Addr.add_lit]
  · have hvl : VAL P (WA w0 base its) ρ ((d, .lit (.slice (if p.2 - sk = j then some ⟨p.1, off, none⟩ else some ⟨p.1, off + j * size, none⟩) (q - j) (p.2 - sk - j))) :: af) o2.op (.lit (.int .i64 (.ofNat (q - j)))) := by
      rw [ho2]
      obtain ⟨v, hv1, hv2⟩ := V.lenS (P := P) (W := WA w0 base its) (ρ := ρ) (af := (d, .lit (.slice (if p.2 - sk = j then some ⟨p.1, off, none⟩ else some ⟨p.1, off + j * size, none⟩) (q - j) (p.2 - sk - j))) :: af) (x := .tmp d) (c := c) (k := fun v => .ok (.val v) T' n') (r := .val (.lit (.int .i64 (.ofNat (q - j))))) (T' := T') (n' := n') (a := .lit (.slice (if p.2 - sk = j then some ⟨p.1, off, none⟩ else some ⟨p.1, off + j * size, none⟩) (q - j) (p.2 - sk - j))) rfl (getA_same _ _ _) ht2
      cases hv1
      exact hv2
    refine LV.step hvl (by rw [hw2]; rfl) hd2 hdn2 ?_
    intro l hf
    refine hk _ h9 l fun i x hi => ?_
    by_cases hi2 : d2 = i
    · subst hi2
      rw [getA_same] at hi
      cases hi
      exact hf _ _ (getA_same _ _ _)
    · rw [getA_ne _ _ hi2] at hi
      by_cases hi3 : d = i
      · subst hi3; rw [hn] at hi; cases hi
      · exact hf i x (by rw [getA_ne _ _ hi2, getA_ne _ _ hi3]; exact hi)
/-- no panic -/
def NoPan (Q : Exit → Act → World → Prop) : Exit → Act → World → Prop := fun e a w => (∀ c, e ≠ .panic c) ∧ Q e a w
theorem NoPan.ok : PanicOk (NoPan Q) := fun c _ _ _ _ hq => absurd rfl (hq.1 c)
/-- a call that changes nothing of what is owned, settled once -/
theorem GOk.quiet {f : FuncId} {args : List AV} {u : Value} {T2 : HT} {n2 : Nat} (hG : GOk P E f args (T :: ro) .nil nx (.ok (.val v) T2 n2)) (hu : closed v = some u) : GOk P E f args ro T nx (.ok (.val (.lit u)) T nx) := by
  intro v' T' n' h
  cases h
  obtain ⟨hen, hcc⟩ := hG _ _ _ rfl
  refine ⟨hen, fun w0 base ρ vs its hS hA w hW => ?_⟩
  refine (hcc w w.heap.size ρ vs [] (hS.push hW) hA w (WA.start w)).mono fun e w' he => ?_
  obtain ⟨ρ1, its1, e1, e2, z, e3, rfl⟩ := he
  obtain rfl := closed_ok hu e3
  exact ⟨ρ, its, hS, Stab.st w w' hW e2.below, _, rfl, rfl⟩
end
end Go.EY
