/-
  Proved here: regions in which operations come in an order that is drawn, gone through by a machine of mine; calls that change nothing.
-/
import Derived.Test.YtljaoofbklkglaaGreatDoorEyE
namespace Go.EY
open Go.SX Go.EX Go.RowKit
section
variable {P : Program} {w0 : World} {base : Nat} {ρ0 ρ : Rho} {T : HT} {ro : List HT} {nx : Nat} {its : List It} {E : List (Nat × AV)} {af : AF} {l : Fr}
variable {ops : Array Oper} {n : Nat} {D : List Deferred} {Q : Exit → Act → World → Prop} {rest : List Oper} {o : Oper} {d i : Nat} {m : SX.Mode} {S W : World → Prop} {pl : List (Nat × Kd)} {pend : List Nat}
variable {r : AR} {T' : HT} {n' c : Nat} {x y : Operand} {a b v : AV} {t t2 : TypeId} {cd : Code} {e : Exit} {F : AF}
theorem LV.sub (F : AF) (hs : subA F af) (h : LV P ops n D m w0 base ρ its F rest) : LV P ops n D m w0 base ρ its af rest := fun l hf => h l (FRel.subA hf hs)
theorem CV.sub (F : AF) (hs : subA F af) (h : CV P n D Q w0 base ρ its F cd) : CV P n D Q w0 base ρ its af cd := fun l hf => h l (FRel.subA hf hs)
theorem PV.sub (F : AF) (hs : subA F af) (h : PV n D Q w0 base ρ its F e) : PV n D Q w0 base ρ its af e := fun l hf => h l (FRel.subA hf hs)
theorem PV.ldA {k : AV → R} {q : Nat} (hS : ST w0 base E ρ0 ρ T ro nx its) (h : ldAK c T ro a q k = .ok r T' n') (hx : evalA af x = some a) (ht : aggT P t = some q) (hk : ∀ v, k v = .ok r T' n' → VAL P (WA w0 base its) ρ af (.load t x) v → PV n D Q w0 base ρ its af e) : PV n D Q w0 base ρ its af e := by
  obtain ⟨v, h1, h2⟩ := V.ldA hS h hx ht
  exact hk v h1 h2
theorem PV.ld {k : AV → R} (hS : ST w0 base E ρ0 ρ T ro nx its) (h : ldK c T ro a k = .ok r T' n') (hx : evalA af x = some a) (ht : oneT P t = true) (hk : ∀ v, k v = .ok r T' n' → VAL P (WA w0 base its) ρ af (.load t x) v → PV n D Q w0 base ρ its af e) : PV n D Q w0 base ρ its af e := by
  obtain ⟨v, h1, h2⟩ := V.ld hS h hx ht
  exact hk v h1 h2
/-! the same memory -/
noncomputable def eqL (l : List AV) : List AV → Bool := List.rec (motive := fun _ => List AV → Bool) (fun m => List.rec true (fun _ _ _ => false) m) (fun x _ ih m => List.rec false (fun y t _ => bif sameA x y then ih t else false) m) l
theorem eqL_ok : ∀ {l m : List AV}, eqL l m = true → l = m := by
  intro l
  induction l with
  | nil => intro m h; cases m with | nil => rfl | cons => cases h
  | cons x l ih =>
    intro m h
    cases m with
    | nil => cases h
    | cons y m =>
      have h' : (bif sameA x y then eqL l m else false) = true := h
      cases hs : sameA x y with
      | false => rw [hs] at h'; cases h'
      | true => rw [hs] at h'; rw [sameA_ok hs, ih h']
noncomputable def eqO (a b : Option AV) : Bool := Option.rec (Option.rec true (fun _ => false) b) (fun x => Option.rec false (fun y => sameA x y) b) a
theorem eqO_ok {a b : Option AV} (h : eqO a b = true) : a = b := by
  cases a <;> cases b <;> first | rfl | cases h | (rename_i x y; rw [sameA_ok (h : sameA x y = true)])
noncomputable def eqV (t : VT) : VT → Bool := VT.rec (motive := fun _ => VT → Bool) (fun u => VT.rec true (fun _ _ _ _ _ => false) u) (fun v _ _ ihl ihr u => VT.rec false (fun v' l' r' _ _ => bif eqO v v' then bif ihl l' then ihr r' else false else false) u) t
theorem eqV_ok : ∀ {t u : VT}, eqV t u = true → t = u := by
  intro t
  induction t with
  | nil => intro u h; cases u with | nil => rfl | node => cases h
  | node v l r ihl ihr =>
    intro u h
    cases u with
    | nil => cases h
    | node v' l' r' =>
      have h' : (bif eqO v v' then bif eqV l l' then eqV r r' else false else false) = true := h
      cases h1 : eqO v v' with
      | false => rw [h1] at h'; cases h'
      | true =>
        cases h2 : eqV l l' with
        | false => rw [h1, h2] at h'; cases h'
        | true => rw [h1, h2] at h'; rw [eqO_ok h1, ihl h2, ihr h']
noncomputable def eqM (a b : MI) : Bool :=
  match a, b with
  | .obj cs t, .obj cs' t' => bif Nat.beq t t' then eqL cs cs' else false
  | .row n e s vt, .row n' e' s' vt' => bif Nat.beq n n' then bif Nat.beq e e' then bif Nat.beq s s' then eqV vt vt' else false else false else false
  | _, _ => false
theorem bif_and {p q : Bool} (h : (bif p then q else false) = true) : p = true ∧ q = true := by
  cases p with
  | true => exact ⟨rfl, h⟩
  | false => cases h
theorem eqM_ok {a b : MI} (h : eqM a b = true) : a = b := by
  unfold eqM at h
  split at h
  · obtain ⟨h1, h2⟩ := bif_and h
    rw [beqT h1, eqL_ok h2]
  · obtain ⟨h1, h⟩ := bif_and h
    obtain ⟨h2, h⟩ := bif_and h
    obtain ⟨h3, h⟩ := bif_and h
    rw [beqT h1, beqT h2, beqT h3, eqV_ok h]
  · cases h
/-! drawn orders -/
def MV (P : Program) (ops : Array Oper) (n : Nat) (D : List Deferred) (Q : Exit → Act → World → Prop) (S : World → Prop) (w0 : World) (base : Nat) (ρ : Rho) (its : List It) (af : AF) (plan : List (Nat × Kd)) (pend : List Nat) : Prop :=
  ∀ l, FRel ρ af l → MY P ops n D Q S l (WA w0 base its) plan pend
theorem CV.regionM {id : Nat} {lo : List Oper} (plan : List (Nat × Kd)) (hm : P.follows .mixedOrders = true) (hQ : PanicOk Q) (hB : (Region.noSelect lo.toArray && planOk .any lo.toArray plan (Array.replicate lo.toArray.size false) && (plan.length == lo.toArray.size)) = true)
    (h : MV P lo.toArray n D Q (WA w0 base its) w0 base ρ its af plan []) : CV P n D Q w0 base ρ its af (.region id lo.toArray true) := fun l hf => CX.regionY plan hm hQ hB (h l hf)
theorem MV.lift0 {k : AV → R} (hi : ops[i]? = some o) (hv : ∃ v, k v = .ok r T' n' ∧ VAL P (fun _ => True) ρ af o.op v) (hw : wantA ops af o.guard = some true) (hd : o.dst = some d) (hdn : Nat.blt d n = true)
    (hk : ∀ v, k v = .ok r T' n' → MV P ops n D Q S w0 base ρ its ((d, v) :: af) pl pend) : MV P ops n D Q S w0 base ρ its af ((i, .anywhere) :: pl) pend := fun l hf a w ha hW => by
  obtain ⟨v, h1, h2⟩ := hv
  obtain ⟨u, e1, e2⟩ := h2 l hf o.type
  refine ⟨o, u, hi, .inl ⟨wantA_ok hf hw a ha, fun w => e2 a.eval ha.eval o rfl rfl w trivial⟩, ?_⟩
  rw [hd]; exact hk v h1 _ (FRel.cons hf d e1) _ _ (ha.put hdn u) hW
theorem MV.step0 (hi : ops[i]? = some o) (hv : VAL P (fun _ => True) ρ af o.op v) (hw : wantA ops af o.guard = some true) (hd : o.dst = some d) (hdn : Nat.blt d n = true)
    (hk : MV P ops n D Q S w0 base ρ its ((d, v) :: af) pl pend) : MV P ops n D Q S w0 base ρ its af ((i, .anywhere) :: pl) pend := fun l hf a w ha hW => by
  obtain ⟨u, e1, e2⟩ := hv l hf o.type
  refine ⟨o, u, hi, .inl ⟨wantA_ok hf hw a ha, fun w => e2 a.eval ha.eval o rfl rfl w trivial⟩, ?_⟩
  rw [hd]; exact hk _ (FRel.cons hf d e1) _ _ (ha.put hdn u) hW
theorem MV.skip0 (hi : ops[i]? = some o) (hw : wantA ops af o.guard = some false) (hd : o.dst = some d) (hdn : Nat.blt d n = true)
    (hk : MV P ops n D Q S w0 base ρ its ((d, .lit undef) :: af) pl pend) : MV P ops n D Q S w0 base ρ its af ((i, .anywhere) :: pl) pend := fun l hf a w ha hW => by
  refine ⟨o, undef, hi, .inr ⟨wantA_ok hf hw a ha, rfl⟩, ?_⟩
  rw [hd]; exact hk _ (FRel.cons hf d rfl) _ _ (ha.put hdn _) hW
theorem MV.skip1 (hi : ops[i]? = some o) (hWS : ∀ w, WA w0 base its w → S w) (hw : wantA ops af o.guard = some false) (hd : o.dst = some d) (hdn : Nat.blt d n = true)
    (pend' : List Nat) (hp : still ops .any pend i = pend') (hk : MV P ops n D Q S w0 base ρ its ((d, .lit undef) :: af) pl (i :: pend')) : MV P ops n D Q S w0 base ρ its af ((i, .held) :: pl) pend := fun l hf a w ha hW => by
  subst hp
  refine ⟨hWS w hW, o, undef, hi, .inr ⟨wantA_ok hf hw a ha, rfl⟩, ?_⟩
  rw [hd]; exact hk _ (FRel.cons hf d rfl) _ _ (ha.put hdn _) hW
theorem MV.lift1 {k : AV → R} (hi : ops[i]? = some o) (hWS : ∀ w, WA w0 base its w → S w) (hv : ∃ v, k v = .ok r T' n' ∧ VAL P S ρ af o.op v) (hw : wantA ops af o.guard = some true) (hd : o.dst = some d) (hdn : Nat.blt d n = true)
    (pend' : List Nat) (hp : still ops .any pend i = pend') (hk : ∀ v, k v = .ok r T' n' → MV P ops n D Q S w0 base ρ its ((d, v) :: af) pl (i :: pend')) : MV P ops n D Q S w0 base ρ its af ((i, .held) :: pl) pend := fun l hf a w ha hW => by
  subst hp
  obtain ⟨v, h1, h2⟩ := hv
  obtain ⟨u, e1, e2⟩ := h2 l hf o.type
  refine ⟨hWS w hW, o, u, hi, .inl ⟨wantA_ok hf hw a ha, fun w hw => e2 a.eval ha.eval o rfl rfl w hw⟩, ?_⟩
  rw [hd]; exact hk v h1 _ (FRel.cons hf d e1) _ _ (ha.put hdn u) hW
theorem MV.step1 (hi : ops[i]? = some o) (hWS : ∀ w, WA w0 base its w → S w) (hv : VAL P S ρ af o.op v) (hw : wantA ops af o.guard = some true) (hd : o.dst = some d) (hdn : Nat.blt d n = true)
    (pend' : List Nat) (hp : still ops .any pend i = pend') (hk : MV P ops n D Q S w0 base ρ its ((d, v) :: af) pl (i :: pend')) : MV P ops n D Q S w0 base ρ its af ((i, .held) :: pl) pend := fun l hf a w ha hW => by
  subst hp
  obtain ⟨u, e1, e2⟩ := hv l hf o.type
  refine ⟨hWS w hW, o, u, hi, .inl ⟨wantA_ok hf hw a ha, fun w hw => e2 a.eval ha.eval o rfl rfl w hw⟩, ?_⟩
  rw [hd]; exact hk _ (FRel.cons hf d e1) _ _ (ha.put hdn u) hW
/-- what is to be shown behind an operation of a plan that came alone -/
abbrev PlanQ (P : Program) (ops : Array Oper) (Q : Exit → Act → World → Prop) (S : World → Prop) (pl : List (Nat × Kd)) (pend : List Nat) (i : Nat) : Exit → Act → World → Prop :=
  Exit.then (fun a w => (still ops .any pend i ≠ [] → S w) ∧ wpPlan P .any ops Q S pl (still ops .any pend i) a w) Q
theorem MV.force (hi : ops[i]? = some o) (h : LV P ops n D (.plain (PlanQ P ops Q S pl pend i)) w0 base ρ its af [o]) : MV P ops n D Q S w0 base ρ its af ((i, .alone) :: pl) pend := fun l hf => MY.force hi (h l hf)
theorem LV.nextM (pend' : List Nat) (hp : still ops .any pend i = pend') (hS : pend' ≠ [] → ∀ w, WA w0 base its w → S w) (h : MV P ops n D Q S w0 base ρ its af pl pend') :
    LV P ops n D (.plain (PlanQ P ops Q S pl pend i)) w0 base ρ its af [] := fun l hf a w ha hW => by
  subst hp
  exact ⟨fun hn => hS hn w hW, h l hf a w ha hW⟩
theorem MV.done (h : PV n D Q w0 base ρ its af .normal) : MV P ops n D Q S w0 base ρ its af [] pend := fun l hf => MY.done (h l hf)
theorem MV.sub (F : AF) (hs : subA F af) (h : MV P ops n D Q S w0 base ρ its F pl pend) : MV P ops n D Q S w0 base ρ its af pl pend := fun l hf => h l (FRel.subA hf hs)
theorem PanicOk.root {fn : Func} {ρ0 : Rho} : PanicOk (Root P fn w0 base E ρ0 ro r T' n') := fun ch a a' w hd hq => ⟨hd ▸ hq.1, hq.2⟩
/-! calls that change nothing that is owned here -/
def closed : AV → Option Value
  | .lit v => some v
  | .agg cs => (litL cs).map fun vs => .agg vs.toArray
  | _ => none
theorem closed_ok {v : AV} {u z : Value} (h : closed v = some u) (hi : inst ρ v = some z) : z = u := by
  unfold closed at h
  split at h
  · cases h; exact inst_lit hi
  · rename_i cs
    cases hl : litL cs with
    | none => rw [hl] at h; cases h
    | some vs =>
      rw [hl] at h; cases h
      obtain ⟨us, h1, rfl⟩ := inst_agg hi
      rw [litL_inst hl h1]
  · cases h
def callQ (c : Nat) (X : R) (k : AV → R) : R :=
  match X with
  | .ok a _ _ => match a with
    | .val v => match closed v with
      | some u => k (.lit u)
      | none => .bad c
    | .pan _ => .bad c
  | .bad c => .bad c
theorem ROT.push {w : World} (hS : ST w0 base E ρ0 ρ T ro nx its) (hw : WA w0 base its w) : ROT w w.heap.size ρ (T :: ro) := by
  intro id m h
  have hl : lookT T ro id = some m := h
  obtain ⟨p, it, us, h1, h2, h3, h4, h5, h6⟩ := hS.look hl
  refine ⟨p, it, us, h1, h2, h3, ?_, fun off u hu => h4 w hw off u hu, (fun n e s cs hi => h5 n e s cs hi w hw), fun ks vs bs ck e => ?_⟩
  rotate_left
  · obtain ⟨us', xs, g1, g2, g3⟩ := h6 ks vs bs ck e
    exact ⟨us', xs, g1, g2, g3 w hw⟩
  unfold lookT at hl
  cases hf : T.get id with
  | some q =>
    obtain ⟨hp, hs, hH⟩ := hS.hp
    obtain ⟨i, it', hfd, hm⟩ := hs id q hf
    obtain ⟨x, _, hx, hi⟩ := findA_ok hH hfd
    cases it' with
    | obj cs T =>
      obtain ⟨p2, us2, g1, _, rfl⟩ := instI_obj hi
      rw [h1] at g1; cases g1
      exact ((hw.get hx).lt p.1 rfl).2
    | row n e s cs =>
      obtain ⟨p2, us2, g1, _, rfl⟩ := instI_row hi
      rw [h1] at g1; cases g1
      exact ((hw.get hx).lt p.1 rfl).2
    | mp ks vs bs ck =>
      obtain ⟨p2, us2, xs2, g1, _, _, rfl⟩ := instI_mp hi
      rw [h1] at g1; cases g1
      exact ((hw.get hx).lt p.1 rfl).2
  | none =>
    rw [hf] at hl
    obtain ⟨p2, _, us2, g1, _, _, g3, _⟩ := hS.ro id m hl
    rw [h1] at g1; cases g1
    exact Nat.lt_of_lt_of_le g3 hw.fits
theorem ST.push {w : World} (hS : ST w0 base E ρ0 ρ T ro nx its) (hw : WA w0 base its w) : ST w w.heap.size E ρ ρ .nil (T :: ro) nx [] :=
  ⟨⟨[], (fun id m h => by cases h), rfl⟩, hS.fresh, ROT.push hS hw, hS.env.push hw, Ext.refl _, hS.opq.push hw⟩
theorem LV.callQ {k : AV → R} {f : FuncId} {args : List AV} {X : R} (hS : ST w0 base E ρ0 ρ T ro nx its) (h : EY.callQ c X k = .ok r T' n') (hG : GOk P E f args (T :: ro) .nil nx X) (ht : targetA af o.op = some (f, args))
    (hw : wantA ops af o.guard = some true) (hd : o.dst = some d) (hdn : Nat.blt d n = true)
    (hk : ∀ v, k v = .ok r T' n' → LV P ops n D (.plain Q) w0 base ρ its ((d, v) :: af) rest) : LV P ops n D (.plain Q) w0 base ρ its af (o :: rest) := fun l hf => by
  unfold EY.callQ at h
  split at h
  · split at h
    · rename_i v
      split at h
      · rename_i u hu
        obtain ⟨hen, hcc⟩ := hG _ _ _ rfl
        obtain ⟨vs, h1, h2⟩ := targetA_ok (P := P) hf ht hen
        refine LX.callE (R := fun e w' => e = .returned u ∧ WA w0 base its w') (wantA_ok hf hw) h2 hd hdn (fun w hw => ?_) fun e w' he => ?_
        · refine (hcc w w.heap.size ρ vs [] (hS.push hw) h1 w (WA.start w)).mono fun e w' he => ?_
          obtain ⟨ρ1, its1, e1, e2, z, e3, rfl⟩ := he
          obtain rfl := closed_ok hu e3
          exact ⟨rfl, Stab.st w w' hw e2.below⟩
        · obtain ⟨rfl, hw'⟩ := he
          exact .inl ⟨u, rfl, fun a ha => hk _ h _ (FRel.cons hf d rfl) a w' ha hw'⟩
      · cases h
    · cases h
  · cases h
end
/-- a run that comes to 'true' -/
def okT (X : R) : Bool := match X with | .ok (.val (.lit (.bool true))) _ _ => true | _ => false
theorem okT_eq {X : R} (h : okT X = true) : ∃ T n, X = .ok (.val (.lit (.bool true))) T n := by
  unfold okT at h
  split at h
  · exact ⟨_, _, rfl⟩
  · cases h
theorem okT_c {P : Program} {E : List (Nat × AV)} {f : FuncId} {vs : List Value} {X : R} (hG : GOk P E f (vs.map .lit) [] .nil 1 X) (h : okT X = true) {w0 : World} {base : Nat} (ρ : Rho) (hE : EE w0 base ρ E) (hO : OPQ w0 base E ρ) (hF : Fresh ρ 1) :
    FnC P f vs.toArray (WA w0 base []) (fun _ : Unit => .bool true) (fun _ => WA w0 base []) := fun w hw => by
  obtain ⟨T, n, hX⟩ := okT_eq h
  obtain ⟨_, hc⟩ := hG _ _ _ hX
  refine (hc w0 base ρ vs [] ⟨⟨[], (fun id m h => by cases h), rfl⟩, hF, (fun id m h => by cases h), hE, Ext.refl _, hO⟩ (instL_lit ρ vs) w hw).mono fun e w' he => ?_
  obtain ⟨ρ1, its1, _, h2, u, h3, rfl⟩ := he
  cases h3
  exact ⟨(), rfl, h2.drop (List.nil_sublist _)⟩
end Go.EY
