/-
  Proved here: a small machine's lists of operations: they do what the model's do.
-/
import Derived.Test.YtifanilblkellaaGreatDoorExE
namespace Go.EX
open Go.SX Go.RowKit
inductive AR where
  | val (v : AV)
  | pan (v : AV)
abbrev CallF := List AH → FuncId → List AV → AH → Nat → Option (AR × AH × Nat)
def endOk (ρ : Rho) (r : AR) (e : Ending) : Prop :=
  match r with
  | .val v => ∃ u, inst ρ v = some u ∧ e = .returned u
  | .pan v => ∃ u, inst ρ v = some u ∧ e = .panicked [{ v := u, recovered := false }]
def CallOk (P : Program) (E : List (Nat × AV)) (call : CallF) : Prop :=
  ∀ ro f args hp nx r hp' nx', call ro f args hp nx = some (r, hp', nx') → Enters P f ∧
    ∀ w0 base ρ vs its, RO w0 base ρ ro → EE w0 base ρ E → instH ρ hp = some its → instL ρ args = some vs → Fresh ρ nx →
      ∀ w, WA w0 base its w → Calls P f vs.toArray w fun e w' => ∃ ρ' its', Ext ρ ρ' ∧ Fresh ρ' nx' ∧ instH ρ' hp' = some its' ∧ WA w0 base its' w' ∧ endOk ρ' r e
def targetA (af : AF) (o : Op) : Option (FuncId × List AV) :=
  match o with
  | .call c => match c.callee with
    | .value f => match evalA af f with
      | some (.lit (.func (.func k) x y)) => match x.toList, y.toList with
        | [], [] => (evalsA af c.args.toList).map fun as => (k, as)
        | _, _ => none
      | some (.fn (.func k) x y) => (evalsA af c.args.toList).map fun as => (k, x ++ (as ++ y))
      | _ => none
    | _ => none
  | _ => none
section
variable {P : Program} {w0 : World} {base : Nat} {ρ : Rho} {hp hp' : AH} {ro : List AH} {nx : Nat} {its : List It} {E : List (Nat × AV)} {af : AF} {l : Fr} {ops : Array Oper} {n : Nat} {D : List Deferred} {Q : Exit → Act → World → Prop} {rest : List Oper} {o : Oper} {d : Nat} {v : AV} {m : SX.Mode} {W : World → Prop}
theorem run_target {k : FuncId} {x y vs : List Value} {c : Call} {f : Operand} (hen : Enters P k) (ho : o.op = .call c) (hc : c.callee = .value f) {σ : Operand → Value} (hσ : ∀ x u, evl l x = some u → σ x = u)
    (hf : evl l f = some (.func (.func k) x.toArray y.toArray)) (ha : evals l c.args.toList = some vs) (w : World) : (execOp σ o).run P w = .ok (.enter k (x ++ (vs ++ y)).toArray) w := by
  have h1 := hσ _ _ hf
  have h2 : c.args.map σ = vs.toArray := by
    rw [← evals_map hσ _ _ ha, ← List.map_toArray]
  have h3 := hen (x ++ (vs ++ y)).toArray w
  have h4 : x.toArray ++ vs.toArray ++ y.toArray = (x ++ (vs ++ y)).toArray := by simp
  simp only [execOp, ho, resolve, hc, h1, h2, Deferred.ofValue, invoke, Sem.run_bind, Sem.run_pure, Result.andThen_ok, h4, h3, pure_bind]
theorem targetA_ok (hf : FRel ρ af l) {k : FuncId} {as : List AV} (h : targetA af o.op = some (k, as)) (hen : Enters P k) : ∃ vs, instL ρ as = some vs ∧ ∀ (σ : Operand → Value), (∀ x u, evl l x = some u → σ x = u) → ∀ w, (execOp σ o).run P w = .ok (.enter k vs.toArray) w := by
  unfold targetA at h
  split at h
  · rename_i c ho
    split at h
    · rename_i f hc
      split at h
      · rename_i k' x y hx
        split at h
        · rename_i hx0 hy0
          cases hev : evalsA af c.args.toList with
          | none => rw [hev] at h; cases h
          | some vs =>
            rw [hev] at h; cases h
            obtain ⟨u, h1, h2⟩ := hf.eval hx
            obtain rfl := inst_lit h2
            obtain ⟨us, h3, h4⟩ := evalsA_ok hf hev
            refine ⟨us, h4, fun σ hσ w => ?_⟩
            have := run_target (P := P) (x := []) (y := []) hen ho hc hσ (by rw [h1, ← Array.toArray_toList (xs := x), hx0, ← Array.toArray_toList (xs := y), hy0]) h3 w
            simpa using this
        · cases h
      · rename_i k' x y hx
        cases hev : evalsA af c.args.toList with
        | none => rw [hev] at h; cases h
        | some vs =>
          rw [hev] at h; cases h
          obtain ⟨u, h1, h2⟩ := hf.eval hx
          obtain ⟨x', y', e1, e2, rfl⟩ := inst_fn h2
          obtain ⟨us, h3, h4⟩ := evalsA_ok hf hev
          exact ⟨x' ++ (us ++ y'), instL_app e1 (instL_app h4 e2), fun σ hσ w => run_target hen ho hc hσ h1 h3 w⟩
      · cases h
    · cases h
  · cases h
/-- whether a guarded operation is carried out -/
def wantA (all : Array Oper) (af : AF) (g : Option (Nat × Bool)) : Option Bool :=
  match g with
  | none => some true
  | some (j, want) => match (all[j]?).bind (·.dst) with
    | some s => match getA af s with
      | some (.lit (.bool b)) => some (b == want)
      | some (.lit (.tuple vs)) => match vs.toList with
        | [] => some false
        | _ => none
      | _ => none
    | none => none
theorem wantA_ok (hf : FRel ρ af l) {b : Bool} (h : wantA ops af o.guard = some b) : ∀ a, Has n D a l → Region.wanted o (yielded ops a.tmps) = b := by
  intro a ha
  unfold wantA at h
  split at h
  · rename_i hg; cases h; exact wanted_none hg
  · rename_i j want hg
    split at h
    · rename_i s hj
      split at h
      · rename_i b' hs
        cases h
        obtain ⟨u, h1, h2⟩ := hf s _ hs
        obtain rfl := inst_lit h2
        simp only [Region.wanted, hg, ha.yielded hj h1]
        cases b' <;> cases want <;> rfl
      · rename_i vs hs
        split at h
        · rename_i hv
          cases h
          obtain ⟨u, h1, h2⟩ := hf s _ hs
          obtain rfl := inst_lit h2
          have h3 := ha.slot s _ h1
          simp only [Region.wanted, hg, Go.yielded, hj, Option.bind_some, h3]
          rfl
        · cases h
      · cases h
    · cases h
theorem LX.skip1 (hw : ∀ a, Has n D a l → Region.wanted o (yielded ops a.tmps) = false) (hd : o.dst = some d) (hdn : Nat.blt d n = true) (h : LX P ops n D m ((d, undef) :: l) W rest) : LX P ops n D m l W (o :: rest) := by
  cases m with
  | plain Q =>
    intro a w ha hW
    unfold wpList
    rw [if_neg (by simp [hw a ha]), hd]
    exact h _ _ (ha.put hdn _) hW
  | quiet R =>
    intro a ha
    unfold wpQuiet
    rw [if_neg (by simp [hw a ha]), hd]
    exact h _ (ha.put hdn _)
theorem LX.unguard (hw : ∀ a, Has n D a l → Region.wanted o (yielded ops a.tmps) = true) (h : LX P ops n D (.plain Q) l W ({ o with guard := none } :: rest)) : LX P ops n D (.plain Q) l W (o :: rest) := by
  intro a w ha hW
  have h1 := h a w ha hW
  unfold wpList at h1 ⊢
  rw [if_pos (wanted_none rfl)] at h1
  rw [if_pos (hw a ha)]
  exact h1
/-- a call, whatever becomes of it -/
theorem LX.callE {k : FuncId} {vs : List Value} {R : Ending → World → Prop} (hw : ∀ a, Has n D a l → Region.wanted o (yielded ops a.tmps) = true)
    (ht : ∀ (σ : Operand → Value), (∀ x u, evl l x = some u → σ x = u) → ∀ w, (execOp σ o).run P w = .ok (.enter k vs.toArray) w) (hd : o.dst = some d) (hdn : Nat.blt d n = true)
    (hc : ∀ w, W w → Calls P k vs.toArray w R)
    (hr : ∀ e w', R e w' → (∃ u, e = .returned u ∧ ∀ a, Has n D a ((d, u) :: l) → wpList P ops Q rest a w') ∨ (∃ ch, e = .panicked ch ∧ ∀ a, Has n D a l → Q (.panic ch) a w')) : LX P ops n D (.plain Q) l W (o :: rest) := by
  intro a w ha hW
  unfold wpList
  rw [if_pos (hw a ha)]
  left
  unfold Oper.wp
  rw [ht a.eval ha.eval w]
  simp only [Oper.upon]
  refine (hc w hW).mono ?_
  intro e w' he
  rcases hr e w' he with ⟨u, rfl, h⟩ | ⟨ch, rfl, h⟩
  · simp only [hd]; exact h _ (ha.put hdn _)
  · exact h a ha
theorem LX.panicE {u : Value} {t : TypeId} {x : Operand} (hw : ∀ a, Has n D a l → Region.wanted o (yielded ops a.tmps) = true) (ho : o.op = .panic x) (hx : evl l x = some (.iface t u))
    (h : ∀ a w, Has n D a l → W w → Q (.panic [{ v := .iface t u, recovered := false }]) a w) : LX P ops n D (.plain Q) l W (o :: rest) := by
  intro a w ha hW
  unfold wpList
  rw [if_pos (hw a ha)]
  left
  unfold Oper.wp
  have : (execOp a.eval o).run P w = .halt (.panic (.iface t u)) w := by
    simp only [execOp, ho, ha.eval _ _ hx]
    rfl
  rw [this]
  exact h a w ha hW
/-! lists of operations -/
def val2A (P : Program) (E : List (Nat × AV)) (ro : List AH) (hp : AH) (af : AF) (o : Op) : Option AV :=
  match valA P E ro hp af o with
  | some v => some v
  | none => buildA P af o
theorem val2A_ok (hf : FRel ρ af l) (hH : instH ρ hp = some its) (hR : RO w0 base ρ ro) (hE : EE w0 base ρ E) {o : Op} {v : AV} (h : val2A P E ro hp af o = some v) (ty : TypeId) :
    ∃ u, inst ρ v = some u ∧ Y P l (WA w0 base its) o ty u := by
  unfold val2A at h
  cases hp' : valA P E ro hp af o with
  | some v' => rw [hp'] at h; cases h; exact valA_ok hf hH hR hE hp' ty
  | none => rw [hp'] at h; exact buildA_ok hf h _ ty
def new2A (P : Program) (ro : List AH) (hp : AH) (nx : Nat) (af : AF) (o : Op) : Option (AV × AH) :=
  match newA P hp nx af o with
  | some r => some r
  | none => match o with
    | .call c => appA P ro hp nx af c
    | _ => none
theorem new2A_ok (hf : FRel ρ af l) (hH : instH ρ hp = some its) (hR : RO w0 base ρ ro) (hF : Fresh ρ nx) (h : new2A P ro hp nx af o.op = some (v, hp')) (hg : o.guard = none) (hd : o.dst = some d) (hdn : Nat.blt d n = true)
    (hk : Next P ops n D Q w0 base ρ hp' (nx + 1) v d l rest) : LX P ops n D (.plain Q) l (WA w0 base its) (o :: rest) := by
  unfold new2A at h
  cases hn : newA P hp nx af o.op with
  | some r => rw [hn] at h; cases h; exact newA_ok hf hH hF hn hg hd hdn hk
  | none =>
    rw [hn] at h
    dsimp only at h
    split at h
    · rename_i c ho
      exact appA_ok hf hH hR hF ho h hg hd hdn hk
    · cases h
inductive OX where
  | norm
  | pan (v : AV)
/-- operations in their own order -/
def opsA (P : Program) (E : List (Nat × AV)) (call : CallF) (n : Nat) (ro : List AH) (all : Array Oper) : List Oper → AF → AH → Nat → Option (OX × AF × AH × Nat)
  | [], af, hp, nx => some (.norm, af, hp, nx)
  | o :: rest, af, hp, nx =>
    match wantA all af o.guard with
    | none => none
    | some false => match o.dst with
      | some d => match Nat.blt d n with
        | true => opsA P E call n ro all rest (putA af d (.lit (.tuple #[]))) hp nx
        | false => none
      | none => none
    | some true => match o.dst with
      | some d => match Nat.blt d n with
        | false => none
        | true => match val2A P E ro hp af o.op with
          | some v => opsA P E call n ro all rest (putA af d v) hp nx
          | none => match new2A P ro hp nx af o.op with
            | some (v, hp') => opsA P E call n ro all rest (putA af d v) hp' (nx + 1)
            | none => match targetA af o.op with
              | some (k, as) => match call ro k as hp nx with
                | some (.val v, hp', nx') => opsA P E call n ro all rest (putA af d v) hp' nx'
                | some (.pan v, hp', nx') => some (.pan v, af, hp', nx')
                | none => none
              | none => none
      | none => match o.op with
        | .store t x y => match storeA P hp af t x y with
          | some hp' => opsA P E call n ro all rest af hp' nx
          | none => none
        | .panic x => match evalA af x with
          | some (.iface t v) => some (.pan (.iface t v), af, hp, nx)
          | _ => none
        | _ => none
/-- what is to be shown where operations end -/
def EndX (n : Nat) (D : List Deferred) (Q : Exit → Act → World → Prop) (w0 : World) (base : Nat) (ρ : Rho) (r : OX) (af' : AF) (hp' : AH) (nx' : Nat) : Prop :=
  ∀ ρ' l' its', Ext ρ ρ' → Fresh ρ' nx' → FRel ρ' af' l' → instH ρ' hp' = some its' → match r with
    | .norm => PX n D Q l' (WA w0 base its') .normal
    | .pan v => ∀ u, inst ρ' v = some u → PX n D Q l' (WA w0 base its') (.panic [{ v := u, recovered := false }])
theorem EndX.ext {r : OX} {af' : AF} {nx' : Nat} {ρ' : Rho} (h : EndX n D Q w0 base ρ r af' hp' nx') (he : Ext ρ ρ') : EndX n D Q w0 base ρ' r af' hp' nx' := fun ρ2 l2 its2 e2 => h ρ2 l2 its2 (he.trans e2)
theorem opsA_ok {call : CallF} (hC : CallOk P E call) : ∀ (rest : List Oper) {af : AF} {hp : AH} {nx : Nat} {r : OX} {af' : AF} {hp' : AH} {nx' : Nat} {ρ : Rho} {l : Fr} {its : List It},
    opsA P E call n ro ops rest af hp nx = some (r, af', hp', nx') → FRel ρ af l → instH ρ hp = some its → Fresh ρ nx → RO w0 base ρ ro → EE w0 base ρ E → EndX n D Q w0 base ρ r af' hp' nx' →
    LX P ops n D (.plain Q) l (WA w0 base its) rest
  | [], af, hp, nx, r, af', hp', nx', ρ, l, its, h, hf, hH, hF, hR, hE, hk => by
    cases h
    exact LX.next (hk ρ l its (Ext.refl _) hF hf hH)
  | o :: rest, af, hp, nx, r, af', hp', nx', ρ, l, its, h, hf, hH, hF, hR, hE, hk => by
    unfold opsA at h
    split at h
    · cases h
    · rename_i hw
      have hw' := wantA_ok (n := n) (D := D) hf hw
      split at h
      · rename_i d hd
        split at h
        · rename_i hdn
          exact LX.skip1 hw' hd hdn (opsA_ok hC rest h (hf.put d rfl) hH hF hR hE hk)
        · cases h
      · cases h
    · rename_i hw
      have hw' := wantA_ok (n := n) (D := D) hf hw
      split at h
      · rename_i d hd
        split at h
        · cases h
        · rename_i hdn
          split at h
          · rename_i v hv
            obtain ⟨u, h1, h2⟩ := val2A_ok hf hH hR hE hv o.type
            exact LX.step1 hw' h2 hd hdn (opsA_ok hC rest h (hf.put d h1) hH hF hR hE hk)
          · split at h
            · rename_i v hp1 hv
              refine LX.unguard hw' ?_
              refine new2A_ok (o := { o with guard := none }) hf hH hR hF hv rfl hd hdn fun ρ' u its' e1 e2 e3 e4 => ?_
              exact opsA_ok hC rest h ((hf.ext e1).put d e3) e4 e2 (hR.ext e1) (hE.ext e1) (hk.ext e1)
            · split at h
              · rename_i k as ht
                have key : ∀ {r1 : AR} {hp1 : AH} {nx1 : Nat}, call ro k as hp nx = some (r1, hp1, nx1) → ∃ vs : List Value, (∀ (σ : Operand → Value), (∀ x u, evl l x = some u → σ x = u) → ∀ w, (execOp σ o).run P w = .ok (.enter k vs.toArray) w) ∧
                    ∀ w, WA w0 base its w → Calls P k vs.toArray w fun e w' => ∃ ρ' its', Ext ρ ρ' ∧ Fresh ρ' nx1 ∧ instH ρ' hp1 = some its' ∧ WA w0 base its' w' ∧ endOk ρ' r1 e := by
                  intro r1 hp1 nx1 hc
                  obtain ⟨hen, hcc⟩ := hC _ _ _ _ _ _ _ _ hc
                  obtain ⟨vs, h1, h2⟩ := targetA_ok (P := P) hf ht hen
                  exact ⟨vs, h2, fun w hw => hcc w0 base ρ vs its hR hE hH h1 hF w hw⟩
                split at h
                · rename_i v hp1 nx1 hc
                  obtain ⟨vs, h2, h3⟩ := key hc
                  refine LX.callE hw' h2 hd hdn h3 fun e w' he => ?_
                  obtain ⟨ρ', its', e1, e2, e3, e4, u, e5, rfl⟩ := he
                  exact .inl ⟨u, rfl, fun a ha => opsA_ok hC rest h ((hf.ext e1).put d e5) e3 e2 (hR.ext e1) (hE.ext e1) (hk.ext e1) a w' ha e4⟩
                · rename_i v hp1 nx1 hc
                  cases h
                  obtain ⟨vs, h2, h3⟩ := key hc
                  refine LX.callE hw' h2 hd hdn h3 fun e w' he => ?_
                  obtain ⟨ρ', its', e1, e2, e3, e4, u, e5, rfl⟩ := he
                  exact .inr ⟨_, rfl, fun a ha => hk ρ' l its' e1 e2 (hf.ext e1) e3 u e5 a w' ha e4⟩
                · cases h
              · cases h
      · rename_i hd
        split at h
        · rename_i t x y ho
          split at h
          · rename_i hp1 hs
            refine LX.unguard hw' ?_
            exact storeA_ok (o := { o with guard := none }) hf hH ho hs rfl hd fun its' e => opsA_ok hC rest h hf e hF hR hE hk
          · cases h
        · rename_i x ho
          split at h
          · rename_i t v hx
            cases h
            obtain ⟨u, h1, h2⟩ := hf.eval hx
            obtain ⟨z, h3, rfl⟩ := inst_if h2
            exact LX.panicE hw' ho h1 fun a w ha hW => hk ρ l its (Ext.refl _) hF hf hH _ h2 a w ha hW
          · cases h
        · cases h
/-- operations in whatever order, where none changes what is known -/
def opsQ (P : Program) (E : List (Nat × AV)) (call : CallF) (n : Nat) (ro : List AH) (all : Array Oper) (hp : AH) (nx : Nat) : List Oper → AF → Option AF
  | [], af => some af
  | o :: rest, af =>
    match wantA all af o.guard, o.dst with
    | some false, some d => match Nat.blt d n with
      | true => opsQ P E call n ro all hp nx rest (putA af d (.lit (.tuple #[])))
      | false => none
    | some true, some d => match Nat.blt d n with
      | false => none
      | true => match val2A P E ro hp af o.op with
        | some v => opsQ P E call n ro all hp nx rest (putA af d v)
        | none => match targetA af o.op with
          | some (k, as) => match call (hp :: ro) k as [] nx with
            | some (.val (.lit u), _, _) => opsQ P E call n ro all hp nx rest (putA af d (.lit u))
            | _ => none
          | none => none
    | _, _ => none
theorem WA.below_base {w : World} (h : WA w0 base its w) : base ≤ w.heap.size := h.fits
/-- what a call may read that must not change what is owned here -/
theorem RO.push {w : World} (hH : instH ρ hp = some its) (hR : RO w0 base ρ ro) (hw : WA w0 base its w) : RO w w.heap.size ρ (hp :: ro) := by
  intro id it h
  have hl : lookA hp ro id = some it := h
  obtain ⟨p, us, h1, h2, h3, h4⟩ := look_ok hH hR hl
  refine ⟨p, us, h1, h2, ?_, fun off u hu => h3 w hw off u hu, fun n e s cs hi => h4 n e s cs hi w hw⟩
  unfold lookA at hl
  cases hfd : findA hp id 0 with
  | some q =>
    obtain ⟨i, it'⟩ := q
    obtain ⟨x, _, hx, hi⟩ := findA_ok hH hfd
    cases it' with
    | obj cs T =>
      obtain ⟨p2, us2, g1, _, rfl⟩ := instI_obj hi
      rw [h1] at g1; cases g1
      exact ((hw.get hx).lt p.1 rfl).2
    | row n e s cs =>
      obtain ⟨p2, us2, g1, _, rfl⟩ := instI_row hi
      rw [h1] at g1; cases g1
      exact ((hw.get hx).lt p.1 rfl).2
    | mp ks vs bs ck =>
      obtain ⟨p2, us2, xs2, g1, _, _, rfl⟩ := instI_mp hi
      rw [h1] at g1; cases g1
      exact ((hw.get hx).lt p.1 rfl).2
  | none =>
    rw [hfd] at hl
    obtain ⟨p2, us2, g1, _, g3, _⟩ := hR id it hl
    rw [h1] at g1; cases g1
    exact Nat.lt_of_lt_of_le g3 hw.fits
theorem EE.push {w : World} (hE : EE w0 base ρ E) (hw : WA w0 base its w) : EE w w.heap.size ρ E := fun g v hg => by
  obtain ⟨u, h1, h2, h3⟩ := hE g v hg
  exact ⟨u, h1, hw.old (a := ⟨g, 0, none⟩) h3 h2, Nat.lt_of_lt_of_le h3 hw.fits⟩
theorem opsQ_ok {call : CallF} (hC : CallOk P E call) (hH : instH ρ hp = some its) (hF : Fresh ρ nx) (hR : RO w0 base ρ ro) (hE : EE w0 base ρ E) {af' : AF} (hk : ∀ l', FRel ρ af' l' → PX n D Q l' (WA w0 base its) .normal) :
    ∀ (rest : List Oper) {af : AF} {l : Fr}, opsQ P E call n ro ops hp nx rest af = some af' → FRel ρ af l → LX P ops n D (.quiet (fun a' => ∀ w', WA w0 base its w' → Q .normal a' w')) l (WA w0 base its) rest
  | [], af, l, h, hf => by
    cases h
    exact LX.nextQ (hk l hf)
  | o :: rest, af, l, h, hf => by
    unfold opsQ at h
    split at h
    · rename_i d hw hd
      split at h
      · rename_i hdn
        exact LX.skip1 (wantA_ok hf hw) hd hdn (opsQ_ok hC hH hF hR hE hk rest h (hf.put d rfl))
      · cases h
    · rename_i d hw hd
      split at h
      · cases h
      · rename_i hdn
        split at h
        · rename_i v hv
          obtain ⟨u, h1, h2⟩ := val2A_ok hf hH hR hE hv o.type
          exact LX.step1 (wantA_ok hf hw) h2 hd hdn (opsQ_ok hC hH hF hR hE hk rest h (hf.put d h1))
        · split at h
          · rename_i k as ht
            split at h
            · rename_i u hp1 nx1 hc
              obtain ⟨hen, hcc⟩ := hC _ _ _ _ _ _ _ _ hc
              obtain ⟨vs, h1, h2⟩ := targetA_ok (P := P) hf ht hen
              have hrest := opsQ_ok hC hH hF hR hE hk rest h (hf.put d (v := .lit u) rfl)
              intro a ha
              unfold wpQuiet
              rw [if_pos (wantA_ok hf hw a ha)]
              refine ⟨u, fun w hW => ?_, by rw [hd]; exact hrest _ (ha.put hdn u)⟩
              unfold Oper.quietAt
              rw [h2 a.eval ha.eval w]
              refine ⟨rfl, (hcc w w.heap.size ρ vs [] (RO.push hH hR hW) (EE.push hE hW) rfl h1 hF w (WA.start w)).mono fun e w' he => ?_⟩
              obtain ⟨ρ', its', e1, e2, e3, e4, u', e5, rfl⟩ := he
              obtain rfl := inst_lit e5
              exact ⟨rfl, Stab.st w w' hW e4.below⟩
            · cases h
          · cases h
    · cases h
end
end Go.EX
