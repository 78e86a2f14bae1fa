/-
  Proved here: a small machine that runs code and calls functions: what it comes to is what the model's machine comes to, whatever the world.
-/
import Derived.Test.YtljaoofbklkglaaDoorExG
namespace Go.EX
open Go.SX Go.RowKit
inductive XO where
  | norm
  | exit (id : Nat)
  | ret
  | pan (v : AV)
abbrev StepF := AF → AH → Nat → Option (XO × AF × AH × Nat)
def loud (o : Oper) : Bool :=
  match o.op with
  | .alloc _ | .box .. | .buildSlice .. | .store .. | .makeSlice .. | .panic _ => true
  | .call c => match c.callee with
    | .builtin .append => true
    | _ => false
  | _ => false
def regA (P : Program) (E : List (Nat × AV)) (call : CallF) (n : Nat) (ro : List AH) (ops : Array Oper) (draw : Bool) (af : AF) (hp : AH) (nx : Nat) : Option (OX × AF × AH × Nat) :=
  match draw with
  | false => opsA P E call n ro ops ops.toList af hp nx
  | true => match ops.toList.any loud with
    | true => mixA P E call n ro ops af hp nx
    | false => match Region.lexB .any ops with
      | true => match opsQ P E call n ro ops hp nx ops.toList af with
        | some af' => some (.norm, af', hp, nx)
        | none => mixA P E call n ro ops af hp nx
      | false => mixA P E call n ro ops af hp nx
def ofOX (r : Option (OX × AF × AH × Nat)) : Option (XO × AF × AH × Nat) :=
  match r with
  | some (.norm, s) => some (.norm, s)
  | some (.pan v, s) => some (.pan v, s)
  | none => none
def loopA (step : StepF) : Nat → StepF
  | 0, _, _, _ => none
  | k + 1, af, hp, nx => match step af hp nx with
    | some (.norm, af', hp', nx') => loopA step k af' hp' nx'
    | r => r
def codeA (P : Program) (E : List (Nat × AV)) (call : CallF) (n : Nat) (ro : List AH) : Code → StepF
  | .skip => fun af hp nx => some (.norm, af, hp, nx)
  | .region _ ops draw => fun af hp nx => ofOX (regA P E call n ro ops draw af hp nx)
  | .seq a b => fun af hp nx => match codeA P E call n ro a af hp nx with
    | some (.norm, af', hp', nx') => codeA P E call n ro b af' hp' nx'
    | r => r
  | .cond x a b => fun af hp nx => match evalA af x with
    | some (.lit (.bool true)) => codeA P E call n ro a af hp nx
    | some (.lit (.bool false)) => codeA P E call n ro b af hp nx
    | _ => none
  | .block id c => fun af hp nx => match codeA P E call n ro c af hp nx with
    | some (.exit i, s) => match Nat.beq i id with
      | true => some (.norm, s)
      | false => some (.exit i, s)
    | r => r
  | .loop c => loopA (codeA P E call n ro c) 1000000
  | .exit id => fun af hp nx => some (.exit id, af, hp, nx)
  | .ret => fun af hp nx => some (.ret, af, hp, nx)
  | _ => fun _ _ _ => none
section
variable {P : Program} {w0 : World} {base : Nat} {ρ : Rho} {hp hp' : AH} {ro : List AH} {nx nx' : Nat} {its : List It} {E : List (Nat × AV)} {af af' : AF} {l l' : Fr} {n : Nat} {D : List Deferred} {Q : Exit → Act → World → Prop} {call : CallF} {c : Code} {a : Act} {w : World}
def EndC (n : Nat) (D : List Deferred) (Q : Exit → Act → World → Prop) (w0 : World) (base : Nat) (ρ : Rho) (r : XO) (af' : AF) (hp' : AH) (nx' : Nat) : Prop :=
  ∀ ρ' l' its', Ext ρ ρ' → Fresh ρ' nx' → FRel ρ' af' l' → instH ρ' hp' = some its' → match r with
    | .norm => PX n D Q l' (WA w0 base its') .normal
    | .exit id => PX n D Q l' (WA w0 base its') (.exit id)
    | .ret => PX n D Q l' (WA w0 base its') .ret
    | .pan v => ∀ u, inst ρ' v = some u → PX n D Q l' (WA w0 base its') (.panic [{ v := u, recovered := false }])
theorem EndC.ext {r : XO} {ρ' : Rho} (h : EndC n D Q w0 base ρ r af' hp' nx') (he : Ext ρ ρ') : EndC n D Q w0 base ρ' r af' hp' nx' := fun ρ2 l2 its2 e2 => h ρ2 l2 its2 (he.trans e2)
theorem PanicOk.then {K : Act → World → Prop} (h : PanicOk Q) : PanicOk (Exit.then K Q) := fun c a a' w hd hq => h c a a' w hd hq
theorem PanicOk.block {id : Nat} (h : PanicOk Q) : PanicOk (Exit.inBlock id Q) := fun c a a' w hd hq => h c a a' w hd hq
/-- a loop at its head -/
def LoopAt (P : Program) (c : Code) (Q : Exit → Act → World → Prop) (a : Act) (w : World) : Prop :=
  ∀ b k cs, ∃ e a' w', Q e a' w' ∧ Arrives P (lone (b.at a (.code c :: .inLoop c :: k)) cs w) b k cs e a' w'
theorem loopAt_wp (h : LoopAt P c Q a w) : (Code.loop c).wp P Q a w := fun b k cs => by
  obtain ⟨e, a', w', hq, harr⟩ := h b k cs
  exact ⟨e, a', w', hq, .of_steps (.one step_loop) harr⟩
theorem loopAt_next (h : c.wp P (Exit.then (fun a w => LoopAt P c Q a w) Q) a w) : LoopAt P c Q a w := by
  intro b k cs
  obtain ⟨e, a₁, w₁, hq, harr⟩ := h b (.inLoop c :: k) cs
  cases e with
  | normal =>
    obtain ⟨e₂, a₂, w₂, hq₂, harr₂⟩ := hq b k cs
    exact ⟨e₂, a₂, w₂, hq₂, .of_steps (Steps.trans harr (.one step_inLoop)) harr₂⟩
  | exit id => exact ⟨_, a₁, w₁, hq, .pass (x := .inLoop c) rfl (fun _ _ => .inl (by simp)) harr⟩
  | goto l => exact ⟨_, a₁, w₁, hq, .pass (x := .inLoop c) rfl (fun _ _ => .inl (by simp)) harr⟩
  | ret => exact ⟨_, a₁, w₁, hq, .pass (x := .inLoop c) rfl (fun _ _ => .inl (by simp)) harr⟩
  | panic ch => exact ⟨_, a₁, w₁, hq, .pass (x := .inLoop c) rfl (fun _ _ => .inl (by simp)) harr⟩
  | outgrown => exact ⟨_, a₁, w₁, hq, .pass (x := .inLoop c) rfl (fun _ _ => .inl (by simp)) harr⟩
theorem regA_ok (hC : CallOk P E call) (hm : P.follows .mixedOrders = true) (hQ : PanicOk Q) {id : Nat} {ops : Array Oper} {draw : Bool} {r : OX} (h : regA P E call n ro ops draw af hp nx = some (r, af', hp', nx')) (hf : FRel ρ af l) (hH : instH ρ hp = some its) (hF : Fresh ρ nx) (hR : RO w0 base ρ ro) (hE : EE w0 base ρ E)
    (hk : EndX n D Q w0 base ρ r af' hp' nx') : CX P n D Q l (WA w0 base its) (.region id ops draw) := by
  have he : ops = ops.toList.toArray := by simp
  unfold regA at h
  split at h
  · rw [he]
    rw [he] at h
    refine CX.region ?_
    exact opsA_ok hC _ (by simpa using h) hf hH hF hR hE hk
  · have mix : mixA P E call n ro ops af hp nx = some (r, af', hp', nx') → CX P n D Q l (WA w0 base its) (.region id ops true) := fun h => by
      rw [he]
      rw [he] at h
      exact mixA_ok hC hm hQ h hf hH hF hR hE hk
    split at h
    · exact mix h
    · split at h
      · rename_i hB
        split at h
        · rename_i af1 hq
          cases h
          rw [he] at hB ⊢
          refine CX.regionQ hm hB (opsQ_ok hC hH hF hR hE (fun l' hl' => hk ρ l' its (Ext.refl _) hF hl' hH) _ (af := af) ?_ hf)
          rw [← he]; exact hq
        · exact mix h
      · exact mix h
theorem codeA_ok (hC : CallOk P E call) (hm : P.follows .mixedOrders = true) : ∀ (c : Code) {af : AF} {hp : AH} {nx : Nat} {r : XO} {af' : AF} {hp' : AH} {nx' : Nat} {ρ : Rho} {l : Fr} {its : List It} {Q : Exit → Act → World → Prop},
    codeA P E call n ro c af hp nx = some (r, af', hp', nx') → PanicOk Q → FRel ρ af l → instH ρ hp = some its → Fresh ρ nx → RO w0 base ρ ro → EE w0 base ρ E → EndC n D Q w0 base ρ r af' hp' nx' → CX P n D Q l (WA w0 base its) c := by
  intro c
  induction c with
  | skip =>
    intro af hp nx r af' hp' nx' ρ l its Q h hQ hf hH hF hR hE hk
    unfold codeA at h
    cases h
    exact CX.skip (hk ρ l its (Ext.refl _) hF hf hH)
  | region id ops draw =>
    intro af hp nx r af' hp' nx' ρ l its Q h hQ hf hH hF hR hE hk
    unfold codeA at h
    cases hr : regA P E call n ro ops draw af hp nx with
    | none => rw [hr] at h; cases h
    | some q =>
      obtain ⟨o, af1, hp1, nx1⟩ := q
      rw [hr] at h
      cases o with
      | norm =>
        cases h
        exact regA_ok hC hm hQ hr hf hH hF hR hE fun ρ' l' its' e1 e2 e3 e4 => hk ρ' l' its' e1 e2 e3 e4
      | pan v =>
        cases h
        exact regA_ok hC hm hQ hr hf hH hF hR hE fun ρ' l' its' e1 e2 e3 e4 => hk ρ' l' its' e1 e2 e3 e4
  | seq x y ihx ihy =>
    intro af hp nx r af' hp' nx' ρ l its Q h hQ hf hH hF hR hE hk
    unfold codeA at h
    refine CX.seq ?_
    cases hx : codeA P E call n ro x af hp nx with
    | none => rw [hx] at h; cases h
    | some q =>
      obtain ⟨o, af1, hp1, nx1⟩ := q
      rw [hx] at h
      cases o with
      | norm =>
        exact ihx hx hQ.then hf hH hF hR hE fun ρ' l' its' e1 e2 e3 e4 => PX.thenN (ihy h hQ e3 e4 e2 (hR.ext e1) (hE.ext e1) (hk.ext e1))
      | exit i =>
        cases h
        exact ihx hx hQ.then hf hH hF hR hE fun ρ' l' its' e1 e2 e3 e4 => PX.thenE (hk ρ' l' its' e1 e2 e3 e4)
      | ret =>
        cases h
        exact ihx hx hQ.then hf hH hF hR hE fun ρ' l' its' e1 e2 e3 e4 => PX.thenR (hk ρ' l' its' e1 e2 e3 e4)
      | pan v =>
        cases h
        exact ihx hx hQ.then hf hH hF hR hE fun ρ' l' its' e1 e2 e3 e4 => hk ρ' l' its' e1 e2 e3 e4
  | cond x a b iha ihb =>
    intro af hp nx r af' hp' nx' ρ l its Q h hQ hf hH hF hR hE hk
    unfold codeA at h
    split at h
    · rename_i hx
      obtain ⟨u, h1, h2⟩ := hf.eval hx
      obtain rfl := inst_lit h2
      exact CX.cond h1 (fun _ => iha h hQ hf hH hF hR hE hk) (fun hb => by cases hb)
    · rename_i hx
      obtain ⟨u, h1, h2⟩ := hf.eval hx
      obtain rfl := inst_lit h2
      exact CX.cond h1 (fun hb => by cases hb) (fun _ => ihb h hQ hf hH hF hR hE hk)
    · cases h
  | block id x ih =>
    intro af hp nx r af' hp' nx' ρ l its Q h hQ hf hH hF hR hE hk
    unfold codeA at h
    refine CX.block ?_
    cases hx : codeA P E call n ro x af hp nx with
    | none => rw [hx] at h; cases h
    | some q =>
      obtain ⟨o, af1, hp1, nx1⟩ := q
      rw [hx] at h
      cases o with
      | norm =>
        cases h
        exact ih hx hQ.block hf hH hF hR hE fun ρ' l' its' e1 e2 e3 e4 => PX.blockN (hk ρ' l' its' e1 e2 e3 e4)
      | exit i =>
        dsimp only at h
        split at h
        · rename_i hb
          cases h
          have : i = id := by simpa using hb
          subst this
          exact ih hx hQ.block hf hH hF hR hE fun ρ' l' its' e1 e2 e3 e4 => PX.blockE (hk ρ' l' its' e1 e2 e3 e4)
        · rename_i hb
          cases h
          exact ih hx hQ.block hf hH hF hR hE fun ρ' l' its' e1 e2 e3 e4 => PX.blockO hb (hk ρ' l' its' e1 e2 e3 e4)
      | ret =>
        cases h
        exact ih hx hQ.block hf hH hF hR hE fun ρ' l' its' e1 e2 e3 e4 => PX.blockR (hk ρ' l' its' e1 e2 e3 e4)
      | pan v =>
        cases h
        exact ih hx hQ.block hf hH hF hR hE fun ρ' l' its' e1 e2 e3 e4 => hk ρ' l' its' e1 e2 e3 e4
  | loop x ih =>
    intro af hp nx r af' hp' nx' ρ l its Q h hQ hf hH hF hR hE hk
    unfold codeA at h
    have key : ∀ (k : Nat) {af : AF} {hp : AH} {nx : Nat} {ρ : Rho} {l : Fr} {its : List It}, loopA (codeA P E call n ro x) k af hp nx = some (r, af', hp', nx') → FRel ρ af l → instH ρ hp = some its → Fresh ρ nx → RO w0 base ρ ro → EE w0 base ρ E → EndC n D Q w0 base ρ r af' hp' nx' →
        ∀ a w, Has n D a l → WA w0 base its w → LoopAt P x Q a w := by
      intro k
      induction k with
      | zero => intro af hp nx ρ l its h; cases h
      | succ k ihk =>
        intro af hp nx ρ l its h hf hH hF hR hE hk a w ha hW
        unfold loopA at h
        refine loopAt_next ?_
        cases hx : codeA P E call n ro x af hp nx with
        | none => rw [hx] at h; cases h
        | some q =>
          obtain ⟨o, af1, hp1, nx1⟩ := q
          rw [hx] at h
          have fin : ∀ (K : EndC n D (Exit.then (fun a w => LoopAt P x Q a w) Q) w0 base ρ o af1 hp1 nx1), x.wp P (Exit.then (fun a w => LoopAt P x Q a w) Q) a w := fun K => ih hx hQ.then hf hH hF hR hE K a w ha hW
          cases o with
          | norm => exact fin fun ρ' l' its' e1 e2 e3 e4 a' w' ha' hW' => ihk h e3 e4 e2 (hR.ext e1) (hE.ext e1) (hk.ext e1) a' w' ha' hW'
          | exit i => cases h; exact fin fun ρ' l' its' e1 e2 e3 e4 => PX.thenE (hk ρ' l' its' e1 e2 e3 e4)
          | ret => cases h; exact fin fun ρ' l' its' e1 e2 e3 e4 => PX.thenR (hk ρ' l' its' e1 e2 e3 e4)
          | pan v => cases h; exact fin fun ρ' l' its' e1 e2 e3 e4 => hk ρ' l' its' e1 e2 e3 e4
    exact fun a w ha hW => loopAt_wp (key _ h hf hH hF hR hE hk a w ha hW)
  | exit id =>
    intro af hp nx r af' hp' nx' ρ l its Q h hQ hf hH hF hR hE hk
    unfold codeA at h
    cases h
    exact CX.exit (hk ρ l its (Ext.refl _) hF hf hH)
  | ret =>
    intro af hp nx r af' hp' nx' ρ l its Q h hQ hf hH hF hR hE hk
    unfold codeA at h
    cases h
    exact CX.ret (hk ρ l its (Ext.refl _) hF hf hH)
  | _ => intro af hp nx r af' hp' nx' ρ l its Q h; unfold codeA at h; cases h
end
/-! functions -/
def resV (P : Program) (E : List (Nat × AV)) (ro : List AH) (hp : AH) (af : AF) : ResultVar → Option AV
  | .tmp r => getA af r
  | .cell a t => valA P E ro hp af (.load t (.tmp a))
def resL (P : Program) (E : List (Nat × AV)) (ro : List AH) (hp : AH) (af : AF) : List ResultVar → Option (List AV)
  | [] => some []
  | r :: rs => (resV P E ro hp af r).bind fun v => (resL P E ro hp af rs).map fun vs => v :: vs
def resA (P : Program) (E : List (Nat × AV)) (ro : List AH) (hp : AH) (af : AF) (rs : List ResultVar) : Option AV :=
  (resL P E ro hp af rs).map fun vs => match vs with
    | [v] => v
    | vs => .tup vs
def frameOf : Nat → List AV → AF
  | _, [] => []
  | k, v :: r => (k, v) :: frameOf (k + 1) r
/-- what a small machine knows of a program -/
structure Cfg where
  code : FuncId → Option Func
  E : List (Nat × AV)
  special : CallF → CallF
  scrub : FuncId → Bool
def callA (P : Program) (C : Cfg) : Nat → CallF
  | 0 => fun _ _ _ _ _ => none
  | d + 1 => fun ro f args hp nx =>
    match C.special (callA P C d) ro f args hp nx with
    | some r => some r
    | none => match C.code f with
      | none => none
      | some fn => match fn.body with
        | none => none
        | some c => match Nat.ble args.length fn.ntmps with
          | false => none
          | true => match codeA P C.E (callA P C d) fn.ntmps ro c (frameOf 0 args) hp nx with
            | some (.norm, af', hp', nx') => (resA P C.E ro hp' af' fn.results.toList).map fun v => (.val v, match C.scrub f with | true => hp'.drop (hp'.length - hp.length) | false => hp', nx')
            | some (.ret, af', hp', nx') => (resA P C.E ro hp' af' fn.results.toList).map fun v => (.val v, match C.scrub f with | true => hp'.drop (hp'.length - hp.length) | false => hp', nx')
            | some (.pan v, _, hp', nx') => some (.pan v, hp', nx')
            | _ => none
structure Cfg.Ok (P : Program) (C : Cfg) : Prop where
  orders : P.follows .mixedOrders = true
  code : ∀ f fn, C.code f = some fn → P.funcs[f]? = some fn ∧ (fn.name == "runtime.NumGoroutine") = false
  special : ∀ call, CallOk P C.E call → CallOk P C.E (C.special call)
section
variable {P : Program} {C : Cfg} {w0 : World} {base : Nat} {ρ : Rho} {hp hp' : AH} {ro : List AH} {nx nx' : Nat} {its : List It} {E : List (Nat × AV)} {af af' : AF} {l l' : Fr} {n : Nat} {D : List Deferred} {a : Act} {w : World}
theorem frameOf_ok {vs : List AV} {us : List Value} (h : instL ρ vs = some us) : ∀ (k : Nat), FRel ρ (frameOf k vs) (argFr k us) := by
  induction vs generalizing us with
  | nil => intro k i v hv; cases hv
  | cons x r ih =>
    obtain ⟨u, us', rfl, h1, h2⟩ := instL_cons h
    intro k i v hv
    by_cases hi : k = i
    · subst hi
      unfold frameOf at hv
      rw [getA_same] at hv
      cases hv
      exact ⟨u, by unfold argFr; rw [get_cons_same], h1⟩
    · unfold frameOf at hv
      rw [getA_ne _ _ hi] at hv
      obtain ⟨u', e1, e2⟩ := ih h2 (k + 1) i v hv
      exact ⟨u', by unfold argFr; rw [get_cons_ne _ _ hi]; exact e1, e2⟩
theorem run_bindv_inv {s : Sem Value} {v : Value} {w : World} (h : ((do pure (.value (← s))) : Sem Go.Next).run P w = .ok (.value v) w) : s.run P w = .ok v w := by
  rw [Sem.run_bind] at h
  cases hs : s.run P w with
  | ok u w' =>
    rw [hs] at h
    simp only [Result.andThen_ok, Sem.run_pure, Result.ok.injEq, Go.Next.value.injEq] at h
    rw [h.1, h.2]
  | halt e w' => rw [hs] at h; cases h
def resS (tmps : Array Value) : ResultVar → Sem Value
  | .tmp t => pure (tmps.getD t undef)
  | .cell x t => do loadVar t (← asAddr (tmps.getD x undef))
theorem results_eq (fn : Func) (tmps : Array Value) : results fn tmps = (do let vs ← fn.results.mapM (resS tmps); pure (if h : vs.size = 1 then vs[0] else .tuple vs)) := by
  unfold results
  congr 1
theorem resV_ok (hf : FRel ρ af l) (hH : instH ρ hp = some its) (hR : RO w0 base ρ ro) (hE : EE w0 base ρ E) {r : ResultVar} {v : AV} (h : resV P E ro hp af r = some v) (ha : Has n D a l) (hw : WA w0 base its w) :
    ∃ u, inst ρ v = some u ∧ (resS a.tmps r).run P w = .ok u w := by
  cases r with
  | tmp t =>
    obtain ⟨u, h1, h2⟩ := hf t v h
    exact ⟨u, h2, by simp [resS, getD_of ha h1]⟩
  | cell x t =>
    obtain ⟨u, h1, h2⟩ := valA_ok (o := .load t (.tmp x)) hf hH hR hE h 0
    refine ⟨u, h1, ?_⟩
    have h3 := h2 a.eval ha.eval { dst := none, op := .load t (.tmp x), type := 0, pos := "", after := #[], guard := none } rfl rfl w hw
    have h4 : (Instr.loadAt t (a.eval (.tmp x))).run P w = .ok u w := run_bindv_inv h3
    have h5 : a.eval (.tmp x) = a.tmps.getD x undef := rfl
    rw [h5] at h4
    cases hv : a.tmps.getD x undef with
    | pointer p =>
      rw [hv] at h4
      dsimp only [resS]
      rw [hv]
      cases p with
      | none => cases h4
      | some p => simpa [Instr.loadAt, Instr.sureAddr, asAddr] using h4
    | _ => rw [hv] at h4; cases h4
theorem resA_ok (hf : FRel ρ af l) (hH : instH ρ hp = some its) (hR : RO w0 base ρ ro) (hE : EE w0 base ρ E) {fn : Func} {v : AV} (h : resA P E ro hp af fn.results.toList = some v) (ha : Has n D a l) (hw : WA w0 base its w) :
    ∃ u, inst ρ v = some u ∧ (results fn a.tmps).run P w = .ok u w := by
  have key : ∀ (rs : List ResultVar) {vs : List AV}, resL P E ro hp af rs = some vs → ∃ us, instL ρ vs = some us ∧ (rs.mapM (resS a.tmps)).run P w = .ok us w := by
    intro rs
    induction rs with
    | nil => intro vs h; cases h; exact ⟨[], rfl, by simp⟩
    | cons r rs ih =>
      intro vs h
      unfold resL at h
      obtain ⟨v, hv, h⟩ := Option.bind_eq_some_iff.1 h
      cases hr : resL P E ro hp af rs with
      | none => rw [hr] at h; cases h
      | some vs' =>
        rw [hr] at h; cases h
        obtain ⟨u, e1, e2⟩ := resV_ok hf hH hR hE hv ha hw
        obtain ⟨us, e3, e4⟩ := ih hr
        refine ⟨u :: us, instL_mk e1 e3, ?_⟩
        rw [List.mapM_cons, Sem.run_bind, e2, Result.andThen_ok, Sem.run_bind, e4, Result.andThen_ok, Sem.run_pure]
  unfold resA at h
  cases hl : resL P E ro hp af fn.results.toList with
  | none => rw [hl] at h; cases h
  | some vs =>
    rw [hl] at h
    obtain ⟨us, e1, e2⟩ := key _ hl
    have e3 : (results fn a.tmps).run P w = .ok (if h : us.toArray.size = 1 then us.toArray[0] else .tuple us.toArray) w := by
      rw [results_eq, Array.mapM_eq_mapM_toList, Sem.run_bind, Sem.run_map, e2]
      rfl
    cases vs with
    | nil =>
      cases e1; cases h
      exact ⟨.tuple #[], by unfold inst; rfl, by rw [e3]; rfl⟩
    | cons x r =>
      obtain ⟨u, us', rfl, g1, g2⟩ := instL_cons e1
      cases r with
      | nil =>
        cases g2; cases h
        exact ⟨u, g1, by rw [e3]; rfl⟩
      | cons y r' =>
        cases h
        refine ⟨.tuple (u :: us').toArray, by unfold inst; rw [e1]; rfl, ?_⟩
        rw [e3, dif_neg]
        have := instL_len g2
        simp at this ⊢
        intro hn
        subst hn
        simp at this
theorem dropH_all {ρ : Rho} : ∀ (k : Nat) {hp : AH} {xs : List It}, instH ρ hp = some xs → instH ρ (hp.drop k) = some (xs.drop k)
  | 0, hp, xs, h => h
  | k + 1, [], xs, h => by cases h; rfl
  | k + 1, (id, it) :: r, xs, h => by
    obtain ⟨x, xs', rfl, _, h2⟩ := instH_cons h
    exact dropH_all k h2
theorem callA_ok (hO : C.Ok P) : ∀ d, CallOk P C.E (callA P C d)
  | 0 => fun ro f args hp nx r hp' nx' h => by cases h
  | d + 1 => fun ro f args hp nx r hp' nx' h => by
    have hC := callA_ok hO d
    unfold callA at h
    split at h
    · rename_i q hs
      cases h
      exact hO.special _ hC ro f args hp nx r hp' nx' hs
    · split at h
      · cases h
      · rename_i fn hfn
        obtain ⟨hPf, hname⟩ := hO.code f fn hfn
        split at h
        · cases h
        · rename_i c hb
          split at h
          · cases h
          · rename_i hlen
            have hlen' : args.length ≤ fn.ntmps := by simpa using hlen
            refine ⟨Enters.of hPf hname (by rw [hb]; rfl), fun w0 base ρ vs its hR hE hH hA hF w hW => ?_⟩
            have hvl := instL_len hA
            have scr : ∀ {hp1 : AH} {its1 : List It} {ρ1 : Rho} {w1 : World}, instH ρ1 hp1 = some its1 → WA w0 base its1 w1 → ∃ its2, instH ρ1 (match C.scrub f with | true => hp1.drop (hp1.length - hp.length) | false => hp1) = some its2 ∧ WA w0 base its2 w1 := by
              intro hp1 its1 ρ1 w1 h1 h2
              cases C.scrub f with
              | false => exact ⟨its1, h1, h2⟩
              | true => exact ⟨_, dropH_all _ h1, h2.drop (List.drop_sublist _ _)⟩
            have go : ∀ {o : XO} {af1 : AF} {hp1 : AH} {nx1 : Nat}, codeA P C.E (callA P C d) fn.ntmps ro c (frameOf 0 args) hp nx = some (o, af1, hp1, nx1) →
                EndC fn.ntmps [] (bodyPost P fn fun e w' => ∃ ρ' its', Ext ρ ρ' ∧ Fresh ρ' nx' ∧ instH ρ' hp' = some its' ∧ WA w0 base its' w' ∧ endOk ρ' r e) w0 base ρ o af1 hp1 nx1 →
                Calls P f vs.toArray w fun e w' => ∃ ρ' its', Ext ρ ρ' ∧ Fresh ρ' nx' ∧ instH ρ' hp' = some its' ∧ WA w0 base its' w' ∧ endOk ρ' r e := by
              intro o af1 hp1 nx1 hc hend
              refine calls_of_wp hPf hb ?_
              refine codeA_ok (n := fn.ntmps) (D := []) hC hO.orders c hc (fun ch a a' w hd hq => ?_) (frameOf_ok hA 0) hH hF hR hE hend _ w ?_ hW
              · exact ⟨hd ▸ hq.1, hq.2⟩
              · refine ⟨by simp; omega, rfl, fun i v hi => ?_⟩
                obtain ⟨_, h2⟩ := get_argFr vs 0 i v hi
                have hlt : i < vs.length := (List.getElem?_eq_some_iff.1 h2).1
                rw [Array.getElem?_append_left (by simpa using hlt)]
                simpa using h2
            have ret : ∀ {af1 : AF} {hp1 : AH} {nx1 : Nat}, (resA P C.E ro hp1 af1 fn.results.toList).map (fun v => (AR.val v, (match C.scrub f with | true => hp1.drop (hp1.length - hp.length) | false => hp1), nx1)) = some (r, hp', nx') →
                ∀ ρ' l' its', Ext ρ ρ' → Fresh ρ' nx1 → FRel ρ' af1 l' → instH ρ' hp1 = some its' → ∀ a w', Has fn.ntmps [] a l' → WA w0 base its' w' →
                a.defers = [] ∧ ∃ v, (results fn a.tmps).run P w' = .ok v w' ∧ ∃ ρ' its', Ext ρ ρ' ∧ Fresh ρ' nx' ∧ instH ρ' hp' = some its' ∧ WA w0 base its' w' ∧ endOk ρ' r (.returned v) := by
              intro af1 hp1 nx1 h ρ' l' its' e1 e2 e3 e4 a w' ha hw'
              cases hres : resA P C.E ro hp1 af1 fn.results.toList with
              | none => rw [hres] at h; cases h
              | some v =>
                rw [hres] at h
                simp only [Option.map_some, Option.some.injEq, Prod.mk.injEq] at h
                obtain ⟨rfl, rfl, rfl⟩ := h
                obtain ⟨u, g1, g2⟩ := resA_ok e3 e4 (hR.ext e1) (hE.ext e1) hres ha hw'
                obtain ⟨its2, g3, g4⟩ := scr e4 hw'
                exact ⟨ha.defs, u, g2, ρ', its2, e1, e2, g3, g4, u, g1, rfl⟩
            split at h
            · rename_i af1 hp1 nx1 hc
              exact go hc fun ρ' l' its' e1 e2 e3 e4 a w' ha hw' => ret h ρ' l' its' e1 e2 e3 e4 a w' ha hw'
            · rename_i af1 hp1 nx1 hc
              exact go hc fun ρ' l' its' e1 e2 e3 e4 a w' ha hw' => ret h ρ' l' its' e1 e2 e3 e4 a w' ha hw'
            · rename_i v af1 hp1 nx1 hc
              cases h
              exact go hc fun ρ' l' its' e1 e2 e3 e4 u hu a w' ha hw' => ⟨ha.defs, ρ', its', e1, e2, e4, hw', u, hu, rfl⟩
            · cases h
end
end Go.EX
