/-
  Proved here: a small machine's calls, with a deferred call that asks what was thrown: what they come to is what the model's machine comes to, whatever the world.
-/
import Derived.Test.YtickdimknfeddaaGreatDoorBc
namespace Go.EB
open Go.SX Go.EX Go.RowKit
def resV (P : Program) (E : List (Nat × AV)) (ro : List AH) (hp : AH) (af : AF) : ResultVar → Option AV
  | .tmp r => getA af r
  | .cell a t => valA P E ro hp af (.load t (.tmp a))
def resL (P : Program) (E : List (Nat × AV)) (ro : List AH) (hp : AH) (af : AF) : List ResultVar → Option (List AV)
  | [] => some []
  | r :: rs => (resV P E ro hp af r).bind fun v => (resL P E ro hp af rs).map fun vs => v :: vs
def resA (P : Program) (E : List (Nat × AV)) (ro : List AH) (hp : AH) (af : AF) (rs : List ResultVar) : Option AV :=
  (resL P E ro hp af rs).map fun vs => match vs with
    | [v] => v
    | vs => .tup vs
def frameOf : Nat → List AV → AF
  | _, [] => []
  | k, v :: r => (k, v) :: frameOf (k + 1) r
/-- what a small machine knows of a program -/
structure CfgB where
  code : FuncId → Option Func
  E : List (Nat × AV)
  ext : ExtF
  scrub : FuncId → Bool
/-- a closure that asks first what was thrown -/
def asksFirst : Code → Option (Nat × Nat × Code)
  | .seq (.region _ ops false) cd => match ops.toList with
    | [o1, o2] => match o1.op, o1.dst, o1.guard with
      | .call c, some d1, none => match c.callee, c.args.toList with
        | .builtin .recover, [] => match o2.op, o2.dst, o2.guard with
          | .assign (.tmp d1'), some d2, none => match Nat.beq d1 d1' with
            | true => some (d1, d2, cd)
            | false => none
          | _, _, _ => none
        | _, _ => none
      | _, _, _ => none
    | _ => none
  | _ => none
/-- deferred calls, where nothing was thrown -/
def leaveB (P : Program) (C : CfgB) (call : CallB) (ro : List AH) : DF → AH → Nat → Option (AH × Nat)
  | [], hp, nx => some (hp, nx)
  | [(k, ys)], hp, nx => match C.code k with
    | none => none
    | some fn => match fn.body with
      | none => none
      | some c => match asksFirst c with
        | none => none
        | some (d1, d2, cd) => match Nat.ble ys.length fn.ntmps && (Nat.blt d1 fn.ntmps && Nat.blt d2 fn.ntmps), fn.results.toList with
          | true, [] => match codeB P C.E C.ext call fn.ntmps ro cd ((d2, .lit .nilIface) :: (d1, .lit .nilIface) :: frameOf 0 ys) [] hp nx with
            | some (.norm, _, [], hp', nx') => some (hp', nx')
            | _ => none
          | _, _ => none
  | _, _, _ => none
def endB (P : Program) (C : CfgB) (call : CallB) (ro : List AH) (f : FuncId) (fn : Func) (hp : AH) (af1 : AF) (df1 : DF) (hp1 : AH) (nx1 : Nat) : Option (AV × AH × Nat) :=
  match leaveB P C call ro df1 hp1 nx1 with
  | none => none
  | some (hp2, nx2) => (resA P C.E ro hp2 af1 fn.results.toList).map fun v => (v, match C.scrub f with | true => hp2.drop (hp2.length - hp.length) | false => hp2, nx2)
def callB (P : Program) (C : CfgB) : Nat → CallB
  | 0 => fun _ _ _ _ _ => none
  | d + 1 => fun ro f args hp nx => match C.code f with
    | none => none
    | some fn => match fn.body with
      | none => none
      | some c => match Nat.ble args.length fn.ntmps with
        | false => none
        | true => match codeB P C.E C.ext (callB P C d) fn.ntmps ro c (frameOf 0 args) [] hp nx with
          | some (.norm, af1, df1, hp1, nx1) => endB P C (callB P C d) ro f fn hp af1 df1 hp1 nx1
          | some (.ret, af1, df1, hp1, nx1) => endB P C (callB P C d) ro f fn hp af1 df1 hp1 nx1
          | _ => none
structure CfgB.Ok (P : Program) (C : CfgB) : Prop where
  orders : P.follows .mixedOrders = true
  code : ∀ f fn, C.code f = some fn → P.funcs[f]? = some fn ∧ (fn.name == "runtime.NumGoroutine") = false
  ext : ExtOk P C.ext
section
variable {P : Program} {C : CfgB} {w0 : World} {base : Nat} {ρ : Rho} {hp hp' : AH} {ro : List AH} {nx nx' : Nat} {its : List It} {E : List (Nat × AV)} {af af' : AF} {l l' : Fr} {n : Nat} {D : List Deferred} {a : Act} {w : World}
theorem frameOf_ok {vs : List AV} {us : List Value} (h : instL ρ vs = some us) : ∀ (k : Nat), FRel ρ (frameOf k vs) (argFr k us) := by
  induction vs generalizing us with
  | nil => intro k i v hv; cases hv
  | cons x r ih =>
    obtain ⟨u, us', rfl, h1, h2⟩ := instL_cons h
    intro k i v hv
    by_cases hi : k = i
    · subst hi
      unfold frameOf at hv
      rw [getA_same] at hv
      cases hv
      exact ⟨u, by unfold argFr; rw [get_cons_same], h1⟩
    · unfold frameOf at hv
      rw [getA_ne _ _ hi] at hv
      obtain ⟨u', e1, e2⟩ := ih h2 (k + 1) i v hv
      exact ⟨u', by unfold argFr; rw [get_cons_ne _ _ hi]; exact e1, e2⟩
theorem run_bindv_inv {s : Sem Value} {v : Value} {w : World} (h : ((do pure (.value (← s))) : Sem Go.Next).run P w = .ok (.value v) w) : s.run P w = .ok v w := by
  rw [Sem.run_bind] at h
  cases hs : s.run P w with
  | ok u w' =>
    rw [hs] at h
    simp only [Result.andThen_ok, Sem.run_pure, Result.ok.injEq, Go.Next.value.injEq] at h
    rw [h.1, h.2]
  | halt e w' => rw [hs] at h; cases h
def resS (tmps : Array Value) : ResultVar → Sem Value
  | .tmp t => pure (tmps.getD t undef)
  | .cell x t => do loadVar t (← asAddr (tmps.getD x undef))
theorem results_eq (fn : Func) (tmps : Array Value) : results fn tmps = (do let vs ← fn.results.mapM (resS tmps); pure (if h : vs.size = 1 then vs[0] else .tuple vs)) := by
  unfold results
  congr 1
theorem resV_ok (hf : FRel ρ af l) (hH : instH ρ hp = some its) (hR : RO w0 base ρ ro) (hE : EE w0 base ρ E) {r : ResultVar} {v : AV} (h : resV P E ro hp af r = some v) (ha : Has n D a l) (hw : WA w0 base its w) :
    ∃ u, inst ρ v = some u ∧ (resS a.tmps r).run P w = .ok u w := by
  cases r with
  | tmp t =>
    obtain ⟨u, h1, h2⟩ := hf t v h
    exact ⟨u, h2, by simp [resS, getD_of ha h1]⟩
  | cell x t =>
    obtain ⟨u, h1, h2⟩ := valA_ok (o := .load t (.tmp x)) hf hH hR hE h 0
    refine ⟨u, h1, ?_⟩
    have h3 := h2 a.eval ha.eval { dst := none, op := .load t (.tmp x), type := 0, pos := "", after := #[], guard := none } rfl rfl w hw
    have h4 : (Instr.loadAt t (a.eval (.tmp x))).run P w = .ok u w := run_bindv_inv h3
    have h5 : a.eval (.tmp x) = a.tmps.getD x undef := rfl
    rw [h5] at h4
    cases hv : a.tmps.getD x undef with
    | pointer p =>
      rw [hv] at h4
      dsimp only [resS]
      rw [hv]
      cases p with
      | none => cases h4
      | some p => simpa [Instr.loadAt, Instr.sureAddr, asAddr] using h4
    | _ => rw [hv] at h4; cases h4
theorem resA_ok (hf : FRel ρ af l) (hH : instH ρ hp = some its) (hR : RO w0 base ρ ro) (hE : EE w0 base ρ E) {fn : Func} {v : AV} (h : resA P E ro hp af fn.results.toList = some v) (ha : Has n D a l) (hw : WA w0 base its w) :
    ∃ u, inst ρ v = some u ∧ (results fn a.tmps).run P w = .ok u w := by
  have key : ∀ (rs : List ResultVar) {vs : List AV}, resL P E ro hp af rs = some vs → ∃ us, instL ρ vs = some us ∧ (rs.mapM (resS a.tmps)).run P w = .ok us w := by
    intro rs
    induction rs with
    | nil => intro vs h; cases h; exact ⟨[], rfl, by simp⟩
    | cons r rs ih =>
      intro vs h
      unfold resL at h
      obtain ⟨v, hv, h⟩ := Option.bind_eq_some_iff.1 h
      cases hr : resL P E ro hp af rs with
      | none => rw [hr] at h; cases h
      | some vs' =>
        rw [hr] at h; cases h
        obtain ⟨u, e1, e2⟩ := resV_ok hf hH hR hE hv ha hw
        obtain ⟨us, e3, e4⟩ := ih hr
        refine ⟨u :: us, instL_mk e1 e3, ?_⟩
        rw [List.mapM_cons, Sem.run_bind, e2, Result.andThen_ok, Sem.run_bind, e4, Result.andThen_ok, Sem.run_pure]
  unfold resA at h
  cases hl : resL P E ro hp af fn.results.toList with
  | none => rw [hl] at h; cases h
  | some vs =>
    rw [hl] at h
    obtain ⟨us, e1, e2⟩ := key _ hl
    have e3 : (results fn a.tmps).run P w = .ok (if h : us.toArray.size = 1 then us.toArray[0] else .tuple us.toArray) w := by
      rw [results_eq, Array.mapM_eq_mapM_toList, Sem.run_bind, Sem.run_map, e2]
      rfl
    cases vs with
    | nil =>
      cases e1; cases h
      exact ⟨.tuple #[], by unfold inst; rfl, by rw [e3]; rfl⟩
    | cons x r =>
      obtain ⟨u, us', rfl, g1, g2⟩ := instL_cons e1
      cases r with
      | nil =>
        cases g2; cases h
        exact ⟨u, g1, by rw [e3]; rfl⟩
      | cons y r' =>
        cases h
        refine ⟨.tuple (u :: us').toArray, by unfold inst; rw [e1]; rfl, ?_⟩
        rw [e3, dif_neg]
        have := instL_len g2
        simp at this ⊢
        intro hn
        subst hn
        simp at this
theorem dropH_all {ρ : Rho} : ∀ (k : Nat) {hp : AH} {xs : List It}, instH ρ hp = some xs → instH ρ (hp.drop k) = some (xs.drop k)
  | 0, hp, xs, h => h
  | k + 1, [], xs, h => by cases h; rfl
  | k + 1, (id, it) :: r, xs, h => by
    obtain ⟨x, xs', rfl, _, h2⟩ := instH_cons h
    exact dropH_all k h2
theorem asksFirst_ok {c cd : Code} {d1 d2 : Nat} (h : asksFirst c = some (d1, d2, cd)) : ∃ rid t1 t2 ps1 ps2 as1 as2 ats, c = .seq (.region rid #[{ dst := some d1, op := .call { callee := .builtin .recover, args := #[], argTypes := ats }, type := t1, pos := ps1, after := as1, guard := none }, { dst := some d2, op := .assign (.tmp d1), type := t2, pos := ps2, after := as2, guard := none }] false) cd := by
  unfold asksFirst at h
  split at h <;> try (cases h; done)
  rename_i rid ops cd'
  split at h <;> try (cases h; done)
  rename_i o1 o2 hl
  split at h <;> try (cases h; done)
  rename_i cl d1' h1 h2 h3
  split at h <;> try (cases h; done)
  rename_i hc ha
  split at h <;> try (cases h; done)
  rename_i q d2' h4 h5 h6
  split at h <;> try (cases h; done)
  rename_i hb
  cases h
  have e : d1 = q := by simpa using hb
  subst e
  obtain rfl : ops = #[o1, o2] := Array.toList_inj.1 hl
  obtain ⟨b1, b2, b3, b4, b5, b6⟩ := o1
  obtain ⟨c1, c2, c3, c4, c5, c6⟩ := o2
  obtain ⟨k1, k2, k3⟩ := cl
  simp only at h1 h2 h3 h4 h5 h6 hc ha
  subst h1; subst h2; subst h3; subst h4; subst h5; subst h6; subst hc
  obtain rfl : k2 = #[] := Array.toList_inj.1 ha
  exact ⟨_, _, _, _, _, _, _, _, rfl⟩
theorem getF_two {us : List Value} {d1 d2 : Nat} (z : Value) (h1 : d1 < n) (h2 : d2 < n) (hl : us.length ≤ n) : Has n [] (({ tmps := us.toArray ++ Array.replicate (n - us.toArray.size) undef, defers := [] } : Act).put (some d1) z |>.put (some d2) z) ((d2, z) :: (d1, z) :: argFr 0 us) := by
  have hH : Has n [] { tmps := us.toArray ++ Array.replicate (n - us.toArray.size) undef, defers := [] } (argFr 0 us) := by
    refine ⟨by simp; omega, rfl, fun i v hi => ?_⟩
    obtain ⟨_, h2⟩ := get_argFr us 0 i v hi
    have hlt : i < us.length := (List.getElem?_eq_some_iff.1 h2).1
    rw [Array.getElem?_append_left (by simpa using hlt)]
    simpa using h2
  exact (hH.put (by simpa using h1) z).put (by simpa using h2) z
theorem FRel.consB {af : AF} (h : FRel ρ af l) {v : AV} {u : Value} (d : Nat) (hv : inst ρ v = some u) : FRel ρ ((d, v) :: af) ((d, u) :: l) := fun i x hx => by
  by_cases hi : d = i
  · subst hi
    rw [getA_same] at hx
    cases hx
    exact ⟨u, get_cons_same _ _ _, hv⟩
  · rw [getA_ne _ _ hi] at hx
    obtain ⟨u', h1, h2⟩ := h i x hx
    exact ⟨u', by rw [get_cons_ne _ _ hi]; exact h1, h2⟩
/-- a deferred call, where nothing was thrown -/
theorem asks_ok (hO : C.Ok P) {call : CallB} (hC : CallBOk P C.E call) {k : FuncId} {fn : Func} {ys : List AV} {us : List Value} {c cd : Code} {d1 d2 : Nat} {af1 : AF} (hfn : C.code k = some fn) (hb : fn.body = some c) (hc : asksFirst c = some (d1, d2, cd))
    (hlen : Nat.ble ys.length fn.ntmps = true) (hd1 : Nat.blt d1 fn.ntmps = true) (hd2 : Nat.blt d2 fn.ntmps = true) (hr : fn.results.toList = []) (hgo : codeB P C.E C.ext call fn.ntmps ro cd ((d2, .lit .nilIface) :: (d1, .lit .nilIface) :: frameOf 0 ys) [] hp nx = some (.norm, af1, [], hp', nx'))
    (hH : instH ρ hp = some its) (hF : Fresh ρ nx) (hR : RO w0 base ρ ro) (hE : EE w0 base ρ C.E) (hA : instL ρ ys = some us) (hW : WA w0 base its w) :
    CallsD P k us.toArray .returning w fun e u2 w' => e = .returned (.tuple #[]) ∧ u2 = .returning ∧ ∃ ρ' its', Ext ρ ρ' ∧ Fresh ρ' nx' ∧ instH ρ' hp' = some its' ∧ WA w0 base its' w' := by
  obtain ⟨hPf, hname⟩ := hO.code k fn hfn
  have hvl := instL_len hA
  have hlen' : us.length ≤ fn.ntmps := by rw [hvl]; simpa using hlen
  have hd1' : d1 < fn.ntmps := by simpa using hd1
  have hd2' : d2 < fn.ntmps := by simpa using hd2
  obtain ⟨rid, t1, t2, ps1, ps2, as1, as2, ats, rfl⟩ := asksFirst_ok hc
  refine callsD_of_wpS hPf hb fun c₀ cs hm => ?_
  have hrec : recoverD (c₀ :: cs) = none := by simp [recoverD, hm]
  apply wpS_seq
  apply wpS_region
  have hcv : CX P fn.ntmps [] (fun e a w => e = .normal ∧ a.defers = [] ∧ ∃ ρ' its', Ext ρ ρ' ∧ Fresh ρ' nx' ∧ instH ρ' hp' = some its' ∧ WA w0 base its' w) ((d2, .nilIface) :: (d1, .nilIface) :: argFr 0 us) (WA w0 base its) cd :=
    codeB_ok hO.ext hC hO.orders cd hgo (FRel.consB (FRel.consB (frameOf_ok hA 0) d1 rfl) d2 rfl) hH (D := []) rfl hF hR hE fun ρ' l' its' D' e1 e2 e3 e4 e5 a w' ha hW' => by
      cases e5
      exact ⟨rfl, ha.defs, ρ', its', e1, e2, e4, hW'⟩
  have fin : cd.wpS P (bodyPostS P fn c₀ cs fun e u2 w' => e = .returned (.tuple #[]) ∧ u2 = .returning ∧ ∃ ρ' its', Ext ρ ρ' ∧ Fresh ρ' nx' ∧ instH ρ' hp' = some its' ∧ WA w0 base its' w')
      (({ tmps := us.toArray ++ Array.replicate (fn.ntmps - us.toArray.size) undef, defers := [] } : Act).put (some d1) .nilIface |>.put (some d2) .nilIface) (c₀ :: cs) w := by
    refine wpS_of_wp (wp_mono (hcv _ w (getF_two .nilIface hd1' hd2' hlen') hW) fun e a' w' he => ?_)
    obtain ⟨rfl, hd, hx⟩ := he
    refine ⟨hd, .returning, ?_, .tuple #[], results_none (Array.toList_inj.1 hr) _ P w', rfl, rfl, hx⟩
    cases c₀; simp_all
  have e1 : ∀ (a : Act), (execOp a.eval { dst := some d1, op := .call { callee := .builtin .recover, args := #[], argTypes := ats }, type := t1, pos := ps1, after := as1, guard := none }).run P w = .ok .recover w := fun a => by rfl
  show wpOpsS P _ _ [0, 1] _ _ _
  unfold wpOpsS
  simp only [List.size_toArray, List.length_cons, List.length_nil, List.getElem?_toArray, List.getElem?_cons_zero, Region.wanted, if_true, e1]
  have ev : ((({ tmps := us.toArray ++ Array.replicate (fn.ntmps - us.toArray.size) undef, defers := [] } : Act).put (some d1) .nilIface).eval (.tmp d1)) = .nilIface := by
    have hH : Has fn.ntmps [] { tmps := us.toArray ++ Array.replicate (fn.ntmps - us.toArray.size) undef, defers := [] } [] := ⟨by simp; omega, rfl, fun i v hi => by cases hi⟩
    exact (hH.put hd1 .nilIface).eval _ _ (get_cons_same _ _ _)
  have e2 : (execOp (({ tmps := us.toArray ++ Array.replicate (fn.ntmps - us.toArray.size) undef, defers := [] } : Act).put (some d1) .nilIface).eval { dst := some d2, op := .assign (.tmp d1), type := t2, pos := ps2, after := as2, guard := none }).run P w = .ok (.value .nilIface) w := by
    simp only [execOp, ev]; rfl
  simp only [List.size_toArray] at fin ev e2
  rw [hrec]
  unfold wpOpsS
  simp only [List.getElem?_toArray, List.getElem?_cons_succ, List.getElem?_cons_zero, Region.wanted, if_true, e2]
  simp only [Oper.upon]
  unfold wpOpsS
  exact fin
theorem callB_ok (hO : C.Ok P) : ∀ d, CallBOk P C.E (callB P C d)
  | 0 => fun ro f args hp nx v hp' nx' h => by cases h
  | d + 1 => fun ro f args hp nx v hp' nx' h => by
    have hC := callB_ok hO d
    unfold callB at h
    split at h <;> try (cases h; done)
    rename_i fn hfn
    obtain ⟨hPf, hname⟩ := hO.code f fn hfn
    split at h <;> try (cases h; done)
    rename_i c hb
    split at h <;> try (cases h; done)
    rename_i hlen
    have hlen' : args.length ≤ fn.ntmps := by simpa using hlen
    refine ⟨Enters.of hPf hname (by rw [hb]; rfl), fun w0 base ρ vs its hR hE hH hA hF w hW => ?_⟩
    have hvl := instL_len hA
    refine calls_of_wp_defers hPf hb ?_
    have hinit : Has fn.ntmps [] { tmps := vs.toArray ++ Array.replicate (fn.ntmps - vs.toArray.size) undef, defers := [] } (argFr 0 vs) := by
      refine ⟨by simp; omega, rfl, fun i v hi => ?_⟩
      obtain ⟨_, h2⟩ := get_argFr vs 0 i v hi
      have hlt : i < vs.length := (List.getElem?_eq_some_iff.1 h2).1
      rw [Array.getElem?_append_left (by simpa using hlt)]
      simpa using h2
    have fin : ∀ {af1 : AF} {df1 : DF} {hp1 : AH} {nx1 : Nat}, endB P C (callB P C d) ro f fn hp af1 df1 hp1 nx1 = some (v, hp', nx') → ∀ ρ' l' its' D', Ext ρ ρ' → Fresh ρ' nx1 → FRel ρ' af1 l' → instH ρ' hp1 = some its' → instD ρ' df1 = some D' → ∀ (a : Act) (w : World), Has fn.ntmps D' a l' → WA w0 base its' w →
        Leaves P fn a.tmps (fun e w' => ∃ ρ' its', Ext ρ ρ' ∧ Fresh ρ' nx' ∧ instH ρ' hp' = some its' ∧ WA w0 base its' w' ∧ ∃ u, inst ρ' v = some u ∧ e = .returned u) a.defers .returning w := by
      intro af1 df1 hp1 nx1 h ρ' l' its' D' e1 e2 e3 e4 e5 a w ha hW
      unfold endB at h
      split at h <;> try (cases h; done)
      rename_i hp2 nx2 hl
      have last : ∀ ρ2 its2 w2, Ext ρ' ρ2 → Fresh ρ2 nx2 → instH ρ2 hp2 = some its2 → WA w0 base its2 w2 → ∀ a' : Act, Has fn.ntmps [] a' l' → ∃ v', (results fn a'.tmps).run P w2 = .ok v' w2 ∧ ∃ ρ' its', Ext ρ ρ' ∧ Fresh ρ' nx' ∧ instH ρ' hp' = some its' ∧ WA w0 base its' w2 ∧ ∃ u, inst ρ' v = some u ∧ Ending.returned v' = .returned u := by
        intro ρ2 its2 w2 g1 g2 g3 g4 a' ha'
        cases hres : resA P C.E ro hp2 af1 fn.results.toList with
        | none => rw [hres] at h; cases h
        | some v1 =>
          rw [hres] at h
          simp only [Option.map_some, Option.some.injEq, Prod.mk.injEq] at h
          obtain ⟨rfl, rfl, rfl⟩ := h
          obtain ⟨u, q1, q2⟩ := resA_ok (e3.ext g1) g3 (hR.ext (e1.trans g1)) (hE.ext (e1.trans g1)) hres ha' g4
          refine ⟨u, q2, ρ2, ?_⟩
          cases C.scrub f with
          | false => exact ⟨its2, e1.trans g1, g2, g3, g4, u, q1, rfl⟩
          | true => exact ⟨_, e1.trans g1, g2, dropH_all _ g3, g4.drop (List.drop_sublist _ _), u, q1, rfl⟩
      unfold leaveB at hl
      split at hl
      · cases hl
        cases e5
        rw [ha.defs]
        exact last ρ' its' w (Ext.refl _) e2 e4 hW a ha
      · rename_i k ys
        split at hl <;> try (cases hl; done)
        rename_i fk hfk
        split at hl <;> try (cases hl; done)
        rename_i ck hbk
        split at hl <;> try (cases hl; done)
        rename_i d1 d2 cd hask
        split at hl <;> try (cases hl; done)
        rename_i hchk hres
        simp only [Bool.and_eq_true] at hchk
        split at hl <;> try (cases hl; done)
        rename_i af3 hp3 nx3 hgo
        cases hl
        unfold instD at e5
        obtain ⟨us, g1, g2⟩ := Option.bind_eq_some_iff.1 e5
        simp only [instD, Option.map_some, Option.some.injEq] at g2
        subst g2
        obtain ⟨hPk, hnk⟩ := hO.code k fk hfk
        rw [ha.defs]
        refine leaves_cons (f := k) (args := us.toArray) (by simp) (by simpa [invoke] using Enters.of hPk hnk (by rw [hbk]; rfl) us.toArray w) ?_
        refine (asks_ok hO hC hfk hbk hask hchk.1 hchk.2.1 hchk.2.2 hres hgo e4 e2 (hR.ext e1) (hE.ext e1) g1 hW).mono fun e u2 w' he => ?_
        obtain ⟨rfl, rfl, ρ2, its2, q1, q2, q3, q4⟩ := he
        exact last ρ2 its2 w' q1 q2 q3 q4 { a with defers := [] } ⟨ha.size, rfl, ha.slot⟩
      · cases hl
    split at h
    · rename_i af1 df1 hp1 nx1 hc
      exact codeB_ok hO.ext hC hO.orders c hc (frameOf_ok hA 0) hH (D := []) rfl hF hR hE (fun ρ' l' its' D' e1 e2 e3 e4 e5 a w' ha hW' => fin h ρ' l' its' D' e1 e2 e3 e4 e5 a w' ha hW') _ w hinit hW
    · rename_i af1 df1 hp1 nx1 hc
      exact codeB_ok hO.ext hC hO.orders c hc (frameOf_ok hA 0) hH (D := []) rfl hF hR hE (fun ρ' l' its' D' e1 e2 e3 e4 e5 a w' ha hW' => fin h ρ' l' its' D' e1 e2 e3 e4 e5 a w' ha hW') _ w hinit hW
    · cases h
end
end Go.EB
