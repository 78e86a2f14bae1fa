/-
  Proved here: a small machine's lists of operations: they do what the model's do.
-/
import Derived.Test.YtickdimknfeddaaGreatDoorExE
namespace Go.EX
open Go.SX Go.RowKit
inductive AR where
  | val (v : AV)
  | pan (v : AV)
def targetA (af : AF) (o : Op) : Option (FuncId × List AV) :=
  match o with
  | .call c => match c.callee with
    | .value f => match evalA af f with
      | some (.lit (.func (.func k) x y)) => match x.toList, y.toList with
        | [], [] => (evalsA af c.args.toList).map fun as => (k, as)
        | _, _ => none
      | some (.fn (.func k) x y) => (evalsA af c.args.toList).map fun as => (k, x ++ (as ++ y))
      | _ => none
    | _ => none
  | _ => none
section
variable {P : Program} {w0 : World} {base : Nat} {ρ : Rho} {hp hp' : AH} {ro : List AH} {nx : Nat} {its : List It} {E : List (Nat × AV)} {af : AF} {l : Fr} {ops : Array Oper} {n : Nat} {D : List Deferred} {Q : Exit → Act → World → Prop} {rest : List Oper} {o : Oper} {d : Nat} {v : AV} {m : SX.Mode} {W : World → Prop}
theorem run_target {k : FuncId} {x y vs : List Value} {c : Call} {f : Operand} (hen : Enters P k) (ho : o.op = .call c) (hc : c.callee = .value f) {σ : Operand → Value} (hσ : ∀ x u, evl l x = some u → σ x = u)
    (hf : evl l f = some (.func (.func k) x.toArray y.toArray)) (ha : evals l c.args.toList = some vs) (w : World) : (execOp σ o).run P w = .ok (.enter k (x ++ (vs ++ y)).toArray) w := by
  have h1 := hσ _ _ hf
  have h2 : c.args.map σ = vs.toArray := by
    rw [← evals_map hσ _ _ ha, ← List.map_toArray]
  have h3 := hen (x ++ (vs ++ y)).toArray w
  have h4 : x.toArray ++ vs.toArray ++ y.toArray = (x ++ (vs ++ y)).toArray := by simp
  simp only [execOp, ho, resolve, hc, h1, h2, Deferred.ofValue, invoke, Sem.run_bind, Sem.run_pure, Result.andThen_ok, h4, h3, pure_bind]
theorem targetA_ok (hf : FRel ρ af l) {k : FuncId} {as : List AV} (h : targetA af o.op = some (k, as)) (hen : Enters P k) : ∃ vs, instL ρ as = some vs ∧ ∀ (σ : Operand → Value), (∀ x u, evl l x = some u → σ x = u) → ∀ w, (execOp σ o).run P w = .ok (.enter k vs.toArray) w := by
  unfold targetA at h
  split at h
  · rename_i c ho
    split at h
    · rename_i f hc
      split at h
      · rename_i k' x y hx
        split at h
        · rename_i hx0 hy0
          cases hev : evalsA af c.args.toList with
          | none => rw [hev] at h; cases h
          | some vs =>
            rw [hev] at h; cases h
            obtain ⟨u, h1, h2⟩ := hf.eval hx
            obtain rfl := inst_lit h2
            obtain ⟨us, h3, h4⟩ := evalsA_ok hf hev
            refine ⟨us, h4, fun σ hσ w => ?_⟩
            have := run_target (P := P) (x := []) (y := []) hen ho hc hσ (by rw [h1, ← Array.toArray_toList (xs := x), hx0, ← Array.toArray_toList (xs := y), hy0]) h3 w
            simpa using this
        · cases h
      · rename_i k' x y hx
        cases hev : evalsA af c.args.toList with
        | none => rw [hev] at h; cases h
        | some vs =>
          rw [hev] at h; cases h
          obtain ⟨u, h1, h2⟩ := hf.eval hx
          obtain ⟨x', y', e1, e2, rfl⟩ := inst_fn h2
          obtain ⟨us, h3, h4⟩ := evalsA_ok hf hev
          exact ⟨x' ++ (us ++ y'), instL_app e1 (instL_app h4 e2), fun σ hσ w => run_target hen ho hc hσ h1 h3 w⟩
      · cases h
    · cases h
  · cases h
/-- whether a guarded operation is carried out -/
def wantA (all : Array Oper) (af : AF) (g : Option (Nat × Bool)) : Option Bool :=
  match g with
  | none => some true
  | some (j, want) => match (all[j]?).bind (·.dst) with
    | some s => match getA af s with
      | some (.lit (.bool b)) => some (b == want)
      | some (.lit (.tuple vs)) => match vs.toList with
        | [] => some false
        | _ => none
      | _ => none
    | none => none
theorem wantA_ok (hf : FRel ρ af l) {b : Bool} (h : wantA ops af o.guard = some b) : ∀ a, Has n D a l → Region.wanted o (yielded ops a.tmps) = b := by
  intro a ha
  unfold wantA at h
  split at h
  · rename_i hg; cases h; exact wanted_none hg
  · rename_i j want hg
    split at h
    · rename_i s hj
      split at h
      · rename_i b' hs
        cases h
        obtain ⟨u, h1, h2⟩ := hf s _ hs
        obtain rfl := inst_lit h2
        simp only [Region.wanted, hg, ha.yielded hj h1]
        cases b' <;> cases want <;> rfl
      · rename_i vs hs
        split at h
        · rename_i hv
          cases h
          obtain ⟨u, h1, h2⟩ := hf s _ hs
          obtain rfl := inst_lit h2
          have h3 := ha.slot s _ h1
          simp only [Region.wanted, hg, Go.yielded, hj, Option.bind_some, h3]
          rfl
        · cases h
      · cases h
    · cases h
theorem LX.skip1 (hw : ∀ a, Has n D a l → Region.wanted o (yielded ops a.tmps) = false) (hd : o.dst = some d) (hdn : Nat.blt d n = true) (h : LX P ops n D m ((d, undef) :: l) W rest) : LX P ops n D m l W (o :: rest) := by
  cases m with
  | plain Q =>
    intro a w ha hW
    unfold wpList
    rw [if_neg (by simp [hw a ha]), hd]
    exact h _ _ (ha.put hdn _) hW
  | quiet R =>
    intro a ha
    unfold wpQuiet
    rw [if_neg (by simp [hw a ha]), hd]
    exact h _ (ha.put hdn _)
theorem LX.unguard (hw : ∀ a, Has n D a l → Region.wanted o (yielded ops a.tmps) = true) (h : LX P ops n D (.plain Q) l W ({ o with guard := none } :: rest)) : LX P ops n D (.plain Q) l W (o :: rest) := by
  intro a w ha hW
  have h1 := h a w ha hW
  unfold wpList at h1 ⊢
  rw [if_pos (wanted_none rfl)] at h1
  rw [if_pos (hw a ha)]
  exact h1
/-- a call, whatever becomes of it -/
theorem LX.callE {k : FuncId} {vs : List Value} {R : Ending → World → Prop} (hw : ∀ a, Has n D a l → Region.wanted o (yielded ops a.tmps) = true)
    (ht : ∀ (σ : Operand → Value), (∀ x u, evl l x = some u → σ x = u) → ∀ w, (execOp σ o).run P w = .ok (.enter k vs.toArray) w) (hd : o.dst = some d) (hdn : Nat.blt d n = true)
    (hc : ∀ w, W w → Calls P k vs.toArray w R)
    (hr : ∀ e w', R e w' → (∃ u, e = .returned u ∧ ∀ a, Has n D a ((d, u) :: l) → wpList P ops Q rest a w') ∨ (∃ ch, e = .panicked ch ∧ ∀ a, Has n D a l → Q (.panic ch) a w')) : LX P ops n D (.plain Q) l W (o :: rest) := by
  intro a w ha hW
  unfold wpList
  rw [if_pos (hw a ha)]
  left
  unfold Oper.wp
  rw [ht a.eval ha.eval w]
  simp only [Oper.upon]
  refine (hc w hW).mono ?_
  intro e w' he
  rcases hr e w' he with ⟨u, rfl, h⟩ | ⟨ch, rfl, h⟩
  · simp only [hd]; exact h _ (ha.put hdn _)
  · exact h a ha
/-! lists of operations -/
def val2A (P : Program) (E : List (Nat × AV)) (ro : List AH) (hp : AH) (af : AF) (o : Op) : Option AV :=
  match valA P E ro hp af o with
  | some v => some v
  | none => buildA P af o
theorem val2A_ok (hf : FRel ρ af l) (hH : instH ρ hp = some its) (hR : RO w0 base ρ ro) (hE : EE w0 base ρ E) {o : Op} {v : AV} (h : val2A P E ro hp af o = some v) (ty : TypeId) :
    ∃ u, inst ρ v = some u ∧ Y P l (WA w0 base its) o ty u := by
  unfold val2A at h
  cases hp' : valA P E ro hp af o with
  | some v' => rw [hp'] at h; cases h; exact valA_ok hf hH hR hE hp' ty
  | none => rw [hp'] at h; exact buildA_ok hf h _ ty
def new2A (P : Program) (ro : List AH) (hp : AH) (nx : Nat) (af : AF) (o : Op) : Option (AV × AH) :=
  match newA P hp nx af o with
  | some r => some r
  | none => match o with
    | .call c => appA P ro hp nx af c
    | _ => none
theorem new2A_ok (hf : FRel ρ af l) (hH : instH ρ hp = some its) (hR : RO w0 base ρ ro) (hF : Fresh ρ nx) (h : new2A P ro hp nx af o.op = some (v, hp')) (hg : o.guard = none) (hd : o.dst = some d) (hdn : Nat.blt d n = true)
    (hk : Next P ops n D Q w0 base ρ hp' (nx + 1) v d l rest) : LX P ops n D (.plain Q) l (WA w0 base its) (o :: rest) := by
  unfold new2A at h
  cases hn : newA P hp nx af o.op with
  | some r => rw [hn] at h; cases h; exact newA_ok hf hH hF hn hg hd hdn hk
  | none =>
    rw [hn] at h
    dsimp only at h
    split at h
    · rename_i c ho
      exact appA_ok hf hH hR hF ho h hg hd hdn hk
    · cases h
inductive OX where
  | norm
  | pan (v : AV)
/-- what is to be shown where operations end -/
def EndX (n : Nat) (D : List Deferred) (Q : Exit → Act → World → Prop) (w0 : World) (base : Nat) (ρ : Rho) (r : OX) (af' : AF) (hp' : AH) (nx' : Nat) : Prop :=
  ∀ ρ' l' its', Ext ρ ρ' → Fresh ρ' nx' → FRel ρ' af' l' → instH ρ' hp' = some its' → match r with
    | .norm => PX n D Q l' (WA w0 base its') .normal
    | .pan v => ∀ u, inst ρ' v = some u → PX n D Q l' (WA w0 base its') (.panic [{ v := u, recovered := false }])
theorem EndX.ext {r : OX} {af' : AF} {nx' : Nat} {ρ' : Rho} (h : EndX n D Q w0 base ρ r af' hp' nx') (he : Ext ρ ρ') : EndX n D Q w0 base ρ' r af' hp' nx' := fun ρ2 l2 its2 e2 => h ρ2 l2 its2 (he.trans e2)
/-- what a call may read that must not change what is owned here -/
theorem RO.push {w : World} (hH : instH ρ hp = some its) (hR : RO w0 base ρ ro) (hw : WA w0 base its w) : RO w w.heap.size ρ (hp :: ro) := by
  intro id it h
  have hl : lookA hp ro id = some it := h
  obtain ⟨p, us, h1, h2, h3, h4⟩ := look_ok hH hR hl
  refine ⟨p, us, h1, h2, ?_, fun off u hu => h3 w hw off u hu, fun n e s cs hi => h4 n e s cs hi w hw⟩
  unfold lookA at hl
  cases hfd : findA hp id 0 with
  | some q =>
    obtain ⟨i, it'⟩ := q
    obtain ⟨x, _, hx, hi⟩ := findA_ok hH hfd
    cases it' with
    | obj cs T =>
      obtain ⟨p2, us2, g1, _, rfl⟩ := instI_obj hi
      rw [h1] at g1; cases g1
      exact ((hw.get hx).lt p.1 rfl).2
    | row n e s cs =>
      obtain ⟨p2, us2, g1, _, rfl⟩ := instI_row hi
      rw [h1] at g1; cases g1
      exact ((hw.get hx).lt p.1 rfl).2
    | mp ks vs bs ck =>
      obtain ⟨p2, us2, xs2, g1, _, _, rfl⟩ := instI_mp hi
      rw [h1] at g1; cases g1
      exact ((hw.get hx).lt p.1 rfl).2
  | none =>
    rw [hfd] at hl
    obtain ⟨p2, us2, g1, _, g3, _⟩ := hR id it hl
    rw [h1] at g1; cases g1
    exact Nat.lt_of_lt_of_le g3 hw.fits
theorem EE.push {w : World} (hE : EE w0 base ρ E) (hw : WA w0 base its w) : EE w w.heap.size ρ E := fun g v hg => by
  obtain ⟨u, h1, h2, h3⟩ := hE g v hg
  exact ⟨u, h1, hw.old (a := ⟨g, 0, none⟩) h3 h2, Nat.lt_of_lt_of_le h3 hw.fits⟩
end
end Go.EX
