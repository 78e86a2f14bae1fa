/-
  Proved here: rules for functions that may end with a panic of their own making. No program stands here.
-/
import Derived.Test.YteibddakpedogaaAgg
import Derived.WalkSmall
namespace Go.SX
open Go.RowKit
section
variable {P : Program} {n : Nat} {D : List Deferred} {l : Fr} {W : World → Prop} {c : Code}
/-- a panic of a value, not recovered -/
@[reducible] def pch (v : Value) : List PanicEntry := [{ v := v, recovered := false }]
/-- how such a function ends -/
def PPost {τ σ : Type} (v : τ → Value) (W' : τ → World → Prop) (pe : σ → Value) (WP : σ → World → Prop) (e : Ending) (w : World) : Prop := (∃ x, e = .returned (v x) ∧ W' x w) ∨ ∃ y, e = .panicked (pch (pe y)) ∧ WP y w
/-- what a call of such a function comes to -/
def FnP (P : Program) (f : FuncId) (args : Array Value) (W : World → Prop) {τ σ : Type} (v : τ → Value) (W' : τ → World → Prop) (pe : σ → Value) (WP : σ → World → Prop) : Prop :=
  ∀ w, W w → Calls P f args w (PPost v W' pe WP)
theorem FnC.toP {τ σ : Type} {f : FuncId} {args : Array Value} {v : τ → Value} {W' : τ → World → Prop} {pe : σ → Value} {WP : σ → World → Prop} (h : FnC P f args W v W') : FnP P f args W v W' pe WP := fun w hw => (h w hw).mono fun _ _ ⟨x, he, hx⟩ => .inl ⟨x, he, hx⟩
theorem FnP.mono {τ σ τ' σ' : Type} {f : FuncId} {args : Array Value} {v : τ → Value} {v' : τ' → Value} {W0 W1 : World → Prop} {W' : τ → World → Prop} {W2 : τ' → World → Prop} {pe : σ → Value} {pe' : σ' → Value} {WP : σ → World → Prop} {WP' : σ' → World → Prop} (h : FnP P f args W0 v W' pe WP) (h0 : ∀ w, W1 w → W0 w)
    (h1 : ∀ x w, W' x w → ∃ x', v x = v' x' ∧ W2 x' w) (h2 : ∀ y w, WP y w → ∃ y', pe y = pe' y' ∧ WP' y' w) : FnP P f args W1 v' W2 pe' WP' := fun w hw => (h w (h0 w hw)).mono fun e w' hh => by
  rcases hh with ⟨x, he, hx⟩ | ⟨y, he, hy⟩
  · obtain ⟨x', e1, h3⟩ := h1 x w' hx
    exact .inl ⟨x', by rw [he, e1], h3⟩
  · obtain ⟨y', e1, h3⟩ := h2 y w' hy
    exact .inr ⟨y', by rw [he, e1], h3⟩
theorem FnP.of_body {τ σ : Type} {v : τ → Value} {W' : τ → World → Prop} {pe : σ → Value} {WP : σ → World → Prop} {f : FuncId} {fn : Func} {args : List Value} (l0 : Fr) (hf : P.funcs[f]? = some fn) (hb : fn.body = some c) (hn : fn.ntmps = n) (ha : Nat.ble args.length n = true) (hs : Sub l0 (argFr 0 args))
    (h : CX P n [] (bodyPost P fn (PPost v W' pe WP)) l0 W c) : FnP P f args.toArray W v W' pe WP := by
  intro w hW
  refine calls_of_wp hf hb (h _ w ?_ hW)
  have ha' : args.length ≤ n := by simpa using ha
  refine Has.sub ⟨?_, rfl, fun i v hi => ?_⟩ hs
  · simp only [Array.size_append, Array.size_replicate, List.size_toArray, hn]; omega
  · obtain ⟨_, h2⟩ := get_argFr args 0 i v hi
    have hlt : i < args.length := (List.getElem?_eq_some_iff.1 h2).1
    rw [Array.getElem?_append_left (by simpa using hlt)]
    simpa using h2
variable {ops : Array Oper} {Q : Exit → Act → World → Prop} {o : Oper} {d : Nat} {rest : List Oper} {t ty : TypeId} {x y : Operand}
theorem LX.callP {τ σ : Type} {v : τ → Value} {W' : τ → World → Prop} {pe : σ → Value} {WP : σ → World → Prop} {f : FuncId} {ps : List Operand} {vs : List Value} {ats : Array TypeId} (hc : FnP P f vs.toArray W v W' pe WP) (hen : Enters P f)
    (ho : o.op = .call { callee := .value (.func f), args := ps.toArray, argTypes := ats }) (hp : evals l ps = some vs) (hg : o.guard = none) (hd : o.dst = some d) (hdn : Nat.blt d n = true)
    (hP : ∀ y, PX n D Q l (WP y) (.panic (pch (pe y))))
    (h : ∀ x, LX P ops n D (.plain Q) ((d, v x) :: l) (W' x) rest) : LX P ops n D (.plain Q) l W (o :: rest) := by
  intro a w ha hW
  unfold wpList
  rw [if_pos (wanted_none hg)]
  left
  unfold Oper.wp
  rw [run_call hen ho hp ha.eval w]
  simp only [Oper.upon]
  refine (hc w hW).mono ?_
  rintro e' w' (⟨x, rfl, hx⟩ | ⟨y, rfl, hy⟩)
  · simp only [hd]
    exact h x _ _ (ha.put hdn _) hx
  · exact hP y a w' ha hy
/-- a closure is called -/
theorem LX.callVP {τ σ : Type} {v : τ → Value} {W' : τ → World → Prop} {pe : σ → Value} {WP : σ → World → Prop} {f : FuncId} {ps : List Operand} {vs : List Value} {fst cap : Array Value} {ats : Array TypeId} (hc : FnP P f (fst ++ vs.toArray ++ cap) W v W' pe WP) (hen : Enters P f)
    (ho : o.op = .call { callee := .value x, args := ps.toArray, argTypes := ats }) (hx : evl l x = some (.func (.func f) fst cap)) (hp : evals l ps = some vs) (hg : o.guard = none) (hd : o.dst = some d) (hdn : Nat.blt d n = true)
    (hP : ∀ y, PX n D Q l (WP y) (.panic (pch (pe y))))
    (h : ∀ q, LX P ops n D (.plain Q) ((d, v q) :: l) (W' q) rest) : LX P ops n D (.plain Q) l W (o :: rest) := by
  intro a w ha hW
  have hr : (execOp a.eval o).run P w = .ok (.enter f (fst ++ vs.toArray ++ cap)) w := by
    have h1 : a.eval x = .func (.func f) fst cap := ha.eval _ _ hx
    have h2 : (ps.toArray.map a.eval) = vs.toArray := by rw [List.map_toArray, evals_map ha.eval ps vs hp]
    have h3 := hen (fst ++ vs.toArray ++ cap) w
    simp only [execOp, ho, resolve, h1, h2, Deferred.ofValue, invoke, Sem.run_bind, Sem.run_pure, Result.andThen_ok]
    simpa using h3
  unfold wpList
  rw [if_pos (wanted_none hg)]
  left
  unfold Oper.wp
  rw [hr]
  simp only [Oper.upon]
  refine (hc w hW).mono ?_
  rintro e' w' (⟨q, rfl, hq⟩ | ⟨y, rfl, hy⟩)
  · simp only [hd]
    exact h q _ _ (ha.put hdn _) hq
  · exact hP y a w' ha hy
/-- an operation whose guard holds is as one without -/
theorem LX.unguard {j s : Nat} {b want : Bool} (hg : o.guard = some (j, want)) (hj : (ops[j]?).bind (·.dst) = some s) (hs : get l s = some (.bool b)) (hb : b = want)
    (h : LX P ops n D (.plain Q) l W ({ o with guard := none } :: rest)) : LX P ops n D (.plain Q) l W (o :: rest) := by
  intro a w ha hW
  have h1 := h a w ha hW
  unfold wpList at h1 ⊢
  rw [if_pos (wanted_none rfl)] at h1
  rw [if_pos (by simp [Region.wanted, hg, ha.yielded hj hs, hb])]
  exact h1
/-- panic of a value -/
theorem LX.panic {u : Value} {k : TypeId} (ho : o.op = .panic x) (hx : evl l x = some (.iface k u)) (hg : o.guard = none) (h : PX n D Q l W (.panic (pch (.iface k u)))) : LX P ops n D (.plain Q) l W (o :: rest) := by
  intro a w ha hW
  have hr : (execOp a.eval o).run P w = .halt (.panic (.iface k u)) w := by
    have h1 : a.eval x = .iface k u := ha.eval _ _ hx
    simp only [execOp, ho, h1]
    rw [Sem.run_bind, run_panic_iface]
    rfl
  unfold wpList
  rw [if_pos (wanted_none hg)]
  left
  unfold Oper.wp
  rw [hr]
  exact h a w ha hW
/-- at the end of a body, however deep within it -/
theorem PX.panicked {fn : Func} {R : Ending → World → Prop} {v : Value} (h : ∀ w, W w → R (.panicked (pch v)) w) : PX n [] (bodyPost P fn R) l W (.panic (pch v)) := fun _ w ha hW => ⟨ha.defs, h w hW⟩
end
section
variable {P : Program} {ops : Array Oper} {n : Nat} {D : List Deferred} {l l' : Fr} {W W' S : World → Prop} {o : Oper} {d : Nat} {v : Value} {Q : Exit → Act → World → Prop} {r : List (Nat × Kd)} {pend : List Nat} {i : Nat}
/-- regions in any order, where an operation may panic -/
def MP (P : Program) (ops : Array Oper) (n : Nat) (D : List Deferred) (Q : Exit → Act → World → Prop) (S : World → Prop) (l : Fr) (W : World → Prop) (plan : List (Nat × Kd)) (pend : List Nat) : Prop :=
  ∀ a w, Has n D a l → W w → wpPlan P .any ops Q S plan pend a w
theorem CX.regionP (S : World → Prop) [hst : Stab W] {id : Nat} {lo : List Oper} (plan : List (Nat × Kd)) (hQ : ∀ c a w d v, Q (.panic c) (a.put d v) w → Q (.panic c) a w) (hm : P.follows .mixedOrders = true) (hB : (Region.noSelect lo.toArray && planOk .any lo.toArray plan (Array.replicate lo.toArray.size false) && (plan.length == lo.toArray.size)) = true)
    (h : MP P lo.toArray n D Q S l W plan []) : CX P n D Q l W (.region id lo.toArray true) := by
  intro a w ha hW
  simp only [Bool.and_eq_true, beq_iff_eq] at hB
  refine wp_region_any hm (wpAny_of_M (S := S) _ _ [] _ _ ?_)
  have h1 := wpAnyM_plan (Q := Q) (S := S) hB.1.1 hQ plan _ [] a _ hB.1.2 (fun h => absurd rfl h) (h a _ ha (Stab.drew hW))
  rw [hB.2] at h1
  exact h1
theorem MP.lift0 (hi : ops[i]? = some o) (hy : Y P l (fun _ => True) o.op o.type v) (hg : o.guard = none) (hd : o.dst = some d) (hdn : Nat.blt d n = true)
    (h : MP P ops n D Q S ((d, v) :: l) W r pend) : MP P ops n D Q S l W ((i, .anywhere) :: r) pend := by
  intro a w ha hW
  refine ⟨o, v, hi, .inl ⟨wanted_none hg, fun w => hy a.eval ha.eval o rfl rfl w trivial⟩, ?_⟩
  rw [hd]; exact h _ _ (ha.put hdn v) hW
theorem MP.lift1 (hi : ops[i]? = some o) (hWS : ∀ w, W w → S w) (hy : Y P l S o.op o.type v) (hg : o.guard = none) (hd : o.dst = some d) (hdn : Nat.blt d n = true)
    (pend' : List Nat) (hp : still ops .any pend i = pend') (h : MP P ops n D Q S ((d, v) :: l) W r (i :: pend')) : MP P ops n D Q S l W ((i, .held) :: r) pend := by
  intro a w ha hW
  subst hp
  refine ⟨hWS w hW, o, v, hi, .inl ⟨wanted_none hg, fun w hw => hy a.eval ha.eval o rfl rfl w hw⟩, ?_⟩
  rw [hd]; exact h _ _ (ha.put hdn v) hW
theorem MP.force (hi : ops[i]? = some o)
    (h : LX P ops n D (.plain (Exit.then (fun a w => (still ops .any pend i ≠ [] → S w) ∧ wpPlan P .any ops Q S r (still ops .any pend i) a w) Q)) l W [o]) : MP P ops n D Q S l W ((i, .alone) :: r) pend := by
  intro a w ha hW
  have := h a w ha hW
  unfold wpList at this
  show wpOp P ops Q i _ a w
  unfold wpOp
  simp only [hi]
  split at this
  · rename_i hw
    rw [if_pos hw]
    rcases this with h1 | ⟨h1, a0, w0, h2⟩
    · exact .inl (Oper.upon_mono (fun a w h => h) (fun e a w he h => by cases e <;> first | exact absurd rfl he | exact h) h1)
    · exact .inr ⟨h1, a0, w0, h2⟩
  · rename_i hw
    rw [if_neg hw]
    exact this
theorem LX.nextP (pend' : List Nat) (hp : still ops .any pend i = pend') (hS : pend' ≠ [] → ∀ w, W w → S w) (h : MP P ops n D Q S l W r pend') :
    LX P ops n D (.plain (Exit.then (fun a w => (still ops .any pend i ≠ [] → S w) ∧ wpPlan P .any ops Q S r (still ops .any pend i) a w) Q)) l W [] := by
  intro a w ha hW
  subst hp
  exact ⟨fun hn => hS hn w hW, h a w ha hW⟩
theorem MP.done (h : PX n D Q l W .normal) : MP P ops n D Q S l W [] pend := fun a w ha hW => h a w ha hW
theorem MP.sub (hs : Sub l' l) (h : MP P ops n D Q S l' W r pend) : MP P ops n D Q S l W r pend := fun a w ha hW => h a w (ha.sub hs) hW
end
end Go.SX
