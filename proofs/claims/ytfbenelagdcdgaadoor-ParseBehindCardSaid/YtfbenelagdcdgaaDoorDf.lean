/-
  Proved here: rules for functions with one deferred closure that asks what was thrown; what a call leaves, laid on what was owned before. No program stands here.
-/
import Derived.Test.YtfbenelagdcdgaaDoorPr
import Derived.Test.YtfbenelagdcdgaaDoorRi
import Derived.Recover
namespace Go.SX
open Go.RowKit
section
variable {P : Program} {ops : Array Oper} {n : Nat} {D : List Deferred} {l : Fr} {W : World → Prop} {o : Oper} {Q : Exit → Act → World → Prop} {rest : List Oper} {c : Code}
/-- a closure is deferred -/
theorem LX.defer {k : FuncId} {us : Array Value} {cl : Call} {fo : Operand} (ho : o.op = .defer cl) (hc : cl.callee = .value fo) (hca : cl.args = #[]) (hv : evl l fo = some (.func (.func k) #[] us)) (hg : o.guard = none) (hd : o.dst = none)
    (hk : LX P ops n ({ target := .fn (.func k) us, args := #[] } :: D) (.plain Q) l W rest) : LX P ops n D (.plain Q) l W (o :: rest) := by
  intro a w ha hW
  unfold wpList
  rw [if_pos (wanted_none hg)]
  left
  unfold Oper.wp
  have : (execOp a.eval o).run P w = .ok (.defer { target := .fn (.func k) us, args := #[] }) w := by
    simp [execOp, ho, resolve, hc, hca, ha.eval _ _ hv, Deferred.ofValue]
  rw [this]
  simp only [Oper.upon, hd]
  exact hk _ w ⟨ha.size, by show _ :: a.defers = _; rw [ha.defs], ha.slot⟩ hW
/-- what a call with deferred calls comes to -/
theorem FnC.of_bodyD {τ : Type} {v : τ → Value} {W' : τ → World → Prop} {f : FuncId} {fn : Func} {args : List Value} (l0 : Fr) (hf : P.funcs[f]? = some fn) (hb : fn.body = some c) (hn : fn.ntmps = n) (ha : Nat.ble args.length n = true) (hs : Sub l0 (argFr 0 args))
    (h : CX P n [] (bodyPostD P fn fun e w => ∃ x, e = .returned (v x) ∧ W' x w) l0 W c) : FnC P f args.toArray W v W' := by
  intro w hW
  refine calls_of_wp_defers hf hb (h _ w ?_ hW)
  have ha' : args.length ≤ n := by simpa using ha
  refine Has.sub ⟨?_, rfl, fun i v hi => ?_⟩ hs
  · simp only [Array.size_append, Array.size_replicate, List.size_toArray, hn]; omega
  · obtain ⟨_, h2⟩ := get_argFr args 0 i v hi
    have hlt : i < args.length := (List.getElem?_eq_some_iff.1 h2).1
    rw [Array.getElem?_append_left (by simpa using hlt)]
    simpa using h2
/-- what was thrown, as a deferred call finds it -/
inductive Thrown : FrameMode → Value → FrameMode → Prop
  | no : Thrown .returning .nilIface .returning
  | yes (v : Value) : Thrown (.panicking (pch v)) v (.panicking [{ v := v, recovered := true }])
theorem Thrown.out {u u' : FrameMode} {v : Value} (h : Thrown u v u') : settle u' = .returning := by
  cases h <;> rfl
theorem Thrown.runs {u u' : FrameMode} {v : Value} (h : Thrown u v u') : u ≠ .run := by
  cases h <;> intro e <;> cases e
/-- a deferred call that asks what was thrown -/
theorem callsD_asks {k : FuncId} {fn : Func} {us : List Value} {cd : Code} {rid d1 d2 : Nat} {t1 t2 : TypeId} {ps1 ps2 : String} {as1 as2 : Array Edge} {ats : Array TypeId} {u u' : FrameMode} {v : Value} {W W' : World → Prop} (hn : fn.ntmps = n)
    (hPf : P.funcs[k]? = some fn) (hb : fn.body = some (.seq (.region rid #[{ dst := some d1, op := .call { callee := .builtin .recover, args := #[], argTypes := ats }, type := t1, pos := ps1, after := as1, guard := none }, { dst := some d2, op := .assign (.tmp d1), type := t2, pos := ps2, after := as2, guard := none }] false) cd))
    (hr : fn.results = #[]) (hlen : Nat.ble us.length n = true) (hd1 : Nat.blt d1 n = true) (hd2 : Nat.blt d2 n = true) (ht : Thrown u v u')
    (h : CX P n [] (fun e a w => e = .normal ∧ a.defers = [] ∧ W' w) ((d2, v) :: (d1, v) :: argFr 0 us) W cd) {w : World} (hW : W w) :
    CallsD P k us.toArray u w fun e u2 w' => e = .returned (.tuple #[]) ∧ u2 = u' ∧ W' w' := by
  subst hn
  have hlen : us.length ≤ fn.ntmps := by simpa using hlen
  refine callsD_of_wpS hPf hb fun c₀ cs hm => ?_
  apply wpS_seq
  apply wpS_region
  have hH0 : Has fn.ntmps [] { tmps := us.toArray ++ Array.replicate (fn.ntmps - us.toArray.size) undef, defers := [] } (argFr 0 us) := by
    refine ⟨by simp; omega, rfl, fun i v hi => ?_⟩
    obtain ⟨_, h2⟩ := get_argFr us 0 i v hi
    have hlt : i < us.length := (List.getElem?_eq_some_iff.1 h2).1
    rw [Array.getElem?_append_left (by simpa using hlt)]
    simpa using h2
  have hH1 := hH0.put hd1 v
  have hH2 := hH1.put hd2 v
  have fin : ∀ cs', cs' = { c₀ with mode := u' } :: cs → cd.wpS P (bodyPostS P fn c₀ cs fun e u2 w' => e = .returned (.tuple #[]) ∧ u2 = u' ∧ W' w')
      (({ tmps := us.toArray ++ Array.replicate (fn.ntmps - us.toArray.size) undef, defers := [] } : Act).put (some d1) v |>.put (some d2) v) cs' w := by
    intro cs' hcs
    refine wpS_of_wp (wp_mono (h _ w hH2 hW) fun e a' w' he => ?_)
    obtain ⟨rfl, hd, hx⟩ := he
    exact ⟨hd, u', hcs, .tuple #[], results_none hr _ P w', rfl, rfl, hx⟩
  have e1 : ∀ (a : Act), (execOp a.eval { dst := some d1, op := .call { callee := .builtin .recover, args := #[], argTypes := ats }, type := t1, pos := ps1, after := as1, guard := none }).run P w = .ok .recover w := fun a => by rfl
  show wpOpsS P _ _ [0, 1] _ _ _
  unfold wpOpsS
  simp only [List.size_toArray, List.length_cons, List.length_nil, List.getElem?_toArray, List.getElem?_cons_zero, Region.wanted, if_true, e1]
  have ev : ((({ tmps := us.toArray ++ Array.replicate (fn.ntmps - us.toArray.size) undef, defers := [] } : Act).put (some d1) v).eval (.tmp d1)) = v := hH1.eval _ _ (get_cons_same _ _ _)
  have e2 : (execOp (({ tmps := us.toArray ++ Array.replicate (fn.ntmps - us.toArray.size) undef, defers := [] } : Act).put (some d1) v).eval { dst := some d2, op := .assign (.tmp d1), type := t2, pos := ps2, after := as2, guard := none }).run P w = .ok (.value v) w := by
    simp only [execOp, ev]; rfl
  simp only [List.size_toArray] at fin ev e2
  cases ht with
  | no =>
    have hrec : recoverD (c₀ :: cs) = none := by simp [recoverD, hm]
    rw [hrec]
    unfold wpOpsS
    simp only [List.getElem?_toArray, List.getElem?_cons_succ, List.getElem?_cons_zero, Region.wanted, if_true, e2]
    simp only [Oper.upon]
    unfold wpOpsS
    exact fin _ (by cases c₀; simp_all)
  | yes =>
    have hrec : recoverD (c₀ :: cs) = some (v, { c₀ with mode := .panicking [{ v := v, recovered := true }] } :: cs) := by simp [recoverD, hm, pch]
    rw [hrec]
    unfold wpOpsS
    simp only [List.getElem?_toArray, List.getElem?_cons_succ, List.getElem?_cons_zero, Region.wanted, if_true, e2]
    simp only [Oper.upon]
    unfold wpOpsS
    exact fin _ rfl
/-- where a function with one deferred call of that sort is left -/
theorem PX.leaves {fn : Func} {k : FuncId} {us : List Value} {R : Ending → World → Prop} {u u' : FrameMode} {v : Value} {W W' : World → Prop} {e : Exit} {k' : FuncId} (hu : (e = .ret ∨ e = .normal) ∧ u = .returning ∨ e = .panic (pch v) ∧ u = .panicking (pch v)) (ht : Thrown u v u')
    (hi : Enters P k) (hk : k' = k) (hc : ∀ w, W w → CallsD P k us.toArray u w fun e u2 w' => e = .returned (.tuple #[]) ∧ u2 = u' ∧ W' w')
    (h : ∀ (a : Act) (w : World), Has n [] a l → W' w → ∃ x, (results fn a.tmps).run P w = .ok x w ∧ R (.returned x) w) : PX n [{ target := .fn (.func k') us.toArray, args := #[] }] (bodyPostD P fn R) l W e := by
  subst hk
  intro a w ha hW
  have key : Leaves P fn a.tmps R a.defers u w := by
    rw [ha.defs]
    refine leaves_cons (f := k') (args := us.toArray) ht.runs (by simpa [invoke] using hi us.toArray w) ?_
    refine (hc w hW).mono fun e2 u2 w' he => ?_
    obtain ⟨rfl, rfl, hw'⟩ := he
    show Leaves P fn a.tmps R [] (settle u2) w'
    rw [ht.out]
    exact h { a with defers := [] } w' ⟨ha.size, rfl, ha.slot⟩ hw'
  rcases hu with ⟨rfl | rfl, rfl⟩ | ⟨rfl, rfl⟩ <;> exact key
/-- a function with deferred calls is left ahead of them -/
theorem PX.leaves0 {fn : Func} {R : Ending → World → Prop} {e : Exit} (he : e = .ret ∨ e = .normal) (h : ∀ (a : Act) (w : World), Has n [] a l → W w → ∃ x, (results fn a.tmps).run P w = .ok x w ∧ R (.returned x) w) : PX n [] (bodyPostD P fn R) l W e := by
  intro a w ha hW
  have key : Leaves P fn a.tmps R a.defers .returning w := by
    rw [ha.defs]
    exact h a w ha hW
  rcases he with rfl | rfl <;> exact key
theorem PX.have {A : Prop} {B : World → Prop} {e : Exit} (h : A → PX n D Q l B e) : PX n D Q l (fun w => A ∧ B w) e := fun a w ha hw => h hw.1 a w ha hw.2
theorem FnP.alone {τ σ : Type} {v : τ → Value} {W : World → Prop} {W' : τ → World → Prop} {pe : σ → Value} {WP : σ → World → Prop} {f : FuncId} {a : Value} (h : FnP P f #[a] W v W' pe WP) : FnP P f (#[] ++ [a].toArray ++ #[]) W v W' pe WP := by
  rw [show #[] ++ [a].toArray ++ #[] = #[a] by simp]; exact h
/-- nothing is asserted to be something -/
theorem Y.assertNil {k s t : TypeId} {x : Operand} {z : Value} (hn : NotIface P k) (hx : evl l x = some .nilIface) (hz : ∀ w, (zeroValue k).run P w = .ok z w) : Y P l W (.typeAssert x s k true) t (.tuple #[z, .bool false]) := by
  intro ρ hρ o' ho ht w hW
  obtain ⟨d, hu, hd⟩ := hn.un
  have h1 := run_underlying hu w
  cases d <;> first
    | exact absurd rfl (hd _)
    | simp [execOp, ho, hρ _ _ hx, Instr.typeAssert, h1, hz w]
/-- two results in cells -/
theorem res_AA {fn : Func} {r s b T i b2 T2 i2 t t2 : Nat} {a : Act} {w w0 : World} {base : Nat} {its : List It} (ha : Has n [] a l) (hr : fn.results = #[.cell r t, .cell s t2]) (ht : One P t) (ht2 : One P t2) (hv : get l r = some (.pointer (some ⟨b, 0, none⟩))) (hu : get l s = some (.pointer (some ⟨b2, 0, none⟩)))
    {x y : Value} (hi : its[i]? = some (blk b [x] T)) (hi2 : its[i2]? = some (blk b2 [y] T2)) (hW : WA w0 base its w) : (results fn a.tmps).run P w = .ok (.tuple #[x, y]) w := by
  have hp : a.tmps[r]?.getD undef = .pointer (some ⟨b, 0, none⟩) := by simpa using getD_of ha hv
  have hq : a.tmps[s]?.getD undef = .pointer (some ⟨b2, 0, none⟩) := by simpa using getD_of ha hu
  have hl : (loadVar t ⟨b, 0, none⟩).run P w = .ok x w := by
    have h1 := ht w
    have h2 := hW.cell hi (off := 0) rfl
    simp [loadVar, h1, h2]
  have hl2 : (loadVar t2 ⟨b2, 0, none⟩).run P w = .ok y w := by
    have h1 := ht2 w
    have h2 := hW.cell hi2 (off := 0) rfl
    simp [loadVar, h1, h2]
  simp [results, hr, hp, hq, asAddr, hl, hl2]
end
end Go.SX
