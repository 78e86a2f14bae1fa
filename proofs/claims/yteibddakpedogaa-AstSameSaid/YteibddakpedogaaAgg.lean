/-
  Proved here: more rules for the walk of a Go function: structs that are read and written whole, results that lie in a cell, type assertions, errors that are compared.
-/
import Derived.Test.YteibddakpedogaaSx
import Derived.Deep.MidRow
import Derived.LaidEqlPtr
namespace Go.SX
open Go.RowKit
/-- a type of n cells that is read whole -/
structure AggT (P : Program) (t : TypeId) (n : Nat) : Prop where
  un : ∃ d, P.underlying t = some d ∧ d.isRow = true
  info : (P.info? t).map (·.size) = some n
theorem AggT.of {P : Program} {t : TypeId} {n : Nat} (h : (match P.underlying t with | some d => d.isRow | none => false) = true) (hi : (P.info? t).map (·.size) = some n) : AggT P t n := by
  refine ⟨?_, hi⟩
  cases hu : P.underlying t with
  | none => rw [hu] at h; cases h
  | some d => rw [hu] at h; exact ⟨d, rfl, h⟩
/-- a type that is no interface -/
structure NotIface (P : Program) (t : TypeId) : Prop where
  un : ∃ d, P.underlying t = some d ∧ ∀ ms, d ≠ .interface ms
theorem NotIface.of {P : Program} {t : TypeId} {d : TypeDesc} (h : P.underlying t = some d) (hn : ∀ ms, d ≠ .interface ms) : NotIface P t := ⟨d, h, hn⟩
/-- pointers that '==' may look at inside an interface -/
structure CmpT (P : Program) (tp te : TypeId) : Prop where
  un : P.underlying tp = some (.pointer te)
  cmp : ∃ i, P.info? tp = some i ∧ i.comparable = true
  siz : ∃ j, P.info? te = some j ∧ j.size ≠ 0
theorem CmpT.of {P : Program} {tp te : TypeId} (h : P.underlying tp = some (.pointer te)) (h1 : (P.info? tp).map (·.comparable) = some true) (h2 : ((P.info? te).map fun j => decide (j.size ≠ 0)) = some true) : CmpT P tp te := by
  refine ⟨h, ?_, ?_⟩
  · cases hi : P.info? tp with
    | none => rw [hi] at h1; cases h1
    | some i => rw [hi] at h1; exact ⟨i, rfl, by simpa using h1⟩
  · cases hi : P.info? te with
    | none => rw [hi] at h2; cases h2
    | some i => rw [hi] at h2; exact ⟨i, rfl, by simpa using h2⟩
def setAll : List Value → Nat → List Value → List Value
  | cs, _, [] => cs
  | cs, o, v :: r => setAll (cs.set o v) (o + 1) r
section
variable {P : Program} {ops : Array Oper} {n : Nat} {D : List Deferred} {l : Fr} {W W' : World → Prop} {o : Oper} {d : Nat} {v u : Value} {Q : Exit → Act → World → Prop} {rest : List Oper} {t ty : TypeId} {x y : Operand}
variable {w0 : World} {base : Nat} {its : List It}
theorem WA.range {w : World} (h : WA w0 base its w) {i b off T k : Nat} {cs vs : List Value} (hi : its[i]? = some (blk b cs T)) (hv : (cs.drop off).take k = vs) : w.rangeAt b off vs := by
  intro j v hj
  refine h.cell hi ?_
  subst hv
  rw [List.getElem?_take] at hj
  split at hj
  · rw [List.getElem?_drop] at hj; exact hj
  · cases hj
theorem WA.rowRange {w : World} (h : WA w0 base its w) {i off cap k m e size : Nat} {g : Option Nat} {xs vs : List Value} (hi : its[i]? = some (.row g cap m e size xs)) (hv : (xs.drop off).take k = vs) : w.rangeAt (g.getD 0) off vs := by
  intro j v hj
  refine (h.rowCell hi ?_).1
  subst hv
  rw [List.getElem?_take] at hj
  split at hj
  · rw [List.getElem?_drop] at hj; exact hj
  · cases hj
theorem Y.loadA {b off k : Nat} {vs : List Value} (ht : AggT P t k) (hk : vs.length = k) (hx : evl l x = some (.pointer (some ⟨b, off, none⟩))) (hc : ∀ w, W w → w.rangeAt b off vs) : Y P l W (.load t x) ty (.agg vs.toArray) := by
  intro ρ hρ o' ho ht' w hW
  obtain ⟨d, hu, hd⟩ := ht.un
  have h1 := run_loadAt_mid (P := P) w b off t vs d (hc w hW) hu hd (by rw [ht.info, hk])
  simp only [execOp, ho, hρ _ _ hx]
  rw [Sem.run_bind, h1]
  simp
theorem Y.ldAggB (i : Nat) {b off T k : Nat} {cs vs : List Value} (ht : AggT P t k) (hx : evl l x = some (.pointer (some ⟨b, off, none⟩))) (hi : its[i]? = some (blk b cs T)) (hv : (cs.drop off).take k = vs) (hk : vs.length = k) :
    Y P l (WA w0 base its) (.load t x) ty (.agg vs.toArray) := Y.loadA ht hk hx fun _ h => h.range hi hv
theorem Y.ldAggR (i : Nat) {off cap k m e size : Nat} {g : Option Nat} {xs vs : List Value} (ht : AggT P t k) (hx : evl l x = some (.pointer (some ⟨g.getD 0, off, none⟩))) (hi : its[i]? = some (.row g cap m e size xs)) (hv : (xs.drop off).take k = vs) (hk : vs.length = k) :
    Y P l (WA w0 base its) (.load t x) ty (.agg vs.toArray) := Y.loadA ht hk hx fun _ h => h.rowRange hi hv
theorem WA.setCells {i b T : Nat} : ∀ (vs cs : List Value) (off : Nat) {its : List It} {w : World}, WA w0 base its w → its[i]? = some (blk b cs T) → WA w0 base (its.set i (blk b (setAll cs off vs) T)) (w.setCells b off vs)
  | [], cs, off, its, w, h, hi => by
    have : its.set i (blk b cs T) = its := by
      have hlt : i < its.length := (List.getElem?_eq_some_iff.1 hi).1
      have hget : its[i] = blk b cs T := (List.getElem?_eq_some_iff.1 hi).2
      rw [← hget]; exact List.set_getElem_self hlt
    show WA w0 base (its.set i (blk b cs T)) w
    rw [this]; exact h
  | v :: r, cs, off, its, w, h, hi => by
    have hlt : i < its.length := (List.getElem?_eq_some_iff.1 hi).1
    have h1 := h.setCell (off := off) hi v
    have h2 := WA.setCells r (cs.set off v) (off + 1) h1 (List.getElem?_set_self hlt)
    rw [List.set_set] at h2
    exact h2
/-- a struct is written whole -/
theorem LX.storeA (i : Nat) {b T k : Nat} {cs vs : List Value} (ht : AggT P t k) (ho : o.op = .store t x y) (hx : evl l x = some (.pointer (some ⟨b, 0, none⟩))) (hy : evl l y = some (.agg vs.toArray)) (h1 : vs.all (·.oneCell') = true)
    (hi : its[i]? = some (blk b cs T)) (hk : vs.length = k) (hl : Nat.ble k cs.length = true) (hg : o.guard = none) (hd : o.dst = none) (h : LX P ops n D (.plain Q) l (WA w0 base (its.set i (blk b (setAll cs 0 vs) T))) rest) :
    LX P ops n D (.plain Q) l (WA w0 base its) (o :: rest) := by
  intro a w ha hW
  have hl' : k ≤ cs.length := by simpa using hl
  have h2 := run_storeAt_mid (P := P) w b 0 t vs.toArray (fun j hj => by
    have hj' : j < cs.length := by simp at hj; omega
    exact ⟨by rw [Nat.zero_add, hW.cell hi (List.getElem?_eq_getElem hj')]; rfl, hW.frozen hi⟩) (by rw [ht.info]; simp [hk]) (all_oneCell_toArray (List.all_eq_true.1 h1))
  have h3 := WA.setCells vs cs 0 hW hi
  unfold wpList
  rw [if_pos (wanted_none hg)]
  left
  unfold Oper.wp
  have : (execOp a.eval o).run P w = .ok .skip (w.setCells b 0 vs) := by
    simp only [execOp, ho, ha.eval _ _ hx, ha.eval _ _ hy]
    rw [Sem.run_bind, h2]
    rfl
  rw [this]
  simp only [Oper.upon, hd]
  exact h _ _ ha h3
/-- a result that lies in a cell -/
theorem PX.retA {R : Ending → World → Prop} {fn : Func} {r b T k i : Nat} {cs : List Value} {e : Exit} (he : e = .ret ∨ e = .normal) (hr : fn.results = #[.cell r t]) (ht : AggT P t k) (hv : get l r = some (.pointer (some ⟨b, 0, none⟩))) (hi : its[i]? = some (blk b cs T)) (hk : cs.length = k)
    (h : ∀ w, WA w0 base its w → R (.returned (.agg cs.toArray)) w) : PX n [] (bodyPost P fn R) l (WA w0 base its) e := by
  intro a w ha hW
  obtain ⟨d, hu, hd⟩ := ht.un
  have h1 : (results fn a.tmps).run P w = .ok (.agg cs.toArray) w :=
    results_cell_row hr a.tmps w b T cs.toArray (0, 0) d (getD_of ha hv) (hW.get hi).2 hu (by cases d <;> first | rfl | cases hd) (by rw [ht.info]; simp [hk])
  rcases he with rfl | rfl
  · exact ⟨ha.defs, _, h1, h w hW⟩
  · exact ⟨ha.defs, _, h1, h w hW⟩
/-- 'x.(T)', T no interface, told whether -/
theorem Y.assertYes {k s : TypeId} (hn : NotIface P k) (hx : evl l x = some (.iface k u)) : Y P l W (.typeAssert x s k true) ty (.tuple #[u, .bool true]) := by
  intro ρ hρ o' ho ht w hW
  obtain ⟨d, hu, hd⟩ := hn.un
  have h1 := run_underlying hu w
  cases d <;> first
    | exact absurd rfl (hd _)
    | simp [execOp, ho, hρ _ _ hx, Instr.typeAssert, h1]
theorem Y.assertNo {k j s : TypeId} {z : Value} (hn : NotIface P k) (hx : evl l x = some (.iface j u)) (hne : j ≠ k) (hz : ∀ w, (zeroValue k).run P w = .ok z w) : Y P l W (.typeAssert x s k true) ty (.tuple #[z, .bool false]) := by
  intro ρ hρ o' ho ht w hW
  obtain ⟨d, hu, hd⟩ := hn.un
  have h1 := run_underlying hu w
  cases d <;> first
    | exact absurd rfl (hd _)
    | simp [execOp, ho, hρ _ _ hx, Instr.typeAssert, h1, hne, hz w]
/-- two errors that are pointers -/
theorem Y.eqSame {ms : Array (String × TypeId)} {tp te : TypeId} {a : Addr} (hi : P.underlying t = some (.interface ms)) (hc : CmpT P tp te) {ty2 : TypeId}
    (hx : evl l x = some (.iface tp (.pointer (some a)))) (hy : evl l y = some (.iface tp (.pointer (some a)))) : Y P l W (.binOp .eql t x y ty2) ty (.bool true) := by
  refine Y.bin hx hy fun w _ => ?_
  obtain ⟨i, h1, h2⟩ := hc.cmp
  obtain ⟨j, h3, h4⟩ := hc.siz
  have := run_eql_iface_ptr_same (P := P) w a hi hc.un h1 h2 h3
  simp only [eqGuard_at_iface, Sem.run_bind, Sem.run_pure, Result.andThen_ok, this]
theorem Y.eqOther {ms : Array (String × TypeId)} {tp te : TypeId} {a b : Addr} (hi : P.underlying t = some (.interface ms)) (hc : CmpT P tp te) {ty2 : TypeId}
    (hne : a ≠ b) (ha : ∀ w, W w → ∃ c t, w.heap[a.block]? = some (.cells c t (0, 0))) (hb : ∀ w, W w → ∃ c t, w.heap[b.block]? = some (.cells c t (0, 0)))
    (hx : evl l x = some (.iface tp (.pointer (some a)))) (hy : evl l y = some (.iface tp (.pointer (some b)))) : Y P l W (.binOp .eql t x y ty2) ty (.bool false) := by
  refine Y.bin hx hy fun w hW => ?_
  obtain ⟨i, h1, h2⟩ := hc.cmp
  obtain ⟨j, h3, h4⟩ := hc.siz
  obtain ⟨ca, ta, ha⟩ := ha w hW
  obtain ⟨cb, tb, hb⟩ := hb w hW
  have := run_eql_iface_ptr_other (P := P) w hi hc.un h1 h2 h3 h4 hne ha hb
  simp only [eqGuard_at_iface, Sem.run_bind, Sem.run_pure, Result.andThen_ok, this]
/-- a pointer and nil -/
theorem Y.eqPtrNil {e : TypeId} {a : Addr} (h : P.underlying t = some (.pointer e)) {ty2 : TypeId} (hx : evl l x = some (.pointer (some a))) : Y P l W (.binOp .eql t x (.const (.pointer none)) ty2) ty (.bool false) := by
  refine Y.bin2 hx rfl fun w _ => ?_
  have h1 := run_underlying h w
  have h2 : ∀ d : Nat, (Op.equalIn (d + 1) t (.pointer (some a)) (.pointer none)).run P w = .ok false w := fun d => by simp [Op.equalIn, h1]
  have e : binOp .eql t (.pointer (some a)) (.pointer none) = (do pure (.bool (← Op.equalIn 10000 t (.pointer (some a)) (.pointer none)))) := rfl
  simp [eqGuard, e, Sem.run_bind, h2 9999]
/-- a call behind a guard that holds -/
theorem LX.callT {τ : Type} {v : τ → Value} {W' : τ → World → Prop} {j s : Nat} {b want : Bool} {f : FuncId} {ps : List Operand} {vs : List Value} {ats : Array TypeId} (hg : o.guard = some (j, want)) (hj : (ops[j]?).bind (·.dst) = some s) (hs : get l s = some (.bool b)) (hb : b = want)
    (hc : FnC P f vs.toArray W v W') (hen : Enters P f)
    (ho : o.op = .call { callee := .value (.func f), args := ps.toArray, argTypes := ats }) (hp : evals l ps = some vs) (hd : o.dst = some d) (hdn : Nat.blt d n = true)
    (h : ∀ x, LX P ops n D (.plain Q) ((d, v x) :: l) (W' x) rest) : LX P ops n D (.plain Q) l W (o :: rest) := by
  intro a w ha hW
  have hw : Region.wanted o (yielded ops a.tmps) = true := by simp [Region.wanted, hg, ha.yielded hj hs, hb]
  unfold wpList
  rw [if_pos hw]
  left
  unfold Oper.wp
  rw [run_call hen ho hp ha.eval w]
  simp only [Oper.upon]
  refine (hc w hW).mono ?_
  rintro e' w' ⟨x, rfl, hx⟩
  simp only [hd]
  exact h x _ _ (ha.put hdn (v x)) hx
theorem LX.leftP {l' : Fr} (hs : Sub l' l) : LX P ops n D (.plain (fun e a w => e = .normal ∧ Has n D a l' ∧ W w)) l W [] := fun _ _ ha hW => ⟨rfl, ha.sub hs, hW⟩
theorem Y.andI {k : IntKind} {a b : Int} (hx : evl l x = some (.int k a)) (hy : evl l y = some (.int k b)) {ty2 : TypeId} : Y P l W (.binOp .and t x y ty2) ty (.int k (Go.bits .and k a b)) := by
  refine Y.bin hx hy fun w _ => ?_
  simp [eqGuard_and, binOp_and, intBits_and]
end
end Go.SX
