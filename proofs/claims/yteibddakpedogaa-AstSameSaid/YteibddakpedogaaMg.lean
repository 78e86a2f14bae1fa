/-
  Proved here: guarded operations in regions that draw their order and change the world. No program stands here.
-/
import Derived.Test.YteibddakpedogaaAgg
namespace Go.SX
open Go.RowKit
section
variable {P : Program} {ops : Array Oper} {n : Nat} {D : List Deferred} {l l' : Fr} {W W' S : World → Prop} {o : Oper} {d : Nat} {v : Value} {Q : Exit → Act → World → Prop} {r : List (Nat × Kd)} {pend : List Nat} {i : Nat}
/-- both ways on from a truth value, each to the end -/
theorem MX.caseB {s : Nat} {b : Bool} (_hs : get l s = some (.bool b)) (hT : b = true → MX P ops n D Q S l W r pend) (hF : b = false → MX P ops n D Q S l W r pend) : MX P ops n D Q S l W r pend := by
  cases b
  · exact hF rfl
  · exact hT rfl
theorem MX.gT0 {j s : Nat} {b want : Bool} (hi : ops[i]? = some o) (hg : o.guard = some (j, want)) (hj : (ops[j]?).bind (·.dst) = some s) (hs : get l s = some (.bool b)) (hb : b = want)
    (hy : Y P l (fun _ => True) o.op o.type v) (hd : o.dst = some d) (hdn : Nat.blt d n = true)
    (h : MX P ops n D Q S ((d, v) :: l) W r pend) : MX P ops n D Q S l W ((i, .anywhere) :: r) pend := by
  intro a w ha hW
  refine ⟨o, v, hi, .inl ⟨by simp [Region.wanted, hg, ha.yielded hj hs, hb], fun w => hy a.eval ha.eval o rfl rfl w trivial⟩, ?_⟩
  rw [hd]; exact h _ _ (ha.put hdn v) hW
theorem MX.gF0 {j s : Nat} {b want : Bool} (hi : ops[i]? = some o) (hg : o.guard = some (j, want)) (hj : (ops[j]?).bind (·.dst) = some s) (hs : get l s = some (.bool b)) (hb : b = !want)
    (hd : o.dst = some d) (hdn : Nat.blt d n = true)
    (h : MX P ops n D Q S ((d, undef) :: l) W r pend) : MX P ops n D Q S l W ((i, .anywhere) :: r) pend := by
  intro a w ha hW
  refine ⟨o, undef, hi, .inr ⟨by simp only [Region.wanted, hg, ha.yielded hj hs, hb]; cases want <;> rfl, rfl⟩, ?_⟩
  rw [hd]; exact h _ _ (ha.put hdn undef) hW
variable {rest : List Oper} {t ty : TypeId} {x y : Operand} {w0 : World} {base : Nat} {its : List It}
/-- a struct is written whole, within another -/
theorem LX.storeAt (i : Nat) {b T k off : Nat} {cs vs : List Value} (ht : AggT P t k) (ho : o.op = .store t x y) (hx : evl l x = some (.pointer (some ⟨b, off, none⟩))) (hy : evl l y = some (.agg vs.toArray)) (h1 : vs.all (·.oneCell') = true)
    (hi : its[i]? = some (blk b cs T)) (hk : vs.length = k) (hl : Nat.ble (off + k) cs.length = true) (hg : o.guard = none) (hd : o.dst = none) (h : LX P ops n D (.plain Q) l (WA w0 base (its.set i (blk b (setAll cs off vs) T))) rest) :
    LX P ops n D (.plain Q) l (WA w0 base its) (o :: rest) := by
  intro a w ha hW
  have hl' : off + k ≤ cs.length := by simpa using hl
  have h2 := run_storeAt_mid (P := P) w b off t vs.toArray (fun j hj => by
    have hj' : off + j < cs.length := by simp at hj; omega
    exact ⟨by rw [hW.cell hi (List.getElem?_eq_getElem hj')]; rfl, hW.frozen hi⟩) (by rw [ht.info]; simp [hk]) (all_oneCell_toArray (List.all_eq_true.1 h1))
  have h3 := WA.setCells vs cs off hW hi
  unfold wpList
  rw [if_pos (wanted_none hg)]
  left
  unfold Oper.wp
  have : (execOp a.eval o).run P w = .ok .skip (w.setCells b off vs) := by
    simp only [execOp, ho, ha.eval _ _ hx, ha.eval _ _ hy]
    rw [Sem.run_bind, h2]
    rfl
  rw [this]
  simp only [Oper.upon, hd]
  exact h _ _ ha h3
end
end Go.SX
