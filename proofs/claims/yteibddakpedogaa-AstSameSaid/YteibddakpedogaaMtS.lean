/-
  Proved here: guarded steps in plans that fork; a fork with a world of its own for what is held. No program stands here.
-/
import Derived.Test.YteibddakpedogaaMt
namespace Go.SX
open Go.RowKit
section
variable {P : Program} {ops : Array Oper} {n : Nat} {D : List Deferred} {l l' : Fr} {W W' S : World → Prop} {o : Oper} {d : Nat} {v : Value} {Q : Exit → Act → World → Prop} {r ri rj : Pl} {pend : List Nat} {i j : Nat}
theorem MT.caseB {s : Nat} {b : Bool} (_hs : get l s = some (.bool b)) (hT : b = true → MT P ops n D Q S l W r pend) (hF : b = false → MT P ops n D Q S l W r pend) : MT P ops n D Q S l W r pend := by
  cases b
  · exact hF rfl
  · exact hT rfl
theorem MT.gT0 {j s : Nat} {b want : Bool} (hi : ops[i]? = some o) (hg : o.guard = some (j, want)) (hj : (ops[j]?).bind (·.dst) = some s) (hs : get l s = some (.bool b)) (hb : b = want)
    (hy : Y P l (fun _ => True) o.op o.type v) (hd : o.dst = some d) (hdn : Nat.blt d n = true)
    (h : MT P ops n D Q S ((d, v) :: l) W r pend) : MT P ops n D Q S l W (.step i .anywhere r) pend := by
  intro a w ha hW
  refine ⟨o, v, hi, .inl ⟨by simp [Region.wanted, hg, ha.yielded hj hs, hb], fun w => hy a.eval ha.eval o rfl rfl w trivial⟩, ?_⟩
  rw [hd]; exact h _ _ (ha.put hdn v) hW
theorem MT.gF0 {j s : Nat} {b want : Bool} (hi : ops[i]? = some o) (hg : o.guard = some (j, want)) (hj : (ops[j]?).bind (·.dst) = some s) (hs : get l s = some (.bool b)) (hb : b = !want)
    (hd : o.dst = some d) (hdn : Nat.blt d n = true)
    (h : MT P ops n D Q S ((d, undef) :: l) W r pend) : MT P ops n D Q S l W (.step i .anywhere r) pend := by
  intro a w ha hW
  refine ⟨o, undef, hi, .inr ⟨by simp only [Region.wanted, hg, ha.yielded hj hs, hb]; cases want <;> rfl, rfl⟩, ?_⟩
  rw [hd]; exact h _ _ (ha.put hdn undef) hW
theorem CX.regionTS (S : World → Prop) [hst : Stab W] {id : Nat} {lo : List Oper} (t : Pl) (hm : P.follows .mixedOrders = true) (hB : (Region.noSelect lo.toArray && treeOk .any lo.toArray t (Array.replicate lo.toArray.size false) && (t.depth == lo.toArray.size)) = true)
    (h : MT P lo.toArray n D Q S l W t []) : CX P n D Q l W (.region id lo.toArray true) := by
  intro a w ha hW
  simp only [Bool.and_eq_true, beq_iff_eq] at hB
  refine wp_mono ?_ (noPanic_imp (Q := Q))
  refine wp_region_any hm (wpAny_of_M (S := S) _ _ [] _ _ ?_)
  have h1 := wpAnyM_tree (Q := noPanic Q) (S := S) hB.1.1 (fun _ _ _ _ _ h => h) t _ [] a _ hB.1.2 (fun h => absurd rfl h) (h a _ ha (Stab.drew hW))
  rw [hB.2] at h1
  exact h1
end
end Go.SX
