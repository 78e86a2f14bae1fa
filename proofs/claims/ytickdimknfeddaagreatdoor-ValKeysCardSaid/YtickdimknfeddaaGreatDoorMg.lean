/-
  Proved here: guarded operations in regions that draw their order and change the world. No program stands here.
-/
import Derived.Test.YtickdimknfeddaaGreatDoorAgg
namespace Go.SX
open Go.RowKit
section
variable {P : Program} {ops : Array Oper} {n : Nat} {D : List Deferred} {l l' : Fr} {W W' S : World → Prop} {o : Oper} {d : Nat} {v : Value} {Q : Exit → Act → World → Prop} {r : List (Nat × Kd)} {pend : List Nat} {i : Nat}
/-- both ways on from a truth value, each to the end -/
theorem MX.caseB {s : Nat} {b : Bool} (_hs : get l s = some (.bool b)) (hT : b = true → MX P ops n D Q S l W r pend) (hF : b = false → MX P ops n D Q S l W r pend) : MX P ops n D Q S l W r pend := by
  cases b
  · exact hF rfl
  · exact hT rfl
theorem MX.gT0 {j s : Nat} {b want : Bool} (hi : ops[i]? = some o) (hg : o.guard = some (j, want)) (hj : (ops[j]?).bind (·.dst) = some s) (hs : get l s = some (.bool b)) (hb : b = want)
    (hy : Y P l (fun _ => True) o.op o.type v) (hd : o.dst = some d) (hdn : Nat.blt d n = true)
    (h : MX P ops n D Q S ((d, v) :: l) W r pend) : MX P ops n D Q S l W ((i, .anywhere) :: r) pend := by
  intro a w ha hW
  refine ⟨o, v, hi, .inl ⟨by simp [Region.wanted, hg, ha.yielded hj hs, hb], fun w => hy a.eval ha.eval o rfl rfl w trivial⟩, ?_⟩
  rw [hd]; exact h _ _ (ha.put hdn v) hW
theorem MX.gF0 {j s : Nat} {b want : Bool} (hi : ops[i]? = some o) (hg : o.guard = some (j, want)) (hj : (ops[j]?).bind (·.dst) = some s) (hs : get l s = some (.bool b)) (hb : b = !want)
    (hd : o.dst = some d) (hdn : Nat.blt d n = true)
    (h : MX P ops n D Q S ((d, undef) :: l) W r pend) : MX P ops n D Q S l W ((i, .anywhere) :: r) pend := by
  intro a w ha hW
  refine ⟨o, undef, hi, .inr ⟨by simp only [Region.wanted, hg, ha.yielded hj hs, hb]; cases want <;> rfl, rfl⟩, ?_⟩
  rw [hd]; exact h _ _ (ha.put hdn undef) hW
variable {rest : List Oper} {t ty : TypeId} {x y : Operand} {w0 : World} {base : Nat} {its : List It}
end
end Go.SX
