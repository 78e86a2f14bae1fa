/-
  Proved here: steps that the walks of the document's parser want. No program stands here.
-/
import Derived.Test.YteibddakpedogaaAt
namespace Go.SX
open Go.RowKit
section
variable {P : Program} {ops : Array Oper} {n d : Nat} {D : List Deferred} {l : Fr} {W : World → Prop} {rest : List Oper} {o : Oper} {u v : Value} {x y : Operand} {t ty : TypeId} {Q : Exit → Act → World → Prop} {w0 : World} {base : Nat} {its : List It}
theorem Y.field {s f : Nat} (hx : evl l x = some u) (hr : ∀ w, (Instr.field s u f).run P w = .ok v w) : Y P l W (.field s x f) ty v := by
  intro ρ hρ o' ho ht w hW
  simp [execOp, ho, hρ _ _ hx, hr w]
theorem PX.retA2 {R : Ending → World → Prop} {fn : Func} {r s b T k i : Nat} {cs : List Value} {u : Value} {e : Exit} (he : e = .ret ∨ e = .normal) (hr : fn.results = #[.cell r t, .tmp s]) (ht : AggT P t k) (hv : get l r = some (.pointer (some ⟨b, 0, none⟩))) (hu : get l s = some u) (hi : its[i]? = some (blk b cs T)) (hk : cs.length = k)
    (h : ∀ w, WA w0 base its w → R (.returned (.tuple #[.agg cs.toArray, u])) w) : PX n [] (bodyPost P fn R) l (WA w0 base its) e := by
  intro a w ha hW
  obtain ⟨d, hd1, hd⟩ := ht.un
  have hp : a.tmps[r]?.getD undef = .pointer (some ⟨b, 0, none⟩) := by simpa using getD_of ha hv
  have hq : a.tmps[s]?.getD undef = u := by simpa using getD_of ha hu
  have h1 : (results fn a.tmps).run P w = .ok (.tuple #[.agg cs.toArray, u]) w := by
    have hl := run_loadVar_row w b T t cs.toArray (0, 0) d (hW.get hi).2 hd1 (by cases d <;> first | rfl | cases hd) (by rw [ht.info]; simp [hk])
    simp [results, hr, hp, hq, asAddr, hl]
  rcases he with rfl | rfl
  · exact ⟨ha.defs, _, h1, h w hW⟩
  · exact ⟨ha.defs, _, h1, h w hW⟩
end
end Go.SX
