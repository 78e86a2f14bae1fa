/-
  Proved here: rules for slices that are made.
-/
import Derived.Test.YteibddakpedogaaSx
import Derived.Laws.MakeOwn
import Derived.Laws.OwnMore
namespace Go.SX
open Go.RowKit
variable {P : Program} {ops : Array Oper} {n : Nat} {D : List Deferred} {l l' : Fr} {rest : List Oper} {o : Oper} {d : Nat}
  {x y : Operand} {t ty : TypeId} {w0 : World} {base : Nat} {its : List It} {Q : Exit → Act → World → Prop}
/-- 'make(T, 0, c)': a row that is empty still -/
theorem LX.make0 {e size bytes c : Nat} {kl kc : IntKind} (he : Elem P t e size bytes) (ho : o.op = .makeSlice t x y) (hx : evl l x = some (.int kl 0)) (hy : evl l y = some (.int kc (c : Int)))
    (hbytes : bytes * c ≤ 281474976710656) (h63 : c ≤ 9223372036854775807) (hg : o.guard = none) (hd : o.dst = some d) (hdn : Nat.blt d n = true)
    (h : ∀ b, LX P ops n D (.plain Q) ((d, rv (some b) 0 c) :: l) (WA w0 base (.row (some b) c 0 e size [] :: its)) rest) : LX P ops n D (.plain Q) l (WA w0 base its) (o :: rest) := by
  refine LX.effx (τ := Nat) (v := fun b => rv (some b) 0 c) (W' := fun b => WA w0 base (.row (some b) c 0 e size [] :: its)) (fun ρ hρ w hW => ?_) hg hd hdn h
  obtain ⟨inf, z, e1, e2, e3, e4, e5⟩ := he.ex
  subst e4
  obtain ⟨w', r1, r2, r3⟩ := run_make_own (P := P) w base t e inf z size he.ht e1 e2 e3 kl kc c hbytes (by unfold maxLen; omega) hW.fits
  refine ⟨w.heap.size, w', ?_, hW.cons ⟨r3.os, r3.tape, r3.output, r3.size, fun q hq => r3.block q hq fun e => by cases e⟩ r2 fun q hq => by cases hq; exact Nat.le_refl _⟩
  simp [execOp, ho, hρ _ _ hx, hρ _ _ hy, r1]
/-- 'make(T, k)': a row of noughts -/
theorem LX.makeN {e size bytes k : Nat} {z : Value} {kl kc : IntKind} (he : Elem P t e size bytes) (hz : (P.info? e).map (·.zero) = some (some z)) (ho : o.op = .makeSlice t x y) (hx : evl l x = some (.int kl (k : Int))) (hy : evl l y = some (.int kc (k : Int)))
    (hbytes : bytes * k ≤ 281474976710656) (h63 : k ≤ 9223372036854775807) (hg : o.guard = none) (hd : o.dst = some d) (hdn : Nat.blt d n = true)
    (h : ∀ b, LX P ops n D (.plain Q) ((d, rv (some b) k k) :: l) (WA w0 base (.row (some b) k k e size (madeCells z.cells (k * size)).toList :: its)) rest) : LX P ops n D (.plain Q) l (WA w0 base its) (o :: rest) := by
  refine LX.effx (τ := Nat) (v := fun b => rv (some b) k k) (W' := fun b => WA w0 base (.row (some b) k k e size (madeCells z.cells (k * size)).toList :: its)) (fun ρ hρ w hW => ?_) hg hd hdn h
  obtain ⟨inf, z', e1, e2, e3, e4, e5⟩ := he.ex
  subst e4
  rw [e1] at hz
  have hz' : z' = z := by simpa [e2] using hz
  subst hz'
  obtain ⟨w', r1, r2, r3⟩ := run_make_full (P := P) w base t e inf z' size he.ht e1 e2 e3 kl kc k hbytes (by unfold maxLen; omega) hW.fits
  refine ⟨w.heap.size, w', ?_, hW.cons ⟨r3.os, r3.tape, r3.output, r3.size, fun q hq => r3.block q hq fun e => by cases e⟩ r2 fun q hq => by cases hq; exact Nat.le_refl _⟩
  simp [execOp, ho, hρ _ _ hx, hρ _ _ hy, r1]
end Go.SX
