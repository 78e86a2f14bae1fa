/-
  Proved here: a call's memory as memory that was there; what a call leaves, laid on what was owned before. No program stands here.
-/
import Derived.Test.YteibddakpedogaaAt
import Derived.Test.YteibddakpedogaaMt
namespace Go.SX
open Go.RowKit
section
variable {P : Program} {ops : Array Oper} {n : Nat} {D : List Deferred} {l l' : Fr} {W W' : World → Prop} {Q : Exit → Act → World → Prop}
/-- steps in any order that Go leaves open, where what waits sees less than all -/
theorem CX.regionS {n : Nat} {D : List Deferred} {Q : Exit → Act → World → Prop} (S : World → Prop) [hst : Stab W] {id : Nat} {lo : List Oper} (plan : List (Nat × Kd)) (hm : P.follows .mixedOrders = true) (hB : (Region.noSelect lo.toArray && planOk .any lo.toArray plan (Array.replicate lo.toArray.size false) && (plan.length == lo.toArray.size)) = true)
    (h : MX P lo.toArray n D Q S l W plan []) : CX P n D Q l W (.region id lo.toArray true) := by
  intro a w ha hW
  simp only [Bool.and_eq_true, beq_iff_eq] at hB
  refine wp_mono ?_ (noPanic_imp (Q := Q))
  refine wp_region_any hm (wpAny_of_M (S := S) _ _ [] _ _ ?_)
  have h1 := wpAnyM_plan (Q := noPanic Q) (S := S) hB.1.1 (fun _ _ _ _ _ h => h) plan _ [] a _ hB.1.2 (fun h => absurd rfl h) (h a _ ha (Stab.drew hW))
  rw [hB.2] at h1
  exact h1
variable {m : Mode} {rest : List Oper} {w0 : World} {base : Nat} {its : List It}
/-- on with another class of worlds, of which more is known -/
theorem LX.riseTo (Φ : World → Nat → Prop) (its : List It) (h1 : ∀ w, W w → ∃ w2 n2, Φ w2 n2 ∧ WA w2 n2 its w) (h2 : ∀ w2 n2, Φ w2 n2 → LX P ops n D (.plain Q) l (WA w2 n2 its) rest) : LX P ops n D (.plain Q) l W rest := fun a w ha hW => by
  obtain ⟨w2, n2, h3, h4⟩ := h1 w hW
  exact h2 w2 n2 h3 a w ha h4
end
/-- a block that was owned, as memory that was there -/
theorem blk_lies {w0 w : World} {base : Nat} {its : List It} (hw : WA w0 base its w) {i b T : Nat} {cs : List Value} (hi : its[i]? = some (blk b cs T)) : Lies w w.heap.size ⟨b, 0, none⟩ cs := ⟨fun j u hj => by
  have h1 := hw.cell hi hj
  have e : (⟨b, 0, none⟩ : Addr).add j = ⟨b, j, none⟩ := by rw [Addr.add_mid, Nat.zero_add]
  rw [e]
  have h2 := World.block_lt_of_cell? w ⟨b, j, none⟩ h1
  exact ⟨h2, h1⟩⟩
theorem It.holds.mono {it : It} {base base' : Nat} {w : World} (h : it.holds base w) (hb : base' ≤ base) : it.holds base' w := by
  cases it with
  | obj b o => exact ⟨Nat.le_trans hb h.1, h.2⟩
  | row g cap n e size xs =>
    obtain ⟨h1, h2⟩ := h
    exact ⟨h1, h2.imp id fun ⟨g, cap, cur, e1, e2, r⟩ => ⟨g, cap, cur, e1, Nat.le_trans hb e2, r⟩⟩
/-- what a call leaves, laid on what was there -/
theorem WA.onto1 {w0 w w' : World} {base : Nat} {its : List It} {it : It} (h : WA w0 base its w) (h' : WA w w.heap.size [it] w') : WA w0 base (it :: its) w' :=
  h.cons h'.below ((h'.all it List.mem_cons_self).mono h.fits) fun k hk => ((h'.all it List.mem_cons_self).lt k hk).1
/-- all that a call leaves, laid on what was owned -/
theorem WA.onto {w0 w w' : World} {base : Nat} {its its' : List It} (h : WA w0 base its w) (h' : WA w w.heap.size its' w') : WA w0 base (its' ++ its) w' := by
  have h0 := Stab.st w w' h h'.below
  refine ⟨h0.below, h0.fits, fun x hx => ?_, List.pairwise_append.2 ⟨h'.apart, h0.apart, fun x hx y hy k hk hk' => ?_⟩⟩
  · rcases List.mem_append.1 hx with hx | hx
    · exact (h'.all x hx).mono h.fits
    · exact h0.all x hx
  · have h1 := ((h'.all x hx).lt k hk).1
    have h2 := ((h.all y hy).lt k hk').2
    omega
end Go.SX
