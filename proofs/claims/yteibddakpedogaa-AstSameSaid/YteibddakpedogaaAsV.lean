/-
  Proved here: a world taken anew within a call, and handed back. No program stands here.
-/
import Derived.Test.YteibddakpedogaaAsQ
namespace Go.SX
open Go.RowKit
theorem It.holds.low {it : It} {base base' : Nat} {w : World} (h : it.holds base' w) (hb : base ≤ base') : it.holds base w := by
  cases it with
  | obj b o => exact ⟨Nat.le_trans hb h.1, h.2⟩
  | row g cap n e size xs =>
    refine ⟨h.1, ?_⟩
    rcases h.2 with hn | ⟨b, cap', cur, hv, hg, r⟩
    · exact .inl hn
    · exact .inr ⟨b, cap', cur, hv, Nat.le_trans hb hg, r⟩
/-- what was owned ahead, and what is owned since -/
theorem WA.join {w0 w1 w : World} {base : Nat} {its0 its : List It} (h0 : WA w0 base its0 w1) (h : WA w1 w1.heap.size its w) : WA w0 base (its ++ its0) w := by
  have h1 : WA w0 base its0 w := Stab.st w1 w h0 h.below
  refine ⟨h1.below, h1.fits, fun it hi => ?_, List.pairwise_append.2 ⟨h.apart, h1.apart, fun a ha b hb k hk hk' => ?_⟩⟩
  · rcases List.mem_append.1 hi with hi | hi
    · exact (h.all it hi).low h0.fits
    · exact h1.all it hi
  · have e1 := ((h.all a ha).lt k hk).1
    have e2 := ((h0.all b hb).lt k hk').2
    omega
theorem CX.fixB {P : Program} {n : Nat} {D : List Deferred} {Q : Exit → Act → World → Prop} {l : Fr} {W : World → Prop} {c : Code} (h : ∀ w base, W w → base = w.heap.size → CX P n D Q l (WA w base []) c) : CX P n D Q l W c :=
  fun a w ha hW => h w _ hW rfl a w ha (WA.start w)
end Go.SX
