/-
  Proved here: the statement 'AstSame': whatever the text and the two numbers, the call returns true, and its arguments read as they did. No conditions.
-/
import Derived.Test.YteibddakpedogaaRows
import Derived.Test.YteibddakpedogaaAtF
import Derived.ProofKit
import Derived.OpenShut
namespace Go.Proofs.Yteibddakpedogaa.astSame
open Go.ChangeShapes Go.WideShapes Go.ChangeAt Go.RowKit Go.SX
theorem own : ownKnob Try.prog.godebug = none := by kernel_rfl
theorem laidOut : laidOutB Try.prog = true := by kernel_rfl
theorem unI : Try.prog.underlying 3 = some (.int .i64) := by kernel_rfl
theorem unB : Try.prog.underlying 4 = some .bool := by kernel_rfl
theorem unS : Try.prog.underlying 9 = some .string := by kernel_rfl
set_option maxRecDepth 100000 in
theorem lifted (os : Os) (started : os.Started) (H : Type) (enc : TypeId × Value → H) :
    ReturnsInHanded {} Try.checked os 3 .any (Rows.astSameSpec.pre6 enc Try.prog Try.f3 Rows.astSameRow.domain false) (Rows.astSameSpec.post enc Try.prog Try.f3 false true false false) := by
  refine returnsInHanded_of_change (C := Try.checked) own started (by kernel_rfl) Try.func3
    (ChangeSpec.witness6 (enc := enc) (C := Try.checked) false ⟨#[], #[.string ⟨#[]⟩, .int .i64 0, .int .i64 0], []⟩ 8 (by kernel_rfl) (by kernel_rfl) (by kernel_rfl) (by kernel_rfl)) ?_
  intro W base args ds gs before hval0 hW hcnd _
  have hval : ∀ (j : Nat) t v, Try.f3.params[j]? = some t → args[j]? = some v → Value.okWide Try.prog W .any base t v := hval0
  have hW' := hW
  obtain ⟨p, q, hA0, hV, rfl, hfz, hnd⟩ := hW
  have hA : DataW.TrodAll enc Try.prog W 0 (fun _ => true) true Try.f3.params.toList args.toList ds p := hA0
  rw [Try.params3] at hA hval
  obtain ⟨v0, v1, v2, d0, d1, d2, p0, p1, p2, rfl, rfl, rfl, h0, h1, h2⟩ := trodAll_three hA
  obtain ⟨rfl, rfl⟩ := trodVars_none hV
  obtain ⟨b0, rfl⟩ := okWide_string unS (hval 0 9 v0 rfl rfl)
  obtain ⟨s0, rfl⟩ : ∃ s : List UInt8, b0 = ⟨s.toArray⟩ := ⟨b0.data.toList, by cases b0; simp⟩
  obtain ⟨n1, rfl⟩ := okWide_int unI (hval 1 3 v1 rfl rfl)
  obtain ⟨n2, rfl⟩ := okWide_int unI (hval 2 3 v2 rfl rfl)
  clear hA0 hval0
  simp only [List.append_nil] at hW'
  have hlt : ∀ x ∈ p0 ++ p1 ++ p2, x.block < W.heap.size := fun x hx => by simpa using hW'.lt x (by simpa using hx)
  have g0 : ∀ W' : World, Below W.heap.size W W' → DataW.Trod enc Try.prog W' 0 (fun b => decide (b < W.heap.size)) true 9 (.string ⟨s0.toArray⟩) d0 p0 :=
    fun W' hn => Below.trod laidOut (by kernel_rfl) (of_decide_eq_true (by kernel_rfl)) h0 hn (fun x hx => hlt x (by simp [hx]))
  have g1 : ∀ W' : World, Below W.heap.size W W' → DataW.Trod enc Try.prog W' 0 (fun b => decide (b < W.heap.size)) true 3 (.int .i64 n1) d1 p1 :=
    fun W' hn => Below.trod laidOut (by kernel_rfl) (of_decide_eq_true (by kernel_rfl)) h1 hn (fun x hx => hlt x (by simp [hx]))
  have g2 : ∀ W' : World, Below W.heap.size W W' → DataW.Trod enc Try.prog W' 0 (fun b => decide (b < W.heap.size)) true 3 (.int .i64 n2) d2 p2 :=
    fun W' hn => Below.trod laidOut (by kernel_rfl) (of_decide_eq_true (by kernel_rfl)) h2 hn (fun x hx => hlt x (by simp [hx]))
  refine ((law_c s0 n1 n2) W (WA.start W)).mono fun e W' ⟨_, he, hw⟩ => ?_
  subst he
  exact ⟨_, rfl, _, _, _, [], _, [], hW', trodAll_mk1 (shut_bool unB _), trodAll_mk3 (g0 _ hw.below) (g1 _ hw.below) (g2 _ hw.below), rfl, hw.below.frame _, fun h => by cases h⟩
theorem over : Rows.astSameRow.holds Try.pinned (OpenSpec.ofChange Rows.astSameSpec) :=
  OpenClaim.holds_of_wide 3 Try.f3 rfl rfl rfl rfl rfl rfl rfl ⟨rfl, rfl, rfl, rfl, rfl⟩ rfl rfl rfl rfl rfl (by kernel_rfl) Try.func3 (by kernel_rfl)
    (of_decide_eq_true (by kernel_rfl)) (by unfold Func.isWrapper; first | (rw [if_pos (by decide +kernel)]; kernel_rfl) | (rw [if_neg (by decide +kernel)]; exact ⟨rfl, rfl⟩))
    (fun os started H enc _ => lifted os started H enc)
/-- The statement. -/
theorem said : Rows.AstSameSaid := over
end Go.Proofs.Yteibddakpedogaa.astSame
