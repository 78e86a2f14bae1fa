/-
  Proved here: the statement 'CodeBytes' and its card.
-/
import Derived.Test.YtgijpgkckiknjaaGreatDoorEnvQ
import Derived.Test.YtgijpgkckiknjaaGreatDoorByArg
import Derived.Test.YtgijpgkckiknjaaGreatDoorBzc
import Derived.Test.YtgijpgkckiknjaaGreatDoorBsf
import Derived.SevenTiedAt
namespace Go.Proofs.YtgijpgkckiknjaaGreatDoor.codeBytes
open Go.ChangeShapes Go.WideShapes Go.ChangeAt Go.RowKit Go.SX Env Go.Ck
set_option maxRecDepth 100000 in
/-- What the walk gives, for every argument and every world that holds the listed variables. -/
theorem contract (H : Type) (enc : TypeId × Value → H) (W : World) (base : Nat) (args : Array Value) (ds gs : List (DataW H)) (before : List MemPlace)
    (hval : ∀ (j : Nat) t v, Tryz.f8.params[j]? = some t → args[j]? = some v → Value.okWide Tryz.prog W .any base t v)
    (hW : DataW.Whole enc Tryz.prog Tryz.f8.params.toList Rows.codeBytesSpec.vars false W args.toList ds gs before) (hL : laidMetH Tryz.prog Rows.codeBytesRow.laid W) :
    Calls Tryz.prog 8 args W fun e W' => ∃ v, e = .returned v ∧ Rows.codeBytesSpec.post enc Tryz.prog Tryz.f8 false true false false W args v W' := by
  have hW' := hW
  obtain ⟨p, q, hA0, hV, rfl, hfz, hnd⟩ := hW
  have hA : DataW.TrodAll enc Tryz.prog W 0 (fun _ => true) true Tryz.f8.params.toList args.toList ds p := hA0
  rw [Tryz.params8] at hA hval
  obtain ⟨v0, v1, d0, d1, p0, p1, rfl, rfl, rfl, h0, h1⟩ := trodAll_two hA
  obtain ⟨rfl, rfl⟩ := trodVars_none hV
  obtain ⟨c0, rfl, _⟩ := okWide_struct Arg.u28 (hval 0 28 v0 rfl rfl)
  obtain ⟨a1, len1, cap1, rfl⟩ := okWide_slice Arg.u79 (hval 1 79 v1 rfl rfl)
  clear hA0
  simp only [List.append_nil] at hW'
  have hlt : ∀ x ∈ p0 ++ p1, x.block < W.heap.size := fun x hx => by simpa using hW'.lt x (by simpa using hx)
  have g0 : ∀ W' : World, Below W.heap.size W W' → DataW.Trod enc Tryz.prog W' 0 (fun b => decide (b < W.heap.size)) true 28 (.agg c0) d0 p0 :=
    fun W' hn => Below.trod laidOut (by kernel_rfl) (of_decide_eq_true (by kernel_rfl)) h0 hn (fun x hx => hlt x (by simp [hx]))
  have g1 : ∀ W' : World, Below W.heap.size W W' → DataW.Trod enc Tryz.prog W' 0 (fun b => decide (b < W.heap.size)) true 79 (.slice a1 len1 cap1) d1 p1 :=
    fun W' hn => Below.trod laidOut (by kernel_rfl) (of_decide_eq_true (by kernel_rfl)) h1 hn (fun x hx => hlt x (by simp [hx]))
  obtain ⟨fuel0, hf0⟩ := h0
  obtain ⟨X0, q0, e0, hX0⟩ := Arg.prog_open hf0
  obtain rfl : c0 = (Cx.pcs X0 q0).toArray := Array.toList_inj.1 (by simpa [Value.cells] using e0)
  obtain ⟨fuel1, hf1⟩ := h1
  obtain ⟨w1, zs1, e1, hz1⟩ := Arg.bytes_open hf1
  obtain ⟨av1, cp1, rfl, ⟨hn1, hc1⟩, hb1⟩ := hz1.sl
  obtain ⟨rfl, rfl, rfl⟩ : a1 = av1 ∧ len1 = zs1.length ∧ cap1 = cp1 := by simpa [Value.cells] using e1
  obtain ⟨aE, hS⟩ := env17 hL
  refine ((law_c (fr := []) hS hX0 hb1 hc1 (Bsf.first_q hS)) W (WA.start W)).mono fun e W' ⟨_, he, hw⟩ => ?_
  subst he
  exact ⟨_, rfl, _, _, _, [], _, [], hW', trodAll_mk1 (shut_bool unB _), trodAll_mk2 (g0 _ hw.below) (g1 _ hw.below), rfl, hw.below.frame _, fun h => by cases h⟩
/-- a world for the witness -/
noncomputable abbrev start (os : Os) : World := laidWorld os [(5, ⟨#[108, 101, 120]⟩), (6, ⟨#[112, 97, 114, 115, 101]⟩), (0, ⟨#[114, 101, 115, 111, 108, 118, 101]⟩), (7, ⟨#[100, 121, 110, 97, 109, 105, 99]⟩), (8, ⟨#[99, 121, 99, 108, 101]⟩), (9, ⟨#[118, 105, 115, 105, 98, 105, 108, 105, 116, 121]⟩), (10, ⟨#[97, 110, 97, 108, 121, 115, 105, 115]⟩), (4, ⟨#[108, 105, 109, 105, 116]⟩), (11, ⟨#[109, 105, 115, 115, 105, 110, 103]⟩), (2, ⟨#[116, 111, 111, 32, 109, 97, 110, 121]⟩), (12, ⟨#[110, 111, 32, 115, 117, 99, 104, 32, 107, 105, 110, 100]⟩), (13, ⟨#[110, 111, 32, 112, 97, 116, 104]⟩), (1, ⟨#[110, 111, 116, 32, 116, 104, 101, 32, 115, 104, 97, 112, 101, 32, 116, 104, 97, 116, 32, 105, 116, 32, 104, 97, 115, 32, 116, 111, 32, 104, 97, 118, 101]⟩), (3, ⟨#[105, 116, 32, 101, 110, 100, 115, 32, 116, 111, 111, 32, 101, 97, 114, 108, 121]⟩), (14, ⟨#[97, 32, 110, 117, 109, 98, 101, 114, 32, 111, 117, 116, 32, 111, 102, 32, 105, 116, 115, 32, 114, 97, 110, 103, 101]⟩), (15, ⟨#[116, 104, 101, 32, 112, 111, 119, 101, 114, 32, 104, 97, 115, 32, 103, 111, 110, 101]⟩), (16, ⟨#[105, 116, 32, 104, 97, 115, 32, 102, 97, 105, 108, 101, 100]⟩)]
theorem laid_met (os : Os) : laidMet Tryz.prog Rows.codeBytesRow.laid ((start os).forCall (fun _ _ => 0) ⟨#[], #[.agg #[.slice none 0 0, .slice none 0 0, .slice none 0 0, .slice none 0 0], .slice none 0 0], []⟩).memory :=
  laidMet_of_run' 8 (by kernel_rfl) (by kernel_rfl)
theorem reads (os : Os) {H : Type} (enc : TypeId × Value → H) : ∃ places, DataW.whole enc Tryz.prog ((start os).forCall (fun _ _ => 0) ⟨#[], #[.agg #[.slice none 0 0, .slice none 0 0, .slice none 0 0, .slice none 0 0], .slice none 0 0], []⟩).memory Tryz.f8.params.toList Rows.codeBytesSpec.vars false (#[.agg #[.slice none 0 0, .slice none 0 0, .slice none 0 0, .slice none 0 0], .slice none 0 0] : Array Value).toList 8 = some ([.agg [.nil, .nil, .nil, .nil], .nil], [], places) :=
  ⟨[], by kernel_rfl⟩
set_option maxRecDepth 100000 in
theorem lifted (os : Os) (started : os.Started) (H : Type) (enc : TypeId × Value → H) (F : Stop.Interp) :
    ReturnsInHanded {} Tryz.checked os 8 .any ((OpenSpec.ofChange Rows.codeBytesSpec).preRow enc Tryz.prog Tryz.f8 Rows.codeBytesRow.domain false Rows.codeBytesRow.laid) (((OpenSpec.ofChange Rows.codeBytesSpec).at F).post enc Tryz.prog Tryz.f8 false true false false) := by
  obtain ⟨places, hx⟩ := reads os enc
  refine returnsInHanded_of_row (C := Tryz.checked) (s := OpenSpec.ofChange Rows.codeBytesSpec) own started (by kernel_rfl) Tryz.func8
    (witness_row_at (enc := enc) (C := Tryz.checked) false (start os) #[.agg #[.slice none 0 0, .slice none 0 0, .slice none 0 0, .slice none 0 0], .slice none 0 0] rfl (by kernel_rfl) (by kernel_rfl) (by kernel_rfl)
      (OpenSpec.preRow_of_cond 8 hx (by kernel_rfl) (fun k hk => by cases hk) (by kernel_rfl) (laid_met os))) ?_
  intro W base args ds gs before hval hW _ _ _ hL _ _
  exact contract H enc W base args ds gs before hval hW hL
theorem said1 : Tryz.pinned.checked.prog.funcNamed Rows.codeBytesRow.func = some 8 := by kernel_rfl
theorem said2 : joinedFacts Tryz.pinned.checked.prog 8 Tryz.f8 (OpenSpec.ofChange Rows.codeBytesSpec).bare Rows.codeBytesRow = true := by kernel_rfl
theorem said3 : Tryz.f8.isInstance Tryz.pinned.checked.prog Rows.codeBytesRow.origin Rows.codeBytesRow.targs := of_decide_eq_true (by kernel_rfl)
theorem said4 : Tryz.f8.isWrapper Tryz.pinned.checked.prog Rows.codeBytesRow.wrapper Rows.codeBytesRow.mainSum := by unfold Func.isWrapper; first | (rw [if_pos (by decide +kernel)]; kernel_rfl) | (rw [if_neg (by decide +kernel)]; exact ⟨rfl, rfl⟩)
theorem said : Rows.CodeBytesSaid :=
  OpenClaim.holds_of_cond 8 Tryz.f8 rfl rfl rfl rfl rfl rfl rfl ⟨rfl, rfl, rfl, rfl, rfl⟩ rfl rfl rfl rfl rfl said1 Tryz.func8 said2 said3 said4
    (fun os started H enc _ F => by rw [OpenClaim.pre_eq_preRow]; exact lifted os started H enc F)
theorem plain (f : FuncId) (fn : Func) (hf : Tryz.pinned.checked.prog.funcNamed "smithy/smithylaw15.CodeBytes" = some f) (hfn : Tryz.pinned.checked.prog.funcs[f]? = some fn) :
    true = Tryz.pinned.checked.prog.looks [] ∧ ∀ (j : Nat) t, fn.params[j]? = some t → Tryz.pinned.checked.prog.wantsStandIn t = false := by
  obtain rfl : f = 8 := Option.some.inj ((show Tryz.prog.funcNamed "smithy/smithylaw15.CodeBytes" = some 8 by kernel_rfl).symm.trans hf) |>.symm
  obtain rfl : fn = Tryz.f8 := (Option.some.inj (Tryz.func8.symm.trans hfn)).symm
  refine ⟨by kernel_rfl, fun j t ht => ?_⟩
  rw [Tryz.params8] at ht
  have ht2 : t = 28 ∨ t = 79 := by have := Array.mem_of_getElem? ht; simpa using this
  rcases ht2 with rfl | rfl
  · exact (show Tryz.prog.wantsStandIn 28 = false by kernel_rfl)
  · exact (show Tryz.prog.wantsStandIn 79 = false by kernel_rfl)
/-- The card. -/
theorem card : Rows.CodeBytesCardSaid :=
  Claim7.holds_tied_plain_at .later [] _ _ _ _ said (fun _ h => by cases h) (by kernel_rfl) (fun _ h => by cases h) codeBytes_row_tie rfl ⟨rfl, rfl⟩ (by kernel_rfl) rfl plain (by kernel_rfl)
end Go.Proofs.YtgijpgkckiknjaaGreatDoor.codeBytes
