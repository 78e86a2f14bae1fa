/-
  Proved here: the statement 'ValKeys' and its card.
-/
import Derived.Test.YtickdimknfeddaaGreatDoorEnvQ
import Derived.Test.YtickdimknfeddaaGreatDoorKzM
import Derived.Test.YtickdimknfeddaaGreatDoorKzArg
import Derived.Test.YtickdimknfeddaaGreatDoorKzL
import Derived.SevenTiedAt
namespace Go.Proofs.YtickdimknfeddaaGreatDoor.valKeys
open Go.ChangeShapes Go.WideShapes Go.ChangeAt Go.RowKit Go.SX Env
set_option maxRecDepth 100000 in
/-- What the walk gives, for every argument and every world that holds the listed variables. -/
theorem contract (H : Type) (enc : TypeId × Value → H) (W : World) (base : Nat) (args : Array Value) (ds gs : List (DataW H)) (before : List MemPlace)
    (hval : ∀ (j : Nat) t v, Tryz.f3.params[j]? = some t → args[j]? = some v → Value.okWide Tryz.prog W .any base t v)
    (hW : DataW.Whole enc Tryz.prog Tryz.f3.params.toList Rows.valKeysSpec.vars false W args.toList ds gs before) (hL : laidMetH Tryz.prog Rows.valKeysRow.laid W) :
    Calls Tryz.prog 3 args W fun e W' => ∃ v, e = .returned v ∧ Rows.valKeysSpec.post enc Tryz.prog Tryz.f3 false true false false W args v W' := by
  have hW' := hW
  obtain ⟨p, q, hA0, hV, rfl, hfz, hnd⟩ := hW
  have hA : DataW.TrodAll enc Tryz.prog W 0 (fun _ => true) true Tryz.f3.params.toList args.toList ds p := hA0
  rw [Tryz.params3] at hA hval
  obtain ⟨v0, v1, d0, d1, p0, p1, rfl, rfl, rfl, h0, h1⟩ := trodAll_two hA
  obtain ⟨rfl, rfl⟩ := trodVars_none hV
  obtain ⟨a0, len0, cap0, rfl⟩ := okWide_slice Arg.u22 (hval 0 22 v0 rfl rfl)
  obtain ⟨a1, len1, cap1, rfl⟩ := okWide_slice Arg.u22 (hval 1 22 v1 rfl rfl)
  clear hA0
  simp only [List.append_nil] at hW'
  have hlt : ∀ x ∈ p0 ++ p1, x.block < W.heap.size := fun x hx => by simpa using hW'.lt x (by simpa using hx)
  have g0 : ∀ W' : World, Below W.heap.size W W' → DataW.Trod enc Tryz.prog W' 0 (fun b => decide (b < W.heap.size)) true 22 (.slice a0 len0 cap0) d0 p0 :=
    fun W' hn => Below.trod laidOut (by kernel_rfl) (of_decide_eq_true (by kernel_rfl)) h0 hn (fun x hx => hlt x (by simp [hx]))
  have g1 : ∀ W' : World, Below W.heap.size W W' → DataW.Trod enc Tryz.prog W' 0 (fun b => decide (b < W.heap.size)) true 22 (.slice a1 len1 cap1) d1 p1 :=
    fun W' hn => Below.trod laidOut (by kernel_rfl) (of_decide_eq_true (by kernel_rfl)) h1 hn (fun x hx => hlt x (by simp [hx]))
  obtain ⟨fuel0, hf0⟩ := h0
  obtain ⟨w0, zs0, e0, hz0⟩ := Arg.nodes_open hf0
  obtain ⟨av0, cp0, rfl, ⟨hn0, hc0⟩, hb0⟩ := hz0.sl
  obtain ⟨rfl, rfl, rfl⟩ : a0 = av0 ∧ len0 = zs0.length ∧ cap0 = cp0 := by simpa [Value.cells] using e0
  obtain ⟨fuel1, hf1⟩ := h1
  obtain ⟨w1, zs1, e1, hz1⟩ := Arg.nodes_open hf1
  obtain ⟨av1, cp1, rfl, ⟨hn1, hc1⟩, hb1⟩ := hz1.sl
  obtain ⟨rfl, rfl, rfl⟩ : a1 = av1 ∧ len1 = zs1.length ∧ cap1 = cp1 := by simpa [Value.cells] using e1
  obtain ⟨aE, hS⟩ := env17 hL
  have hK : EnvK W W.heap.size aE := ⟨hS, tab17 hL⟩
  refine ((law_c hK _ _ hb0 hb1) W (WA.start W)).mono fun e W' ⟨_, he, hw⟩ => ?_
  subst he
  exact ⟨_, rfl, _, _, _, [], _, [], hW', trodAll_mk1 (shut_bool unB _), trodAll_mk2 (g0 _ hw.below) (g1 _ hw.below), rfl, hw.below.frame _, fun h => by cases h⟩
/-- a world for the witness -/
noncomputable abbrev start (os : Os) : World := laidWorld os [(5, ⟨#[108, 101, 120]⟩), (4, ⟨#[112, 97, 114, 115, 101]⟩), (7, ⟨#[114, 101, 115, 111, 108, 118, 101]⟩), (3, ⟨#[100, 121, 110, 97, 109, 105, 99]⟩), (8, ⟨#[99, 121, 99, 108, 101]⟩), (9, ⟨#[118, 105, 115, 105, 98, 105, 108, 105, 116, 121]⟩), (10, ⟨#[97, 110, 97, 108, 121, 115, 105, 115]⟩), (2, ⟨#[108, 105, 109, 105, 116]⟩), (11, ⟨#[109, 105, 115, 115, 105, 110, 103]⟩), (1, ⟨#[116, 111, 111, 32, 109, 97, 110, 121]⟩), (12, ⟨#[110, 111, 32, 115, 117, 99, 104, 32, 107, 105, 110, 100]⟩), (13, ⟨#[110, 111, 32, 112, 97, 116, 104]⟩), (0, ⟨#[110, 111, 116, 32, 116, 104, 101, 32, 115, 104, 97, 112, 101, 32, 116, 104, 97, 116, 32, 105, 116, 32, 104, 97, 115, 32, 116, 111, 32, 104, 97, 118, 101]⟩), (14, ⟨#[105, 116, 32, 101, 110, 100, 115, 32, 116, 111, 111, 32, 101, 97, 114, 108, 121]⟩), (15, ⟨#[97, 32, 110, 117, 109, 98, 101, 114, 32, 111, 117, 116, 32, 111, 102, 32, 105, 116, 115, 32, 114, 97, 110, 103, 101]⟩), (16, ⟨#[116, 104, 101, 32, 112, 111, 119, 101, 114, 32, 104, 97, 115, 32, 103, 111, 110, 101]⟩), (17, ⟨#[105, 116, 32, 104, 97, 115, 32, 102, 97, 105, 108, 101, 100]⟩)] [(18, #[.int .u8 0, .int .u8 1, .int .u8 28, .int .u8 2, .int .u8 29, .int .u8 14, .int .u8 24, .int .u8 3, .int .u8 30, .int .u8 22, .int .u8 20, .int .u8 15, .int .u8 25, .int .u8 17, .int .u8 4, .int .u8 8, .int .u8 31, .int .u8 27, .int .u8 13, .int .u8 23, .int .u8 21, .int .u8 19, .int .u8 16, .int .u8 7, .int .u8 26, .int .u8 12, .int .u8 18, .int .u8 6, .int .u8 11, .int .u8 5, .int .u8 10, .int .u8 9]), (19, #[.int .u8 0, .int .u8 1, .int .u8 56, .int .u8 2, .int .u8 57, .int .u8 49, .int .u8 28, .int .u8 3, .int .u8 61, .int .u8 58, .int .u8 42, .int .u8 50, .int .u8 38, .int .u8 29, .int .u8 17, .int .u8 4, .int .u8 62, .int .u8 47, .int .u8 59, .int .u8 36, .int .u8 45, .int .u8 43, .int .u8 51, .int .u8 22, .int .u8 53, .int .u8 39, .int .u8 33, .int .u8 30, .int .u8 24, .int .u8 18, .int .u8 12, .int .u8 5, .int .u8 63, .int .u8 55, .int .u8 48, .int .u8 27, .int .u8 60, .int .u8 41, .int .u8 37, .int .u8 16, .int .u8 46, .int .u8 35, .int .u8 44, .int .u8 21, .int .u8 52, .int .u8 32, .int .u8 23, .int .u8 11, .int .u8 54, .int .u8 26, .int .u8 40, .int .u8 15, .int .u8 34, .int .u8 20, .int .u8 31, .int .u8 10, .int .u8 25, .int .u8 14, .int .u8 19, .int .u8 9, .int .u8 13, .int .u8 8, .int .u8 7, .int .u8 6]), (6, #[.int .u64 1, .int .u64 10, .int .u64 100, .int .u64 1000, .int .u64 10000, .int .u64 100000, .int .u64 1000000, .int .u64 10000000, .int .u64 100000000, .int .u64 1000000000, .int .u64 10000000000, .int .u64 100000000000, .int .u64 1000000000000, .int .u64 10000000000000, .int .u64 100000000000000, .int .u64 1000000000000000, .int .u64 10000000000000000, .int .u64 100000000000000000, .int .u64 1000000000000000000, .int .u64 10000000000000000000])]
theorem laid_met (os : Os) : laidMet Tryz.prog Rows.valKeysRow.laid ((start os).forCall (fun _ _ => 0) ⟨#[], #[.slice none 0 0, .slice none 0 0], []⟩).memory :=
  laidMet_of_run' 8 (by kernel_rfl) (by kernel_rfl)
theorem reads (os : Os) {H : Type} (enc : TypeId × Value → H) : ∃ places, DataW.whole enc Tryz.prog ((start os).forCall (fun _ _ => 0) ⟨#[], #[.slice none 0 0, .slice none 0 0], []⟩).memory Tryz.f3.params.toList Rows.valKeysSpec.vars false (#[.slice none 0 0, .slice none 0 0] : Array Value).toList 8 = some ([.nil, .nil], [], places) :=
  ⟨[], by kernel_rfl⟩
set_option maxRecDepth 100000 in
theorem lifted (os : Os) (started : os.Started) (H : Type) (enc : TypeId × Value → H) (F : Stop.Interp) :
    ReturnsInHanded {} Tryz.checked os 3 .any ((OpenSpec.ofChange Rows.valKeysSpec).preRow enc Tryz.prog Tryz.f3 Rows.valKeysRow.domain false Rows.valKeysRow.laid) (((OpenSpec.ofChange Rows.valKeysSpec).at F).post enc Tryz.prog Tryz.f3 false true false false) := by
  obtain ⟨places, hx⟩ := reads os enc
  refine returnsInHanded_of_row (C := Tryz.checked) (s := OpenSpec.ofChange Rows.valKeysSpec) own started (by kernel_rfl) Tryz.func3
    (witness_row_at (enc := enc) (C := Tryz.checked) false (start os) #[.slice none 0 0, .slice none 0 0] rfl (by kernel_rfl) (by kernel_rfl) (by kernel_rfl)
      (OpenSpec.preRow_of_cond 8 hx (by kernel_rfl) (fun k hk => by cases hk) (by kernel_rfl) (laid_met os))) ?_
  intro W base args ds gs before hval hW _ _ _ hL _ _
  exact contract H enc W base args ds gs before hval hW hL
theorem said1 : Tryz.pinned.checked.prog.funcNamed Rows.valKeysRow.func = some 3 := by kernel_rfl
theorem said2 : joinedFacts Tryz.pinned.checked.prog 3 Tryz.f3 (OpenSpec.ofChange Rows.valKeysSpec).bare Rows.valKeysRow = true := by kernel_rfl
theorem said3 : Tryz.f3.isInstance Tryz.pinned.checked.prog Rows.valKeysRow.origin Rows.valKeysRow.targs := of_decide_eq_true (by kernel_rfl)
theorem said4 : Tryz.f3.isWrapper Tryz.pinned.checked.prog Rows.valKeysRow.wrapper Rows.valKeysRow.mainSum := by unfold Func.isWrapper; first | (rw [if_pos (by decide +kernel)]; kernel_rfl) | (rw [if_neg (by decide +kernel)]; exact ⟨rfl, rfl⟩)
theorem said : Rows.ValKeysSaid :=
  OpenClaim.holds_of_cond 3 Tryz.f3 rfl rfl rfl rfl rfl rfl rfl ⟨rfl, rfl, rfl, rfl, rfl⟩ rfl rfl rfl rfl rfl said1 Tryz.func3 said2 said3 said4
    (fun os started H enc _ F => by rw [OpenClaim.pre_eq_preRow]; exact lifted os started H enc F)
theorem plain (f : FuncId) (fn : Func) (hf : Tryz.pinned.checked.prog.funcNamed "smithy/smithylaw10.ValKeys" = some f) (hfn : Tryz.pinned.checked.prog.funcs[f]? = some fn) :
    true = Tryz.pinned.checked.prog.looks [] ∧ ∀ (j : Nat) t, fn.params[j]? = some t → Tryz.pinned.checked.prog.wantsStandIn t = false := by
  obtain rfl : f = 3 := Option.some.inj ((show Tryz.prog.funcNamed "smithy/smithylaw10.ValKeys" = some 3 by kernel_rfl).symm.trans hf) |>.symm
  obtain rfl : fn = Tryz.f3 := (Option.some.inj (Tryz.func3.symm.trans hfn)).symm
  refine ⟨by kernel_rfl, fun j t ht => ?_⟩
  rw [Tryz.params3] at ht
  obtain rfl : t = 22 := by simpa using Array.mem_of_getElem? ht
  exact (show Tryz.prog.wantsStandIn 22 = false by kernel_rfl)
/-- The card. -/
theorem card : Rows.ValKeysCardSaid :=
  Claim7.holds_tied_plain_at .later [] _ _ _ _ said (fun _ h => by cases h) (by kernel_rfl) (fun _ h => by cases h) valKeys_row_tie rfl ⟨rfl, rfl⟩ (by kernel_rfl) rfl plain (by kernel_rfl)
end Go.Proofs.YtickdimknfeddaaGreatDoor.valKeys
