/-
  Proved here: what a list of all of api's errors gives: each variable's cell, each error one of its own; a world in which a call may begin.
-/
import Derived.Test.YtickdimknfeddaaGreatDoorCards
import Derived.Test.YtickdimknfeddaaGreatDoorTie
import Derived.WalkKit
import Derived.ProofKit
import Derived.OpenShut
import Derived.Deep.DeepHandedRow
import Derived.Stop.LaidErr
import Derived.Stop.LaidTwo
namespace Go.Proofs.YtickdimknfeddaaGreatDoor.Env
open Go.ChangeShapes Go.WideShapes Go.ChangeAt Go.RowKit
@[reducible] def errV (a : Addr) : Value := .iface 247 (.pointer (some a))
def sentG : List Nat := [5, 4, 7, 3, 8, 9, 10, 2, 11, 1, 12, 13, 0, 14, 15, 16, 17]
/-- the variables that hold api's errors: each holds one of its own -/
structure EnvS (w0 : World) (base : Nat) (aE : Nat → Addr) : Prop where
  at_ : ∀ i g, sentG[i]? = some g → w0.cell? ⟨g, 0, none⟩ = some (errV (aE i))
  lt : ∀ g ∈ sentG, g < base
  blk : ∀ i, i < 17 → (aE i).block < base ∧ ∃ c t, w0.heap[(aE i).block]? = some (.cells c t (0, 0))
  ne : ∀ i j, i < 17 → j < 17 → i ≠ j → aE i ≠ aE j
theorem own : ownKnob Tryz.prog.godebug = none := by kernel_rfl
theorem laidOut : laidOutB Tryz.prog = true := by kernel_rfl
theorem cells3 : Tryz.prog.cellsOf 3 = 1 := by kernel_rfl
theorem cells9 : Tryz.prog.cellsOf 9 = 1 := by kernel_rfl
theorem cellsE : Tryz.prog.cellsOf 264 = 1 := by kernel_rfl
theorem unE : Tryz.prog.underlying 28 = some (.interface #[("Error", 113)]) := by kernel_rfl
theorem unP : Tryz.prog.underlying 247 = some (.pointer 264) := by kernel_rfl
theorem unI : Tryz.prog.underlying 3 = some (.int .i64) := by kernel_rfl
theorem unB : Tryz.prog.underlying 4 = some .bool := by kernel_rfl
theorem unS : Tryz.prog.underlying 9 = some .string := by kernel_rfl
theorem star : "*" ++ "errors.errorString" = "*errors.errorString" := by decide
theorem rowE (u : TypeId) (h : Tryz.prog.typeName? 3 u = some "*errors.errorString") : u = 247 :=
  typeName_ptr_named (nm := "errors.errorString") (by rw [star]; kernel_rfl) (by kernel_rfl) (by decide) u (by rw [star]; exact h)
/-- a world with each listed error, and each listed table, laid -/
noncomputable def laidWorld (os : Os) (l : List (Nat × ByteArray)) (tb : List (Nat × Array Value) := []) : World :=
  let w0 := World.holding Tryz.prog os ⟨(l.map fun x => Obj.cells #[.string x.2] 264 (0, 0)).toArray, #[], []⟩
  let low := (World.holding Tryz.prog os ⟨#[], #[], []⟩).heap.size
  let h1 := (l.zipIdx).foldl (fun h x => h.modify x.1.1 fun
      | .cells _ t frozen => .cells #[.iface 247 (.pointer (some ⟨low + x.2, 0, none⟩))] t frozen
      | o => o) w0.heap
  { w0 with heap := tb.foldl (fun h x => h.modify x.1 fun
      | .cells _ t frozen => .cells x.2 t frozen
      | o => o) h1 }
theorem laidVars_sub {P : Program} {w : World} : ∀ {l l' : List (String × DataW Unit)} {ps : List MemPlace}, l'.Sublist l → DataW.LaidVars P w l ps → ∃ ps', DataW.LaidVars P w l' ps' ∧ ps'.Sublist ps := by
  intro l l' ps hs
  induction hs generalizing ps with
  | slnil => intro h; exact ⟨ps, h, List.Sublist.refl _⟩
  | cons x _ ih =>
    intro h
    obtain ⟨n, d⟩ := x
    obtain ⟨g, t, cs, fuel, p, q, e1, e2, e3, e4, hr, rfl⟩ := h
    obtain ⟨q', hq, hs'⟩ := ih hr
    exact ⟨q', hq, hs'.trans (List.sublist_append_right _ _)⟩
  | cons_cons x _ ih =>
    intro h
    obtain ⟨n, d⟩ := x
    obtain ⟨g, t, cs, fuel, p, q, e1, e2, e3, e4, hr, rfl⟩ := h
    obtain ⟨q', hq, hs'⟩ := ih hr
    exact ⟨_, ⟨g, t, cs, fuel, p, q', e1, e2, e3, e4, hq, rfl⟩, List.Sublist.append (List.Sublist.refl _) hs'⟩
theorem laidMet_sub {P : Program} {w : World} {l l' : List (String × DataW Unit)} (hs : l'.Sublist l) (h : laidMet P l w) : laidMet P l' w := by
  obtain ⟨ps, hl, hnd, hrows⟩ := h
  obtain ⟨ps', hl', hs'⟩ := laidVars_sub hs hl
  exact ⟨ps', hl', hnd.sublist hs', fun b off hp => hrows b off (hs'.subset hp)⟩
theorem pair_sub {α : Type} {l : List α} {i j : Nat} {a b : α} (hi : l[i]? = some a) (hj : l[j]? = some b) (h : i < j) : [a, b].Sublist l := by
  obtain ⟨hj1, hj2⟩ := List.getElem?_eq_some_iff.1 hj
  have h1 : l = l.take j ++ l.drop j := (List.take_append_drop j l).symm
  have h2 : l.drop j = b :: l.drop (j + 1) := by rw [List.drop_eq_getElem_cons hj1, hj2]
  have h3 : a ∈ l.take j := by
    refine List.mem_of_getElem? (i := i) ?_
    rw [List.getElem?_take, if_pos h]; exact hi
  rw [h1, h2]
  exact List.Sublist.append (l₁ := [a]) (r₁ := [b]) (List.singleton_sublist.2 h3) (List.singleton_sublist.2 (by simp))
/-- a list of sentinels -/
@[reducible] def sentL (nm : Nat → String) (tx : Nat → List UInt8) (n : Nat) : List (String × DataW Unit) := (List.range n).map fun i => (nm i, .iface "*errors.errorString" (.ptr (.agg [.lit (.string (tx i))])))
theorem sentL_get {nm : Nat → String} {tx : Nat → List UInt8} {n i : Nat} (h : i < n) : (sentL nm tx n)[i]? = some (nm i, .iface "*errors.errorString" (.ptr (.agg [.lit (.string (tx i))]))) := by
  rw [List.getElem?_map, List.getElem?_range h]; rfl
theorem envS {W : World} {nm : Nat → String} {tx : Nat → List UInt8} (h : laidMet Tryz.prog (sentL nm tx 17) W)
    (hg : ∀ i g, sentG[i]? = some g → Tryz.prog.globalNamed (nm i) = some g ∧ (Tryz.prog.globals[g]?).map (·.type) = some 28) : ∃ aE, EnvS W W.heap.size aE := by
  have hlen : ∀ i, i < 17 → ∃ g, sentG[i]? = some g := fun i hi => ⟨_, List.getElem?_eq_getElem (by show i < 17; exact hi)⟩
  have two : ∀ i j, i < j → j < 17 → ∀ gi gj, sentG[i]? = some gi → sentG[j]? = some gj → ∃ (a b : Addr), W.cell? ⟨gi, 0, none⟩ = some (errV a) ∧ W.cell? ⟨gj, 0, none⟩ = some (errV b) ∧ a ≠ b ∧
      (∃ c t, W.heap[a.block]? = some (.cells c t (0, 0))) ∧ (∃ c t, W.heap[b.block]? = some (.cells c t (0, 0))) := by
    intro i j hij hj gi gj hgi hgj
    have h2 := laidMet_sub (pair_sub (sentL_get (nm := nm) (tx := tx) (show i < 17 by omega)) (sentL_get (nm := nm) (tx := tx) hj) hij) h
    obtain ⟨a0, a1, s0, s1, c0, c1, t0, t1, hv0, hv1, hc0, _, _, hc1, _, _, hne, hb0, hb1⟩ := laid_sentinels2 h2 (hg i gi hgi).1 (hg i gi hgi).2 (hg j gj hgj).1 (hg j gj hgj).2 unE rowE unP (show Tryz.prog.underlying 264 = some (.struct #[⟨"s", 9, 0, false, "", "errors", 0⟩]) by kernel_rfl) rfl rfl unS cellsE cells9
    exact ⟨a0, a1, by simpa using World.var?_cell (hg i gi hgi).1 hv0 0, by simpa using World.var?_cell (hg j gj hgj).1 hv1 0, hne, ⟨c0, t0, hb0⟩, ⟨c1, t1, hb1⟩⟩
  have one : ∀ i, ∃ a : Addr, i < 17 → ∀ g, sentG[i]? = some g → W.cell? ⟨g, 0, none⟩ = some (errV a) ∧ ∃ c t, W.heap[a.block]? = some (.cells c t (0, 0)) := by
    intro i
    by_cases hi : i < 17
    · obtain ⟨g, hgi⟩ := hlen i hi
      by_cases h0 : i = 0
      · obtain ⟨g1, hg1⟩ := hlen 1 (by decide)
        obtain ⟨a, b, h1, _, _, h3, _⟩ := two i 1 (by omega) (by decide) g g1 hgi hg1
        exact ⟨a, fun _ g' hg' => by rw [hgi] at hg'; cases hg'; exact ⟨h1, h3⟩⟩
      · obtain ⟨g1, hg1⟩ := hlen 0 (by decide)
        obtain ⟨a, b, _, h1, _, _, h3⟩ := two 0 i (by omega) hi g1 g hg1 hgi
        exact ⟨b, fun _ g' hg' => by rw [hgi] at hg'; cases hg'; exact ⟨h1, h3⟩⟩
    · exact ⟨⟨0, 0, none⟩, fun h => absurd h hi⟩
  have hlt : ∀ i g, sentG[i]? = some g → i < 17 := fun i g hi => (List.getElem?_eq_some_iff.1 hi).1
  refine ⟨fun i => (one i).choose, ⟨fun i g hi => ((one i).choose_spec (hlt i g hi) g hi).1, fun g hgm => ?_, fun i hi => ?_, fun i j hi hj hne he => ?_⟩⟩
  · obtain ⟨i, hi⟩ := List.getElem?_of_mem hgm
    exact World.block_lt_of_cell? _ _ ((one i).choose_spec (hlt i g hi) g hi).1
  · obtain ⟨g, hgi⟩ := hlen i hi
    obtain ⟨_, c, t, hc⟩ := (one i).choose_spec hi g hgi
    exact ⟨(Array.getElem?_eq_some_iff.1 hc).1, c, t, hc⟩
  · obtain ⟨gi, hgi⟩ := hlen i hi
    obtain ⟨gj, hgj⟩ := hlen j hj
    have e1 := ((one i).choose_spec hi gi hgi).1
    have e2 := ((one j).choose_spec hj gj hgj).1
    rcases Nat.lt_or_gt_of_ne hne with h1 | h1
    · obtain ⟨a, b, h2, h3, h4, _⟩ := two i j h1 hj gi gj hgi hgj
      rw [e1] at h2; rw [e2] at h3
      injection h2 with h2; injection h2 with _ h2; injection h2 with h2; injection h2 with h2
      injection h3 with h3; injection h3 with _ h3; injection h3 with h3; injection h3 with h3
      exact h4 (h2.symm.trans (he.trans h3))
    · obtain ⟨a, b, h2, h3, h4, _⟩ := two j i h1 hi gj gi hgj hgi
      rw [e2] at h2; rw [e1] at h3
      injection h2 with h2; injection h2 with _ h2; injection h2 with h2; injection h2 with h2
      injection h3 with h3; injection h3 with _ h3; injection h3 with h3; injection h3 with h3
      exact h4 (h2.symm.trans (he.symm.trans h3))
def nm17 (i : Nat) : String := ["smithy/api.ErrLex", "smithy/api.ErrParse", "smithy/api.ErrResolve", "smithy/api.ErrDynamic", "smithy/api.ErrCycle", "smithy/api.ErrVisibility", "smithy/api.ErrAnalysis", "smithy/api.ErrLimit", "smithy/api.ErrMissing", "smithy/api.ErrMany", "smithy/api.ErrKind", "smithy/api.ErrPath", "smithy/api.ErrShape", "smithy/api.ErrEnd", "smithy/api.ErrRange", "smithy/api.ErrDown", "smithy/api.ErrFail"].getD i ""
def tx17 (i : Nat) : List UInt8 := ([[108, 101, 120], [112, 97, 114, 115, 101], [114, 101, 115, 111, 108, 118, 101], [100, 121, 110, 97, 109, 105, 99], [99, 121, 99, 108, 101], [118, 105, 115, 105, 98, 105, 108, 105, 116, 121], [97, 110, 97, 108, 121, 115, 105, 115], [108, 105, 109, 105, 116], [109, 105, 115, 115, 105, 110, 103], [116, 111, 111, 32, 109, 97, 110, 121], [110, 111, 32, 115, 117, 99, 104, 32, 107, 105, 110, 100], [110, 111, 32, 112, 97, 116, 104], [110, 111, 116, 32, 116, 104, 101, 32, 115, 104, 97, 112, 101, 32, 116, 104, 97, 116, 32, 105, 116, 32, 104, 97, 115, 32, 116, 111, 32, 104, 97, 118, 101], [105, 116, 32, 101, 110, 100, 115, 32, 116, 111, 111, 32, 101, 97, 114, 108, 121], [97, 32, 110, 117, 109, 98, 101, 114, 32, 111, 117, 116, 32, 111, 102, 32, 105, 116, 115, 32, 114, 97, 110, 103, 101], [116, 104, 101, 32, 112, 111, 119, 101, 114, 32, 104, 97, 115, 32, 103, 111, 110, 101], [105, 116, 32, 104, 97, 115, 32, 102, 97, 105, 108, 101, 100]] : List (List UInt8)).getD i []
def laid17 : List (String × DataW Unit) := [("smithy/api.ErrLex", Rows.laid_smithy_api_ErrLex), ("smithy/api.ErrParse", Rows.laid_smithy_api_ErrParse), ("smithy/api.ErrResolve", Rows.laid_smithy_api_ErrResolve), ("smithy/api.ErrDynamic", Rows.laid_smithy_api_ErrDynamic), ("smithy/api.ErrCycle", Rows.laid_smithy_api_ErrCycle), ("smithy/api.ErrVisibility", Rows.laid_smithy_api_ErrVisibility), ("smithy/api.ErrAnalysis", Rows.laid_smithy_api_ErrAnalysis), ("smithy/api.ErrLimit", Rows.laid_smithy_api_ErrLimit), ("smithy/api.ErrMissing", Rows.laid_smithy_api_ErrMissing), ("smithy/api.ErrMany", Rows.laid_smithy_api_ErrMany), ("smithy/api.ErrKind", Rows.laid_smithy_api_ErrKind), ("smithy/api.ErrPath", Rows.laid_smithy_api_ErrPath), ("smithy/api.ErrShape", Rows.laid_smithy_api_ErrShape), ("smithy/api.ErrEnd", Rows.laid_smithy_api_ErrEnd), ("smithy/api.ErrRange", Rows.laid_smithy_api_ErrRange), ("smithy/api.ErrDown", Rows.laid_smithy_api_ErrDown), ("smithy/api.ErrFail", Rows.laid_smithy_api_ErrFail)]
theorem laid17_eq : laid17 = sentL nm17 tx17 17 := by kernel_rfl
theorem globs17 : ∀ i g, sentG[i]? = some g → Tryz.prog.globalNamed (nm17 i) = some g ∧ (Tryz.prog.globals[g]?).map (·.type) = some 28 := by
  intro i g h
  match i, h with
  | 0, h => cases h; exact ⟨by kernel_rfl, by kernel_rfl⟩
  | 1, h => cases h; exact ⟨by kernel_rfl, by kernel_rfl⟩
  | 2, h => cases h; exact ⟨by kernel_rfl, by kernel_rfl⟩
  | 3, h => cases h; exact ⟨by kernel_rfl, by kernel_rfl⟩
  | 4, h => cases h; exact ⟨by kernel_rfl, by kernel_rfl⟩
  | 5, h => cases h; exact ⟨by kernel_rfl, by kernel_rfl⟩
  | 6, h => cases h; exact ⟨by kernel_rfl, by kernel_rfl⟩
  | 7, h => cases h; exact ⟨by kernel_rfl, by kernel_rfl⟩
  | 8, h => cases h; exact ⟨by kernel_rfl, by kernel_rfl⟩
  | 9, h => cases h; exact ⟨by kernel_rfl, by kernel_rfl⟩
  | 10, h => cases h; exact ⟨by kernel_rfl, by kernel_rfl⟩
  | 11, h => cases h; exact ⟨by kernel_rfl, by kernel_rfl⟩
  | 12, h => cases h; exact ⟨by kernel_rfl, by kernel_rfl⟩
  | 13, h => cases h; exact ⟨by kernel_rfl, by kernel_rfl⟩
  | 14, h => cases h; exact ⟨by kernel_rfl, by kernel_rfl⟩
  | 15, h => cases h; exact ⟨by kernel_rfl, by kernel_rfl⟩
  | 16, h => cases h; exact ⟨by kernel_rfl, by kernel_rfl⟩
  | i + 17, h => cases h
theorem env17 {W : World} (h : laidMetH Tryz.prog (("math/bits.deBruijn32tab", Rows.laid_math_bits_deBruijn32tab) :: ("math/bits.deBruijn64tab", Rows.laid_math_bits_deBruijn64tab) :: ("internal/strconv.uint64pow10", Rows.laid_internal_strconv_uint64pow10) :: laid17) W) : ∃ aE, EnvS W W.heap.size aE := by
  have h1 : laidMet Tryz.prog laid17 W := laidMet_sub (List.Sublist.cons _ (List.Sublist.cons _ (List.Sublist.cons _ ((List.Sublist.refl _))))) (laidMetH_iff.1 h).1
  rw [laid17_eq] at h1
  exact envS h1 globs17
end Go.Proofs.YtickdimknfeddaaGreatDoor.Env
