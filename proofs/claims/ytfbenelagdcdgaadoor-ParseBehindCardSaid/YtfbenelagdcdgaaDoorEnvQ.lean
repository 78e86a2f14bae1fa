/-
  Proved here: what a list of all of api's errors gives: each variable's cell, each error one of its own; a world in which a call may begin.
-/
import Derived.Test.YtfbenelagdcdgaaDoorCards
import Derived.Test.YtfbenelagdcdgaaDoorTie
import Derived.WalkKit
import Derived.ProofKit
import Derived.OpenShut
import Derived.Deep.DeepHandedRow
import Derived.Stop.LaidErr
import Derived.Stop.LaidTwo
namespace Go.Proofs.YtfbenelagdcdgaaDoor.Env
open Go.ChangeShapes Go.WideShapes Go.ChangeAt Go.RowKit
@[reducible] def errV (a : Addr) : Value := .iface 90 (.pointer (some a))
def sentG : List Nat := [1, 2, 0]
/-- the variables that hold api's errors: each holds one of its own -/
structure EnvS (w0 : World) (base : Nat) (aE : Nat → Addr) : Prop where
  at_ : ∀ i g, sentG[i]? = some g → w0.cell? ⟨g, 0, none⟩ = some (errV (aE i))
  lt : ∀ g ∈ sentG, g < base
  blk : ∀ i, i < 3 → (aE i).block < base ∧ ∃ c t, w0.heap[(aE i).block]? = some (.cells c t (0, 0))
  ne : ∀ i j, i < 3 → j < 3 → i ≠ j → aE i ≠ aE j
theorem own : ownKnob Tryd.prog.godebug = none := by kernel_rfl
theorem laidOut : laidOutB Tryd.prog = true := by kernel_rfl
theorem cells3 : Tryd.prog.cellsOf 3 = 1 := by kernel_rfl
theorem cells9 : Tryd.prog.cellsOf 9 = 1 := by kernel_rfl
theorem cellsE : Tryd.prog.cellsOf 106 = 1 := by kernel_rfl
theorem unE : Tryd.prog.underlying 25 = some (.interface #[("Error", 76)]) := by kernel_rfl
theorem unP : Tryd.prog.underlying 90 = some (.pointer 106) := by kernel_rfl
theorem unI : Tryd.prog.underlying 3 = some (.int .i64) := by kernel_rfl
theorem unB : Tryd.prog.underlying 4 = some .bool := by kernel_rfl
theorem unS : Tryd.prog.underlying 9 = some .string := by kernel_rfl
theorem star : "*" ++ "errors.errorString" = "*errors.errorString" := by decide
theorem rowE (u : TypeId) (h : Tryd.prog.typeName? 3 u = some "*errors.errorString") : u = 90 :=
  typeName_ptr_named (nm := "errors.errorString") (by rw [star]; kernel_rfl) (by kernel_rfl) (by decide) u (by rw [star]; exact h)
/-- a world with each listed error, and each listed table, laid -/
noncomputable def laidWorld (os : Os) (l : List (Nat × ByteArray)) (tb : List (Nat × Array Value) := []) : World :=
  let w0 := World.holding Tryd.prog os ⟨(l.map fun x => Obj.cells #[.string x.2] 106 (0, 0)).toArray, #[], []⟩
  let low := (World.holding Tryd.prog os ⟨#[], #[], []⟩).heap.size
  let h1 := (l.zipIdx).foldl (fun h x => h.modify x.1.1 fun
      | .cells _ t frozen => .cells #[.iface 90 (.pointer (some ⟨low + x.2, 0, none⟩))] t frozen
      | o => o) w0.heap
  { w0 with heap := tb.foldl (fun h x => h.modify x.1 fun
      | .cells _ t frozen => .cells x.2 t frozen
      | o => o) h1 }
theorem laidVars_sub {P : Program} {w : World} : ∀ {l l' : List (String × DataW Unit)} {ps : List MemPlace}, l'.Sublist l → DataW.LaidVars P w l ps → ∃ ps', DataW.LaidVars P w l' ps' ∧ ps'.Sublist ps := by
  intro l l' ps hs
  induction hs generalizing ps with
  | slnil => intro h; exact ⟨ps, h, List.Sublist.refl _⟩
  | cons x _ ih =>
    intro h
    obtain ⟨n, d⟩ := x
    obtain ⟨g, t, cs, fuel, p, q, e1, e2, e3, e4, hr, rfl⟩ := h
    obtain ⟨q', hq, hs'⟩ := ih hr
    exact ⟨q', hq, hs'.trans (List.sublist_append_right _ _)⟩
  | cons_cons x _ ih =>
    intro h
    obtain ⟨n, d⟩ := x
    obtain ⟨g, t, cs, fuel, p, q, e1, e2, e3, e4, hr, rfl⟩ := h
    obtain ⟨q', hq, hs'⟩ := ih hr
    exact ⟨_, ⟨g, t, cs, fuel, p, q', e1, e2, e3, e4, hq, rfl⟩, List.Sublist.append (List.Sublist.refl _) hs'⟩
theorem laidMet_sub {P : Program} {w : World} {l l' : List (String × DataW Unit)} (hs : l'.Sublist l) (h : laidMet P l w) : laidMet P l' w := by
  obtain ⟨ps, hl, hnd, hrows⟩ := h
  obtain ⟨ps', hl', hs'⟩ := laidVars_sub hs hl
  exact ⟨ps', hl', hnd.sublist hs', fun b off hp => hrows b off (hs'.subset hp)⟩
theorem pair_sub {α : Type} {l : List α} {i j : Nat} {a b : α} (hi : l[i]? = some a) (hj : l[j]? = some b) (h : i < j) : [a, b].Sublist l := by
  obtain ⟨hj1, hj2⟩ := List.getElem?_eq_some_iff.1 hj
  have h1 : l = l.take j ++ l.drop j := (List.take_append_drop j l).symm
  have h2 : l.drop j = b :: l.drop (j + 1) := by rw [List.drop_eq_getElem_cons hj1, hj2]
  have h3 : a ∈ l.take j := by
    refine List.mem_of_getElem? (i := i) ?_
    rw [List.getElem?_take, if_pos h]; exact hi
  rw [h1, h2]
  exact List.Sublist.append (l₁ := [a]) (r₁ := [b]) (List.singleton_sublist.2 h3) (List.singleton_sublist.2 (by simp))
/-- a list of sentinels -/
@[reducible] def sentL (nm : Nat → String) (tx : Nat → List UInt8) (n : Nat) : List (String × DataW Unit) := (List.range n).map fun i => (nm i, .iface "*errors.errorString" (.ptr (.agg [.lit (.string (tx i))])))
theorem sentL_get {nm : Nat → String} {tx : Nat → List UInt8} {n i : Nat} (h : i < n) : (sentL nm tx n)[i]? = some (nm i, .iface "*errors.errorString" (.ptr (.agg [.lit (.string (tx i))]))) := by
  rw [List.getElem?_map, List.getElem?_range h]; rfl
theorem envS {W : World} {nm : Nat → String} {tx : Nat → List UInt8} (h : laidMet Tryd.prog (sentL nm tx 3) W)
    (hg : ∀ i g, sentG[i]? = some g → Tryd.prog.globalNamed (nm i) = some g ∧ (Tryd.prog.globals[g]?).map (·.type) = some 25) : ∃ aE, EnvS W W.heap.size aE := by
  have hlen : ∀ i, i < 3 → ∃ g, sentG[i]? = some g := fun i hi => ⟨_, List.getElem?_eq_getElem (by show i < 3; exact hi)⟩
  have two : ∀ i j, i < j → j < 3 → ∀ gi gj, sentG[i]? = some gi → sentG[j]? = some gj → ∃ (a b : Addr), W.cell? ⟨gi, 0, none⟩ = some (errV a) ∧ W.cell? ⟨gj, 0, none⟩ = some (errV b) ∧ a ≠ b ∧
      (∃ c t, W.heap[a.block]? = some (.cells c t (0, 0))) ∧ (∃ c t, W.heap[b.block]? = some (.cells c t (0, 0))) := by
    intro i j hij hj gi gj hgi hgj
    have h2 := laidMet_sub (pair_sub (sentL_get (nm := nm) (tx := tx) (show i < 3 by omega)) (sentL_get (nm := nm) (tx := tx) hj) hij) h
    obtain ⟨a0, a1, s0, s1, c0, c1, t0, t1, hv0, hv1, hc0, _, _, hc1, _, _, hne, hb0, hb1⟩ := laid_sentinels2 h2 (hg i gi hgi).1 (hg i gi hgi).2 (hg j gj hgj).1 (hg j gj hgj).2 unE rowE unP (show Tryd.prog.underlying 106 = some (.struct #[⟨"s", 9, 0, false, "", "errors", 0⟩]) by kernel_rfl) rfl rfl unS cellsE cells9
    exact ⟨a0, a1, by simpa using World.var?_cell (hg i gi hgi).1 hv0 0, by simpa using World.var?_cell (hg j gj hgj).1 hv1 0, hne, ⟨c0, t0, hb0⟩, ⟨c1, t1, hb1⟩⟩
  have one : ∀ i, ∃ a : Addr, i < 3 → ∀ g, sentG[i]? = some g → W.cell? ⟨g, 0, none⟩ = some (errV a) ∧ ∃ c t, W.heap[a.block]? = some (.cells c t (0, 0)) := by
    intro i
    by_cases hi : i < 3
    · obtain ⟨g, hgi⟩ := hlen i hi
      by_cases h0 : i = 0
      · obtain ⟨g1, hg1⟩ := hlen 1 (by decide)
        obtain ⟨a, b, h1, _, _, h3, _⟩ := two i 1 (by omega) (by decide) g g1 hgi hg1
        exact ⟨a, fun _ g' hg' => by rw [hgi] at hg'; cases hg'; exact ⟨h1, h3⟩⟩
      · obtain ⟨g1, hg1⟩ := hlen 0 (by decide)
        obtain ⟨a, b, _, h1, _, _, h3⟩ := two 0 i (by omega) hi g1 g hg1 hgi
        exact ⟨b, fun _ g' hg' => by rw [hgi] at hg'; cases hg'; exact ⟨h1, h3⟩⟩
    · exact ⟨⟨0, 0, none⟩, fun h => absurd h hi⟩
  have hlt : ∀ i g, sentG[i]? = some g → i < 3 := fun i g hi => (List.getElem?_eq_some_iff.1 hi).1
  refine ⟨fun i => (one i).choose, ⟨fun i g hi => ((one i).choose_spec (hlt i g hi) g hi).1, fun g hgm => ?_, fun i hi => ?_, fun i j hi hj hne he => ?_⟩⟩
  · obtain ⟨i, hi⟩ := List.getElem?_of_mem hgm
    exact World.block_lt_of_cell? _ _ ((one i).choose_spec (hlt i g hi) g hi).1
  · obtain ⟨g, hgi⟩ := hlen i hi
    obtain ⟨_, c, t, hc⟩ := (one i).choose_spec hi g hgi
    exact ⟨(Array.getElem?_eq_some_iff.1 hc).1, c, t, hc⟩
  · obtain ⟨gi, hgi⟩ := hlen i hi
    obtain ⟨gj, hgj⟩ := hlen j hj
    have e1 := ((one i).choose_spec hi gi hgi).1
    have e2 := ((one j).choose_spec hj gj hgj).1
    rcases Nat.lt_or_gt_of_ne hne with h1 | h1
    · obtain ⟨a, b, h2, h3, h4, _⟩ := two i j h1 hj gi gj hgi hgj
      rw [e1] at h2; rw [e2] at h3
      injection h2 with h2; injection h2 with _ h2; injection h2 with h2; injection h2 with h2
      injection h3 with h3; injection h3 with _ h3; injection h3 with h3; injection h3 with h3
      exact h4 (h2.symm.trans (he.trans h3))
    · obtain ⟨a, b, h2, h3, h4, _⟩ := two j i h1 hi gj gi hgj hgi
      rw [e2] at h2; rw [e1] at h3
      injection h2 with h2; injection h2 with _ h2; injection h2 with h2; injection h2 with h2
      injection h3 with h3; injection h3 with _ h3; injection h3 with h3; injection h3 with h3
      exact h4 (h2.symm.trans (he.symm.trans h3))
def nm17 (i : Nat) : String := ["smithy/api.ErrLex", "smithy/api.ErrParse", "smithy/api.ErrLimit"].getD i ""
def tx17 (i : Nat) : List UInt8 := ([[108, 101, 120], [112, 97, 114, 115, 101], [108, 105, 109, 105, 116]] : List (List UInt8)).getD i []
def laid17 : List (String × DataW Unit) := [("smithy/api.ErrLex", Rows.laid_smithy_api_ErrLex), ("smithy/api.ErrParse", Rows.laid_smithy_api_ErrParse), ("smithy/api.ErrLimit", Rows.laid_smithy_api_ErrLimit)]
theorem laid17_eq : laid17 = sentL nm17 tx17 3 := by kernel_rfl
theorem globs17 : ∀ i g, sentG[i]? = some g → Tryd.prog.globalNamed (nm17 i) = some g ∧ (Tryd.prog.globals[g]?).map (·.type) = some 25 := by
  intro i g h
  match i, h with
  | 0, h => cases h; exact ⟨by kernel_rfl, by kernel_rfl⟩
  | 1, h => cases h; exact ⟨by kernel_rfl, by kernel_rfl⟩
  | 2, h => cases h; exact ⟨by kernel_rfl, by kernel_rfl⟩
  | i + 3, h => cases h
theorem env17 {W : World} (h : laidMetH Tryd.prog laid17 W) : ∃ aE, EnvS W W.heap.size aE := by
  have h1 : laidMet Tryd.prog laid17 W := (laidMetH_iff.1 h).1
  rw [laid17_eq] at h1
  exact envS h1 globs17
end Go.Proofs.YtfbenelagdcdgaaDoor.Env
