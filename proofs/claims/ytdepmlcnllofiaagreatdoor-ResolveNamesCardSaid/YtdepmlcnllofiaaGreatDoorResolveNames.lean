/-
  Proved here: the statement 'ResolveNames' and its card; what the listed errors give; the last of the runs.
-/
import Derived.Test.YtdepmlcnllofiaaGreatDoorCards
import Derived.Test.YtdepmlcnllofiaaGreatDoorTie
import Derived.WalkKit
import Derived.ProofKit
import Derived.OpenShut
import Derived.Deep.DeepHandedRow
import Derived.Stop.LaidErr
import Derived.Stop.LaidTwo
import Derived.Test.YtdepmlcnllofiaaGreatDoorTmod
import Derived.Test.YtdepmlcnllofiaaGreatDoorProg
import Derived.Test.YtdepmlcnllofiaaGreatDoorRni
import Derived.Test.YtdepmlcnllofiaaGreatDoorRnRa
import Derived.Test.YtdepmlcnllofiaaGreatDoorRnRb
import Derived.Test.YtdepmlcnllofiaaGreatDoorRnRc
import Derived.Test.YtdepmlcnllofiaaGreatDoorRnRd
import Derived.Test.YtdepmlcnllofiaaGreatDoorRnRe
import Derived.Test.YtdepmlcnllofiaaGreatDoorRnRf
import Derived.Test.YtdepmlcnllofiaaGreatDoorRnRg
import Derived.Test.YtdepmlcnllofiaaGreatDoorRnRh
import Derived.Test.YtdepmlcnllofiaaGreatDoorRnRi
import Derived.Test.YtdepmlcnllofiaaGreatDoorRnRj
import Derived.Test.YtdepmlcnllofiaaGreatDoorRnRk
import Derived.Test.YtdepmlcnllofiaaGreatDoorRnRl
import Derived.Test.YtdepmlcnllofiaaGreatDoorRnRm
import Derived.Test.YtdepmlcnllofiaaGreatDoorRnRn
import Derived.Test.YtdepmlcnllofiaaGreatDoorRnRo
import Derived.Test.YtdepmlcnllofiaaGreatDoorRnRp
import Derived.Test.YtdepmlcnllofiaaGreatDoorRnRq
import Derived.Test.YtdepmlcnllofiaaGreatDoorRnRr
import Derived.Test.YtdepmlcnllofiaaGreatDoorRnRs
import Derived.Test.YtdepmlcnllofiaaGreatDoorRnRt
import Derived.Test.YtdepmlcnllofiaaGreatDoorRnRu
import Derived.SevenTiedAt
namespace Go.Proofs.YtdepmlcnllofiaaGreatDoor.Env
open Go.ChangeShapes Go.WideShapes Go.ChangeAt Go.RowKit
@[reducible] def errV (a : Addr) : Value := .iface 253 (.pointer (some a))
def sentG : List Nat := [5, 4, 2, 6, 7, 8, 9, 3, 10, 0, 11, 12, 1, 13, 14, 15, 16]
/-- the variables that hold api's errors: each holds one of its own -/
structure EnvS (w0 : World) (base : Nat) (aE : Nat → Addr) : Prop where
  at_ : ∀ i g, sentG[i]? = some g → w0.cell? ⟨g, 0, none⟩ = some (errV (aE i))
  lt : ∀ g ∈ sentG, g < base
  blk : ∀ i, i < 17 → (aE i).block < base ∧ ∃ c t, w0.heap[(aE i).block]? = some (.cells c t (0, 0))
  ne : ∀ i j, i < 17 → j < 17 → i ≠ j → aE i ≠ aE j
theorem own : ownKnob Tryz.prog.godebug = none := by kernel_rfl
theorem laidOut : laidOutB Tryz.prog = true := by kernel_rfl
theorem cells3 : Tryz.prog.cellsOf 3 = 1 := by kernel_rfl
theorem cells9 : Tryz.prog.cellsOf 9 = 1 := by kernel_rfl
theorem cellsE : Tryz.prog.cellsOf 267 = 1 := by kernel_rfl
theorem unE : Tryz.prog.underlying 25 = some (.interface #[("Error", 135)]) := by kernel_rfl
theorem unP : Tryz.prog.underlying 253 = some (.pointer 267) := by kernel_rfl
theorem unI : Tryz.prog.underlying 3 = some (.int .i64) := by kernel_rfl
theorem unB : Tryz.prog.underlying 4 = some .bool := by kernel_rfl
theorem unS : Tryz.prog.underlying 9 = some .string := by kernel_rfl
theorem star : "*" ++ "errors.errorString" = "*errors.errorString" := by decide
theorem rowE (u : TypeId) (h : Tryz.prog.typeName? 3 u = some "*errors.errorString") : u = 253 :=
  typeName_ptr_named (nm := "errors.errorString") (by rw [star]; kernel_rfl) (by kernel_rfl) (by decide) u (by rw [star]; exact h)
/-- a world with each listed error laid -/
noncomputable def laidWorld (os : Os) (l : List (Nat × ByteArray)) : World :=
  let w0 := World.holding Tryz.prog os ⟨(l.map fun x => Obj.cells #[.string x.2] 267 (0, 0)).toArray, #[], []⟩
  let low := (World.holding Tryz.prog os ⟨#[], #[], []⟩).heap.size
  { w0 with heap := (l.zipIdx).foldl (fun h x => h.modify x.1.1 fun
      | .cells _ t frozen => .cells #[.iface 253 (.pointer (some ⟨low + x.2, 0, none⟩))] t frozen
      | o => o) w0.heap }
theorem laidVars_sub {P : Program} {w : World} : ∀ {l l' : List (String × DataW Unit)} {ps : List MemPlace}, l'.Sublist l → DataW.LaidVars P w l ps → ∃ ps', DataW.LaidVars P w l' ps' ∧ ps'.Sublist ps := by
  intro l l' ps hs
  induction hs generalizing ps with
  | slnil => intro h; exact ⟨ps, h, List.Sublist.refl _⟩
  | cons x _ ih =>
    intro h
    obtain ⟨n, d⟩ := x
    obtain ⟨g, t, cs, fuel, p, q, e1, e2, e3, e4, hr, rfl⟩ := h
    obtain ⟨q', hq, hs'⟩ := ih hr
    exact ⟨q', hq, hs'.trans (List.sublist_append_right _ _)⟩
  | cons_cons x _ ih =>
    intro h
    obtain ⟨n, d⟩ := x
    obtain ⟨g, t, cs, fuel, p, q, e1, e2, e3, e4, hr, rfl⟩ := h
    obtain ⟨q', hq, hs'⟩ := ih hr
    exact ⟨_, ⟨g, t, cs, fuel, p, q', e1, e2, e3, e4, hq, rfl⟩, List.Sublist.append (List.Sublist.refl _) hs'⟩
theorem laidMet_sub {P : Program} {w : World} {l l' : List (String × DataW Unit)} (hs : l'.Sublist l) (h : laidMet P l w) : laidMet P l' w := by
  obtain ⟨ps, hl, hnd, hrows⟩ := h
  obtain ⟨ps', hl', hs'⟩ := laidVars_sub hs hl
  exact ⟨ps', hl', hnd.sublist hs', fun b off hp => hrows b off (hs'.subset hp)⟩
theorem pair_sub {α : Type} {l : List α} {i j : Nat} {a b : α} (hi : l[i]? = some a) (hj : l[j]? = some b) (h : i < j) : [a, b].Sublist l := by
  obtain ⟨hj1, hj2⟩ := List.getElem?_eq_some_iff.1 hj
  have h1 : l = l.take j ++ l.drop j := (List.take_append_drop j l).symm
  have h2 : l.drop j = b :: l.drop (j + 1) := by rw [List.drop_eq_getElem_cons hj1, hj2]
  have h3 : a ∈ l.take j := by
    refine List.mem_of_getElem? (i := i) ?_
    rw [List.getElem?_take, if_pos h]; exact hi
  rw [h1, h2]
  exact List.Sublist.append (l₁ := [a]) (r₁ := [b]) (List.singleton_sublist.2 h3) (List.singleton_sublist.2 (by simp))
/-- a list of sentinels -/
@[reducible] def sentL (nm : Nat → String) (tx : Nat → List UInt8) (n : Nat) : List (String × DataW Unit) := (List.range n).map fun i => (nm i, .iface "*errors.errorString" (.ptr (.agg [.lit (.string (tx i))])))
theorem sentL_get {nm : Nat → String} {tx : Nat → List UInt8} {n i : Nat} (h : i < n) : (sentL nm tx n)[i]? = some (nm i, .iface "*errors.errorString" (.ptr (.agg [.lit (.string (tx i))]))) := by
  rw [List.getElem?_map, List.getElem?_range h]; rfl
theorem envS {W : World} {nm : Nat → String} {tx : Nat → List UInt8} (h : laidMet Tryz.prog (sentL nm tx 17) W)
    (hg : ∀ i g, sentG[i]? = some g → Tryz.prog.globalNamed (nm i) = some g ∧ (Tryz.prog.globals[g]?).map (·.type) = some 25) : ∃ aE, EnvS W W.heap.size aE := by
  have hlen : ∀ i, i < 17 → ∃ g, sentG[i]? = some g := fun i hi => ⟨_, List.getElem?_eq_getElem (by show i < 17; exact hi)⟩
  have two : ∀ i j, i < j → j < 17 → ∀ gi gj, sentG[i]? = some gi → sentG[j]? = some gj → ∃ (a b : Addr), W.cell? ⟨gi, 0, none⟩ = some (errV a) ∧ W.cell? ⟨gj, 0, none⟩ = some (errV b) ∧ a ≠ b ∧
      (∃ c t, W.heap[a.block]? = some (.cells c t (0, 0))) ∧ (∃ c t, W.heap[b.block]? = some (.cells c t (0, 0))) := by
    intro i j hij hj gi gj hgi hgj
    have h2 := laidMet_sub (pair_sub (sentL_get (nm := nm) (tx := tx) (show i < 17 by omega)) (sentL_get (nm := nm) (tx := tx) hj) hij) h
    obtain ⟨a0, a1, s0, s1, c0, c1, t0, t1, hv0, hv1, hc0, _, _, hc1, _, _, hne, hb0, hb1⟩ := laid_sentinels2 h2 (hg i gi hgi).1 (hg i gi hgi).2 (hg j gj hgj).1 (hg j gj hgj).2 unE rowE unP (show Tryz.prog.underlying 267 = some (.struct #[⟨"s", 9, 0, false, "", "errors", 0⟩]) by kernel_rfl) rfl rfl unS cellsE cells9
    exact ⟨a0, a1, by simpa using World.var?_cell (hg i gi hgi).1 hv0 0, by simpa using World.var?_cell (hg j gj hgj).1 hv1 0, hne, ⟨c0, t0, hb0⟩, ⟨c1, t1, hb1⟩⟩
  have one : ∀ i, ∃ a : Addr, i < 17 → ∀ g, sentG[i]? = some g → W.cell? ⟨g, 0, none⟩ = some (errV a) ∧ ∃ c t, W.heap[a.block]? = some (.cells c t (0, 0)) := by
    intro i
    by_cases hi : i < 17
    · obtain ⟨g, hgi⟩ := hlen i hi
      by_cases h0 : i = 0
      · obtain ⟨g1, hg1⟩ := hlen 1 (by decide)
        obtain ⟨a, b, h1, _, _, h3, _⟩ := two i 1 (by omega) (by decide) g g1 hgi hg1
        exact ⟨a, fun _ g' hg' => by rw [hgi] at hg'; cases hg'; exact ⟨h1, h3⟩⟩
      · obtain ⟨g1, hg1⟩ := hlen 0 (by decide)
        obtain ⟨a, b, _, h1, _, _, h3⟩ := two 0 i (by omega) hi g1 g hg1 hgi
        exact ⟨b, fun _ g' hg' => by rw [hgi] at hg'; cases hg'; exact ⟨h1, h3⟩⟩
    · exact ⟨⟨0, 0, none⟩, fun h => absurd h hi⟩
  have hlt : ∀ i g, sentG[i]? = some g → i < 17 := fun i g hi => (List.getElem?_eq_some_iff.1 hi).1
  refine ⟨fun i => (one i).choose, ⟨fun i g hi => ((one i).choose_spec (hlt i g hi) g hi).1, fun g hgm => ?_, fun i hi => ?_, fun i j hi hj hne he => ?_⟩⟩
  · obtain ⟨i, hi⟩ := List.getElem?_of_mem hgm
    exact World.block_lt_of_cell? _ _ ((one i).choose_spec (hlt i g hi) g hi).1
  · obtain ⟨g, hgi⟩ := hlen i hi
    obtain ⟨_, c, t, hc⟩ := (one i).choose_spec hi g hgi
    exact ⟨(Array.getElem?_eq_some_iff.1 hc).1, c, t, hc⟩
  · obtain ⟨gi, hgi⟩ := hlen i hi
    obtain ⟨gj, hgj⟩ := hlen j hj
    have e1 := ((one i).choose_spec hi gi hgi).1
    have e2 := ((one j).choose_spec hj gj hgj).1
    rcases Nat.lt_or_gt_of_ne hne with h1 | h1
    · obtain ⟨a, b, h2, h3, h4, _⟩ := two i j h1 hj gi gj hgi hgj
      rw [e1] at h2; rw [e2] at h3
      injection h2 with h2; injection h2 with _ h2; injection h2 with h2; injection h2 with h2
      injection h3 with h3; injection h3 with _ h3; injection h3 with h3; injection h3 with h3
      exact h4 (h2.symm.trans (he.trans h3))
    · obtain ⟨a, b, h2, h3, h4, _⟩ := two j i h1 hi gj gi hgj hgi
      rw [e2] at h2; rw [e1] at h3
      injection h2 with h2; injection h2 with _ h2; injection h2 with h2; injection h2 with h2
      injection h3 with h3; injection h3 with _ h3; injection h3 with h3; injection h3 with h3
      exact h4 (h2.symm.trans (he.symm.trans h3))
def nm17 (i : Nat) : String := ["smithy/api.ErrLex", "smithy/api.ErrParse", "smithy/api.ErrResolve", "smithy/api.ErrDynamic", "smithy/api.ErrCycle", "smithy/api.ErrVisibility", "smithy/api.ErrAnalysis", "smithy/api.ErrLimit", "smithy/api.ErrMissing", "smithy/api.ErrMany", "smithy/api.ErrKind", "smithy/api.ErrPath", "smithy/api.ErrShape", "smithy/api.ErrEnd", "smithy/api.ErrRange", "smithy/api.ErrDown", "smithy/api.ErrFail"].getD i ""
def tx17 (i : Nat) : List UInt8 := ([[108, 101, 120], [112, 97, 114, 115, 101], [114, 101, 115, 111, 108, 118, 101], [100, 121, 110, 97, 109, 105, 99], [99, 121, 99, 108, 101], [118, 105, 115, 105, 98, 105, 108, 105, 116, 121], [97, 110, 97, 108, 121, 115, 105, 115], [108, 105, 109, 105, 116], [109, 105, 115, 115, 105, 110, 103], [116, 111, 111, 32, 109, 97, 110, 121], [110, 111, 32, 115, 117, 99, 104, 32, 107, 105, 110, 100], [110, 111, 32, 112, 97, 116, 104], [110, 111, 116, 32, 116, 104, 101, 32, 115, 104, 97, 112, 101, 32, 116, 104, 97, 116, 32, 105, 116, 32, 104, 97, 115, 32, 116, 111, 32, 104, 97, 118, 101], [105, 116, 32, 101, 110, 100, 115, 32, 116, 111, 111, 32, 101, 97, 114, 108, 121], [97, 32, 110, 117, 109, 98, 101, 114, 32, 111, 117, 116, 32, 111, 102, 32, 105, 116, 115, 32, 114, 97, 110, 103, 101], [116, 104, 101, 32, 112, 111, 119, 101, 114, 32, 104, 97, 115, 32, 103, 111, 110, 101], [105, 116, 32, 104, 97, 115, 32, 102, 97, 105, 108, 101, 100]] : List (List UInt8)).getD i []
def laid17 : List (String × DataW Unit) := [("smithy/api.ErrLex", Rows.laid_smithy_api_ErrLex), ("smithy/api.ErrParse", Rows.laid_smithy_api_ErrParse), ("smithy/api.ErrResolve", Rows.laid_smithy_api_ErrResolve), ("smithy/api.ErrDynamic", Rows.laid_smithy_api_ErrDynamic), ("smithy/api.ErrCycle", Rows.laid_smithy_api_ErrCycle), ("smithy/api.ErrVisibility", Rows.laid_smithy_api_ErrVisibility), ("smithy/api.ErrAnalysis", Rows.laid_smithy_api_ErrAnalysis), ("smithy/api.ErrLimit", Rows.laid_smithy_api_ErrLimit), ("smithy/api.ErrMissing", Rows.laid_smithy_api_ErrMissing), ("smithy/api.ErrMany", Rows.laid_smithy_api_ErrMany), ("smithy/api.ErrKind", Rows.laid_smithy_api_ErrKind), ("smithy/api.ErrPath", Rows.laid_smithy_api_ErrPath), ("smithy/api.ErrShape", Rows.laid_smithy_api_ErrShape), ("smithy/api.ErrEnd", Rows.laid_smithy_api_ErrEnd), ("smithy/api.ErrRange", Rows.laid_smithy_api_ErrRange), ("smithy/api.ErrDown", Rows.laid_smithy_api_ErrDown), ("smithy/api.ErrFail", Rows.laid_smithy_api_ErrFail)]
theorem laid17_eq : laid17 = sentL nm17 tx17 17 := by kernel_rfl
theorem globs17 : ∀ i g, sentG[i]? = some g → Tryz.prog.globalNamed (nm17 i) = some g ∧ (Tryz.prog.globals[g]?).map (·.type) = some 25 := by
  intro i g h
  match i, h with
  | 0, h => cases h; exact ⟨by kernel_rfl, by kernel_rfl⟩
  | 1, h => cases h; exact ⟨by kernel_rfl, by kernel_rfl⟩
  | 2, h => cases h; exact ⟨by kernel_rfl, by kernel_rfl⟩
  | 3, h => cases h; exact ⟨by kernel_rfl, by kernel_rfl⟩
  | 4, h => cases h; exact ⟨by kernel_rfl, by kernel_rfl⟩
  | 5, h => cases h; exact ⟨by kernel_rfl, by kernel_rfl⟩
  | 6, h => cases h; exact ⟨by kernel_rfl, by kernel_rfl⟩
  | 7, h => cases h; exact ⟨by kernel_rfl, by kernel_rfl⟩
  | 8, h => cases h; exact ⟨by kernel_rfl, by kernel_rfl⟩
  | 9, h => cases h; exact ⟨by kernel_rfl, by kernel_rfl⟩
  | 10, h => cases h; exact ⟨by kernel_rfl, by kernel_rfl⟩
  | 11, h => cases h; exact ⟨by kernel_rfl, by kernel_rfl⟩
  | 12, h => cases h; exact ⟨by kernel_rfl, by kernel_rfl⟩
  | 13, h => cases h; exact ⟨by kernel_rfl, by kernel_rfl⟩
  | 14, h => cases h; exact ⟨by kernel_rfl, by kernel_rfl⟩
  | 15, h => cases h; exact ⟨by kernel_rfl, by kernel_rfl⟩
  | 16, h => cases h; exact ⟨by kernel_rfl, by kernel_rfl⟩
  | i + 17, h => cases h
theorem env17 {W : World} (h : laidMetH Tryz.prog laid17 W) : ∃ aE, EnvS W W.heap.size aE := by
  have h1 : laidMet Tryz.prog laid17 W := (laidMetH_iff.1 h).1
  rw [laid17_eq] at h1
  exact envS h1 globs17
end Go.Proofs.YtdepmlcnllofiaaGreatDoor.Env
namespace Go.Proofs.YtdepmlcnllofiaaGreatDoor
open Go.EY Go.EX Go.SX Go.RowKit
theorem number_ok (E : List (Nat × AV)) (m : Int) (q : Nat) (h0 : 0 < q) (h1 : q ≤ 1000) (ro : List HT) (T : HT) (nx : Nat) :
    GOk Tryz.prog E 26 [.lit (.int .i64 m), .lit (.int .i64 (.ofNat q))] ro T nx (.ok (.val (.lit (.int .i64 (numI m q)))) T nx) := by
  have hq : (Int.ofNat q) ≠ 0 := by simp; omega
  obtain ⟨b1, b2⟩ := tmod_in m h0
  refine GOk.of_body Tryz.func26 rfl Tryz.ntmps26 (by kernel_rfl) rfl fun r T' n' h w0 base ρ its hS hP => ?_
  cases h
  refine CV.sub [(0, .lit (.int .i64 m)), (1, .lit (.int .i64 (.ofNat q)))] ⟨rfl, rfl, trivial⟩ ?_
  refine CV.seq ?_
  refine CV.region ?_
  refine LV.step (VAL.assign rfl) rfl rfl rfl ?_
  refine LV.done ?_
  refine PV.thenN ?_
  refine CV.seq ?_
  refine CV.region ?_
  refine LV.step (VAL.move rfl) rfl rfl rfl ?_
  refine LV.step (VAL.move rfl) rfl rfl rfl ?_
  refine LV.step (VAL.yy (v := .int .i64 (m.tmod (Int.ofNat q))) fun l hf ty => Y.rem (evlit hf rfl) (evlit hf rfl) hq) rfl rfl rfl ?_
  refine LV.step (VAL.move rfl) rfl rfl rfl ?_
  refine LV.step (VAL.yy (v := .int .i64 (m.tmod (Int.ofNat q) + Int.ofNat q)) fun l hf ty => Y.add (evlit hf rfl) (evlit hf rfl) (by simp only [Int.ofNat_eq_natCast]; omega)) rfl rfl rfl ?_
  refine LV.step (VAL.move rfl) rfl rfl rfl ?_
  refine LV.step (VAL.yy (v := .int .i64 ((m.tmod (Int.ofNat q) + Int.ofNat q).tmod (Int.ofNat q))) fun l hf ty => Y.rem (evlit hf rfl) (evlit hf rfl) hq) rfl rfl rfl ?_
  refine LV.step (VAL.assign rfl) rfl rfl rfl ?_
  refine LV.done ?_
  refine PV.thenN ?_
  refine CV.ret ?_
  exact PV.ret (by simp) Tryz.results26 hS (RS.tmp rfl RS.nil) rfl
theorem number_is (E : List (Nat × AV)) (m : Int) {q k : Nat} (h0 : 0 < q) (h1 : q ≤ 1000) (e : numI m q = (k : Int)) (z : AV) (ro : List HT) (T : HT) (nx : Nat) :
    GOk Tryz.prog E 26 [.lit (.int .i64 m), z] ro T nx (isK z q (.lit (.int .i64 (.ofNat k))) T nx) := by
  unfold isK
  split
  · cases hb : Nat.beq _ q with
    | false => exact GOk.bad
    | true =>
      obtain rfl := beqT hb
      have h2 := number_ok E m _ h0 h1 ro T nx
      rw [e] at h2
      exact h2
  · exact GOk.bad
end Go.Proofs.YtdepmlcnllofiaaGreatDoor
namespace Go.Proofs.YtdepmlcnllofiaaGreatDoor.Rn
open Go.EY Go.EX Go.SX Go.RowKit
theorem run_19_17_t (q0 q1 : AV) : okT (g7 (.lit (.int .i64 (.ofNat 19))) (20) (.lit (.int .i64 (.ofNat 17))) (19+1) [] q0 q1 (.lit (.bool true)) .nil 1) = true := by kernel_rfl
theorem run_19_18_f (q0 q1 : AV) : okT (g7 (.lit (.int .i64 (.ofNat 19))) (20) (.lit (.int .i64 (.ofNat 18))) (19+1) [] q0 q1 (.lit (.bool false)) .nil 1) = true := by kernel_rfl
theorem run_19_18_t (q0 q1 : AV) : okT (g7 (.lit (.int .i64 (.ofNat 19))) (20) (.lit (.int .i64 (.ofNat 18))) (19+1) [] q0 q1 (.lit (.bool true)) .nil 1) = true := by kernel_rfl
theorem run_19_19_f (q0 q1 : AV) : okT (g7 (.lit (.int .i64 (.ofNat 19))) (20) (.lit (.int .i64 (.ofNat 19))) (19+1) [] q0 q1 (.lit (.bool false)) .nil 1) = true := by kernel_rfl
theorem run_19_19_t (q0 q1 : AV) : okT (g7 (.lit (.int .i64 (.ofNat 19))) (20) (.lit (.int .i64 (.ofNat 19))) (19+1) [] q0 q1 (.lit (.bool true)) .nil 1) = true := by kernel_rfl
end Go.Proofs.YtdepmlcnllofiaaGreatDoor.Rn
namespace Go.Proofs.YtdepmlcnllofiaaGreatDoor.RnR
open Go.EY Go.EX Go.SX Go.RowKit Env
theorem all_0 (q0 q1 : AV) (i1 : Nat) (h1 : i1 < 0+1) (b : Bool) : okT (Rn.g7 (.lit (.int .i64 (.ofNat 0))) (20) (.lit (.int .i64 (.ofNat i1))) (0+1) [] q0 q1 (.lit (.bool b)) .nil 1) = true := by
  match i1, h1 with
  | 0, _ => cases b with
    | false => exact Rn.run_0_0_f q0 q1
    | true => exact Rn.run_0_0_t q0 q1
  | _ + 1, h => exact absurd h (by omega)
theorem all_1 (q0 q1 : AV) (i1 : Nat) (h1 : i1 < 1+1) (b : Bool) : okT (Rn.g7 (.lit (.int .i64 (.ofNat 1))) (20) (.lit (.int .i64 (.ofNat i1))) (1+1) [] q0 q1 (.lit (.bool b)) .nil 1) = true := by
  match i1, h1 with
  | 0, _ => cases b with
    | false => exact Rn.run_1_0_f q0 q1
    | true => exact Rn.run_1_0_t q0 q1
  | 1, _ => cases b with
    | false => exact Rn.run_1_1_f q0 q1
    | true => exact Rn.run_1_1_t q0 q1
  | _ + 2, h => exact absurd h (by omega)
theorem all_2 (q0 q1 : AV) (i1 : Nat) (h1 : i1 < 2+1) (b : Bool) : okT (Rn.g7 (.lit (.int .i64 (.ofNat 2))) (20) (.lit (.int .i64 (.ofNat i1))) (2+1) [] q0 q1 (.lit (.bool b)) .nil 1) = true := by
  match i1, h1 with
  | 0, _ => cases b with
    | false => exact Rn.run_2_0_f q0 q1
    | true => exact Rn.run_2_0_t q0 q1
  | 1, _ => cases b with
    | false => exact Rn.run_2_1_f q0 q1
    | true => exact Rn.run_2_1_t q0 q1
  | 2, _ => cases b with
    | false => exact Rn.run_2_2_f q0 q1
    | true => exact Rn.run_2_2_t q0 q1
  | _ + 3, h => exact absurd h (by omega)
theorem all_3 (q0 q1 : AV) (i1 : Nat) (h1 : i1 < 3+1) (b : Bool) : okT (Rn.g7 (.lit (.int .i64 (.ofNat 3))) (20) (.lit (.int .i64 (.ofNat i1))) (3+1) [] q0 q1 (.lit (.bool b)) .nil 1) = true := by
  match i1, h1 with
  | 0, _ => cases b with
    | false => exact Rn.run_3_0_f q0 q1
    | true => exact Rn.run_3_0_t q0 q1
  | 1, _ => cases b with
    | false => exact Rn.run_3_1_f q0 q1
    | true => exact Rn.run_3_1_t q0 q1
  | 2, _ => cases b with
    | false => exact Rn.run_3_2_f q0 q1
    | true => exact Rn.run_3_2_t q0 q1
  | 3, _ => cases b with
    | false => exact Rn.run_3_3_f q0 q1
    | true => exact Rn.run_3_3_t q0 q1
  | _ + 4, h => exact absurd h (by omega)
theorem all_4 (q0 q1 : AV) (i1 : Nat) (h1 : i1 < 4+1) (b : Bool) : okT (Rn.g7 (.lit (.int .i64 (.ofNat 4))) (20) (.lit (.int .i64 (.ofNat i1))) (4+1) [] q0 q1 (.lit (.bool b)) .nil 1) = true := by
  match i1, h1 with
  | 0, _ => cases b with
    | false => exact Rn.run_4_0_f q0 q1
    | true => exact Rn.run_4_0_t q0 q1
  | 1, _ => cases b with
    | false => exact Rn.run_4_1_f q0 q1
    | true => exact Rn.run_4_1_t q0 q1
  | 2, _ => cases b with
    | false => exact Rn.run_4_2_f q0 q1
    | true => exact Rn.run_4_2_t q0 q1
  | 3, _ => cases b with
    | false => exact Rn.run_4_3_f q0 q1
    | true => exact Rn.run_4_3_t q0 q1
  | 4, _ => cases b with
    | false => exact Rn.run_4_4_f q0 q1
    | true => exact Rn.run_4_4_t q0 q1
  | _ + 5, h => exact absurd h (by omega)
theorem all_5 (q0 q1 : AV) (i1 : Nat) (h1 : i1 < 5+1) (b : Bool) : okT (Rn.g7 (.lit (.int .i64 (.ofNat 5))) (20) (.lit (.int .i64 (.ofNat i1))) (5+1) [] q0 q1 (.lit (.bool b)) .nil 1) = true := by
  match i1, h1 with
  | 0, _ => cases b with
    | false => exact Rn.run_5_0_f q0 q1
    | true => exact Rn.run_5_0_t q0 q1
  | 1, _ => cases b with
    | false => exact Rn.run_5_1_f q0 q1
    | true => exact Rn.run_5_1_t q0 q1
  | 2, _ => cases b with
    | false => exact Rn.run_5_2_f q0 q1
    | true => exact Rn.run_5_2_t q0 q1
  | 3, _ => cases b with
    | false => exact Rn.run_5_3_f q0 q1
    | true => exact Rn.run_5_3_t q0 q1
  | 4, _ => cases b with
    | false => exact Rn.run_5_4_f q0 q1
    | true => exact Rn.run_5_4_t q0 q1
  | 5, _ => cases b with
    | false => exact Rn.run_5_5_f q0 q1
    | true => exact Rn.run_5_5_t q0 q1
  | _ + 6, h => exact absurd h (by omega)
theorem all_6 (q0 q1 : AV) (i1 : Nat) (h1 : i1 < 6+1) (b : Bool) : okT (Rn.g7 (.lit (.int .i64 (.ofNat 6))) (20) (.lit (.int .i64 (.ofNat i1))) (6+1) [] q0 q1 (.lit (.bool b)) .nil 1) = true := by
  match i1, h1 with
  | 0, _ => cases b with
    | false => exact Rn.run_6_0_f q0 q1
    | true => exact Rn.run_6_0_t q0 q1
  | 1, _ => cases b with
    | false => exact Rn.run_6_1_f q0 q1
    | true => exact Rn.run_6_1_t q0 q1
  | 2, _ => cases b with
    | false => exact Rn.run_6_2_f q0 q1
    | true => exact Rn.run_6_2_t q0 q1
  | 3, _ => cases b with
    | false => exact Rn.run_6_3_f q0 q1
    | true => exact Rn.run_6_3_t q0 q1
  | 4, _ => cases b with
    | false => exact Rn.run_6_4_f q0 q1
    | true => exact Rn.run_6_4_t q0 q1
  | 5, _ => cases b with
    | false => exact Rn.run_6_5_f q0 q1
    | true => exact Rn.run_6_5_t q0 q1
  | 6, _ => cases b with
    | false => exact Rn.run_6_6_f q0 q1
    | true => exact Rn.run_6_6_t q0 q1
  | _ + 7, h => exact absurd h (by omega)
theorem all_7 (q0 q1 : AV) (i1 : Nat) (h1 : i1 < 7+1) (b : Bool) : okT (Rn.g7 (.lit (.int .i64 (.ofNat 7))) (20) (.lit (.int .i64 (.ofNat i1))) (7+1) [] q0 q1 (.lit (.bool b)) .nil 1) = true := by
  match i1, h1 with
  | 0, _ => cases b with
    | false => exact Rn.run_7_0_f q0 q1
    | true => exact Rn.run_7_0_t q0 q1
  | 1, _ => cases b with
    | false => exact Rn.run_7_1_f q0 q1
    | true => exact Rn.run_7_1_t q0 q1
  | 2, _ => cases b with
    | false => exact Rn.run_7_2_f q0 q1
    | true => exact Rn.run_7_2_t q0 q1
  | 3, _ => cases b with
    | false => exact Rn.run_7_3_f q0 q1
    | true => exact Rn.run_7_3_t q0 q1
  | 4, _ => cases b with
    | false => exact Rn.run_7_4_f q0 q1
    | true => exact Rn.run_7_4_t q0 q1
  | 5, _ => cases b with
    | false => exact Rn.run_7_5_f q0 q1
    | true => exact Rn.run_7_5_t q0 q1
  | 6, _ => cases b with
    | false => exact Rn.run_7_6_f q0 q1
    | true => exact Rn.run_7_6_t q0 q1
  | 7, _ => cases b with
    | false => exact Rn.run_7_7_f q0 q1
    | true => exact Rn.run_7_7_t q0 q1
  | _ + 8, h => exact absurd h (by omega)
theorem all_8 (q0 q1 : AV) (i1 : Nat) (h1 : i1 < 8+1) (b : Bool) : okT (Rn.g7 (.lit (.int .i64 (.ofNat 8))) (20) (.lit (.int .i64 (.ofNat i1))) (8+1) [] q0 q1 (.lit (.bool b)) .nil 1) = true := by
  match i1, h1 with
  | 0, _ => cases b with
    | false => exact Rn.run_8_0_f q0 q1
    | true => exact Rn.run_8_0_t q0 q1
  | 1, _ => cases b with
    | false => exact Rn.run_8_1_f q0 q1
    | true => exact Rn.run_8_1_t q0 q1
  | 2, _ => cases b with
    | false => exact Rn.run_8_2_f q0 q1
    | true => exact Rn.run_8_2_t q0 q1
  | 3, _ => cases b with
    | false => exact Rn.run_8_3_f q0 q1
    | true => exact Rn.run_8_3_t q0 q1
  | 4, _ => cases b with
    | false => exact Rn.run_8_4_f q0 q1
    | true => exact Rn.run_8_4_t q0 q1
  | 5, _ => cases b with
    | false => exact Rn.run_8_5_f q0 q1
    | true => exact Rn.run_8_5_t q0 q1
  | 6, _ => cases b with
    | false => exact Rn.run_8_6_f q0 q1
    | true => exact Rn.run_8_6_t q0 q1
  | 7, _ => cases b with
    | false => exact Rn.run_8_7_f q0 q1
    | true => exact Rn.run_8_7_t q0 q1
  | 8, _ => cases b with
    | false => exact Rn.run_8_8_f q0 q1
    | true => exact Rn.run_8_8_t q0 q1
  | _ + 9, h => exact absurd h (by omega)
theorem all_9 (q0 q1 : AV) (i1 : Nat) (h1 : i1 < 9+1) (b : Bool) : okT (Rn.g7 (.lit (.int .i64 (.ofNat 9))) (20) (.lit (.int .i64 (.ofNat i1))) (9+1) [] q0 q1 (.lit (.bool b)) .nil 1) = true := by
  match i1, h1 with
  | 0, _ => cases b with
    | false => exact Rn.run_9_0_f q0 q1
    | true => exact Rn.run_9_0_t q0 q1
  | 1, _ => cases b with
    | false => exact Rn.run_9_1_f q0 q1
    | true => exact Rn.run_9_1_t q0 q1
  | 2, _ => cases b with
    | false => exact Rn.run_9_2_f q0 q1
    | true => exact Rn.run_9_2_t q0 q1
  | 3, _ => cases b with
    | false => exact Rn.run_9_3_f q0 q1
    | true => exact Rn.run_9_3_t q0 q1
  | 4, _ => cases b with
    | false => exact Rn.run_9_4_f q0 q1
    | true => exact Rn.run_9_4_t q0 q1
  | 5, _ => cases b with
    | false => exact Rn.run_9_5_f q0 q1
    | true => exact Rn.run_9_5_t q0 q1
  | 6, _ => cases b with
    | false => exact Rn.run_9_6_f q0 q1
    | true => exact Rn.run_9_6_t q0 q1
  | 7, _ => cases b with
    | false => exact Rn.run_9_7_f q0 q1
    | true => exact Rn.run_9_7_t q0 q1
  | 8, _ => cases b with
    | false => exact Rn.run_9_8_f q0 q1
    | true => exact Rn.run_9_8_t q0 q1
  | 9, _ => cases b with
    | false => exact Rn.run_9_9_f q0 q1
    | true => exact Rn.run_9_9_t q0 q1
  | _ + 10, h => exact absurd h (by omega)
theorem all_10 (q0 q1 : AV) (i1 : Nat) (h1 : i1 < 10+1) (b : Bool) : okT (Rn.g7 (.lit (.int .i64 (.ofNat 10))) (20) (.lit (.int .i64 (.ofNat i1))) (10+1) [] q0 q1 (.lit (.bool b)) .nil 1) = true := by
  match i1, h1 with
  | 0, _ => cases b with
    | false => exact Rn.run_10_0_f q0 q1
    | true => exact Rn.run_10_0_t q0 q1
  | 1, _ => cases b with
    | false => exact Rn.run_10_1_f q0 q1
    | true => exact Rn.run_10_1_t q0 q1
  | 2, _ => cases b with
    | false => exact Rn.run_10_2_f q0 q1
    | true => exact Rn.run_10_2_t q0 q1
  | 3, _ => cases b with
    | false => exact Rn.run_10_3_f q0 q1
    | true => exact Rn.run_10_3_t q0 q1
  | 4, _ => cases b with
    | false => exact Rn.run_10_4_f q0 q1
    | true => exact Rn.run_10_4_t q0 q1
  | 5, _ => cases b with
    | false => exact Rn.run_10_5_f q0 q1
    | true => exact Rn.run_10_5_t q0 q1
  | 6, _ => cases b with
    | false => exact Rn.run_10_6_f q0 q1
    | true => exact Rn.run_10_6_t q0 q1
  | 7, _ => cases b with
    | false => exact Rn.run_10_7_f q0 q1
    | true => exact Rn.run_10_7_t q0 q1
  | 8, _ => cases b with
    | false => exact Rn.run_10_8_f q0 q1
    | true => exact Rn.run_10_8_t q0 q1
  | 9, _ => cases b with
    | false => exact Rn.run_10_9_f q0 q1
    | true => exact Rn.run_10_9_t q0 q1
  | 10, _ => cases b with
    | false => exact Rn.run_10_10_f q0 q1
    | true => exact Rn.run_10_10_t q0 q1
  | _ + 11, h => exact absurd h (by omega)
theorem all_11 (q0 q1 : AV) (i1 : Nat) (h1 : i1 < 11+1) (b : Bool) : okT (Rn.g7 (.lit (.int .i64 (.ofNat 11))) (20) (.lit (.int .i64 (.ofNat i1))) (11+1) [] q0 q1 (.lit (.bool b)) .nil 1) = true := by
  match i1, h1 with
  | 0, _ => cases b with
    | false => exact Rn.run_11_0_f q0 q1
    | true => exact Rn.run_11_0_t q0 q1
  | 1, _ => cases b with
    | false => exact Rn.run_11_1_f q0 q1
    | true => exact Rn.run_11_1_t q0 q1
  | 2, _ => cases b with
    | false => exact Rn.run_11_2_f q0 q1
    | true => exact Rn.run_11_2_t q0 q1
  | 3, _ => cases b with
    | false => exact Rn.run_11_3_f q0 q1
    | true => exact Rn.run_11_3_t q0 q1
  | 4, _ => cases b with
    | false => exact Rn.run_11_4_f q0 q1
    | true => exact Rn.run_11_4_t q0 q1
  | 5, _ => cases b with
    | false => exact Rn.run_11_5_f q0 q1
    | true => exact Rn.run_11_5_t q0 q1
  | 6, _ => cases b with
    | false => exact Rn.run_11_6_f q0 q1
    | true => exact Rn.run_11_6_t q0 q1
  | 7, _ => cases b with
    | false => exact Rn.run_11_7_f q0 q1
    | true => exact Rn.run_11_7_t q0 q1
  | 8, _ => cases b with
    | false => exact Rn.run_11_8_f q0 q1
    | true => exact Rn.run_11_8_t q0 q1
  | 9, _ => cases b with
    | false => exact Rn.run_11_9_f q0 q1
    | true => exact Rn.run_11_9_t q0 q1
  | 10, _ => cases b with
    | false => exact Rn.run_11_10_f q0 q1
    | true => exact Rn.run_11_10_t q0 q1
  | 11, _ => cases b with
    | false => exact Rn.run_11_11_f q0 q1
    | true => exact Rn.run_11_11_t q0 q1
  | _ + 12, h => exact absurd h (by omega)
theorem all_12 (q0 q1 : AV) (i1 : Nat) (h1 : i1 < 12+1) (b : Bool) : okT (Rn.g7 (.lit (.int .i64 (.ofNat 12))) (20) (.lit (.int .i64 (.ofNat i1))) (12+1) [] q0 q1 (.lit (.bool b)) .nil 1) = true := by
  match i1, h1 with
  | 0, _ => cases b with
    | false => exact Rn.run_12_0_f q0 q1
    | true => exact Rn.run_12_0_t q0 q1
  | 1, _ => cases b with
    | false => exact Rn.run_12_1_f q0 q1
    | true => exact Rn.run_12_1_t q0 q1
  | 2, _ => cases b with
    | false => exact Rn.run_12_2_f q0 q1
    | true => exact Rn.run_12_2_t q0 q1
  | 3, _ => cases b with
    | false => exact Rn.run_12_3_f q0 q1
    | true => exact Rn.run_12_3_t q0 q1
  | 4, _ => cases b with
    | false => exact Rn.run_12_4_f q0 q1
    | true => exact Rn.run_12_4_t q0 q1
  | 5, _ => cases b with
    | false => exact Rn.run_12_5_f q0 q1
    | true => exact Rn.run_12_5_t q0 q1
  | 6, _ => cases b with
    | false => exact Rn.run_12_6_f q0 q1
    | true => exact Rn.run_12_6_t q0 q1
  | 7, _ => cases b with
    | false => exact Rn.run_12_7_f q0 q1
    | true => exact Rn.run_12_7_t q0 q1
  | 8, _ => cases b with
    | false => exact Rn.run_12_8_f q0 q1
    | true => exact Rn.run_12_8_t q0 q1
  | 9, _ => cases b with
    | false => exact Rn.run_12_9_f q0 q1
    | true => exact Rn.run_12_9_t q0 q1
  | 10, _ => cases b with
    | false => exact Rn.run_12_10_f q0 q1
    | true => exact Rn.run_12_10_t q0 q1
  | 11, _ => cases b with
    | false => exact Rn.run_12_11_f q0 q1
    | true => exact Rn.run_12_11_t q0 q1
  | 12, _ => cases b with
    | false => exact Rn.run_12_12_f q0 q1
    | true => exact Rn.run_12_12_t q0 q1
  | _ + 13, h => exact absurd h (by omega)
theorem all_13 (q0 q1 : AV) (i1 : Nat) (h1 : i1 < 13+1) (b : Bool) : okT (Rn.g7 (.lit (.int .i64 (.ofNat 13))) (20) (.lit (.int .i64 (.ofNat i1))) (13+1) [] q0 q1 (.lit (.bool b)) .nil 1) = true := by
  match i1, h1 with
  | 0, _ => cases b with
    | false => exact Rn.run_13_0_f q0 q1
    | true => exact Rn.run_13_0_t q0 q1
  | 1, _ => cases b with
    | false => exact Rn.run_13_1_f q0 q1
    | true => exact Rn.run_13_1_t q0 q1
  | 2, _ => cases b with
    | false => exact Rn.run_13_2_f q0 q1
    | true => exact Rn.run_13_2_t q0 q1
  | 3, _ => cases b with
    | false => exact Rn.run_13_3_f q0 q1
    | true => exact Rn.run_13_3_t q0 q1
  | 4, _ => cases b with
    | false => exact Rn.run_13_4_f q0 q1
    | true => exact Rn.run_13_4_t q0 q1
  | 5, _ => cases b with
    | false => exact Rn.run_13_5_f q0 q1
    | true => exact Rn.run_13_5_t q0 q1
  | 6, _ => cases b with
    | false => exact Rn.run_13_6_f q0 q1
    | true => exact Rn.run_13_6_t q0 q1
  | 7, _ => cases b with
    | false => exact Rn.run_13_7_f q0 q1
    | true => exact Rn.run_13_7_t q0 q1
  | 8, _ => cases b with
    | false => exact Rn.run_13_8_f q0 q1
    | true => exact Rn.run_13_8_t q0 q1
  | 9, _ => cases b with
    | false => exact Rn.run_13_9_f q0 q1
    | true => exact Rn.run_13_9_t q0 q1
  | 10, _ => cases b with
    | false => exact Rn.run_13_10_f q0 q1
    | true => exact Rn.run_13_10_t q0 q1
  | 11, _ => cases b with
    | false => exact Rn.run_13_11_f q0 q1
    | true => exact Rn.run_13_11_t q0 q1
  | 12, _ => cases b with
    | false => exact Rn.run_13_12_f q0 q1
    | true => exact Rn.run_13_12_t q0 q1
  | 13, _ => cases b with
    | false => exact Rn.run_13_13_f q0 q1
    | true => exact Rn.run_13_13_t q0 q1
  | _ + 14, h => exact absurd h (by omega)
theorem all_14 (q0 q1 : AV) (i1 : Nat) (h1 : i1 < 14+1) (b : Bool) : okT (Rn.g7 (.lit (.int .i64 (.ofNat 14))) (20) (.lit (.int .i64 (.ofNat i1))) (14+1) [] q0 q1 (.lit (.bool b)) .nil 1) = true := by
  match i1, h1 with
  | 0, _ => cases b with
    | false => exact Rn.run_14_0_f q0 q1
    | true => exact Rn.run_14_0_t q0 q1
  | 1, _ => cases b with
    | false => exact Rn.run_14_1_f q0 q1
    | true => exact Rn.run_14_1_t q0 q1
  | 2, _ => cases b with
    | false => exact Rn.run_14_2_f q0 q1
    | true => exact Rn.run_14_2_t q0 q1
  | 3, _ => cases b with
    | false => exact Rn.run_14_3_f q0 q1
    | true => exact Rn.run_14_3_t q0 q1
  | 4, _ => cases b with
    | false => exact Rn.run_14_4_f q0 q1
    | true => exact Rn.run_14_4_t q0 q1
  | 5, _ => cases b with
    | false => exact Rn.run_14_5_f q0 q1
    | true => exact Rn.run_14_5_t q0 q1
  | 6, _ => cases b with
    | false => exact Rn.run_14_6_f q0 q1
    | true => exact Rn.run_14_6_t q0 q1
  | 7, _ => cases b with
    | false => exact Rn.run_14_7_f q0 q1
    | true => exact Rn.run_14_7_t q0 q1
  | 8, _ => cases b with
    | false => exact Rn.run_14_8_f q0 q1
    | true => exact Rn.run_14_8_t q0 q1
  | 9, _ => cases b with
    | false => exact Rn.run_14_9_f q0 q1
    | true => exact Rn.run_14_9_t q0 q1
  | 10, _ => cases b with
    | false => exact Rn.run_14_10_f q0 q1
    | true => exact Rn.run_14_10_t q0 q1
  | 11, _ => cases b with
    | false => exact Rn.run_14_11_f q0 q1
    | true => exact Rn.run_14_11_t q0 q1
  | 12, _ => cases b with
    | false => exact Rn.run_14_12_f q0 q1
    | true => exact Rn.run_14_12_t q0 q1
  | 13, _ => cases b with
    | false => exact Rn.run_14_13_f q0 q1
    | true => exact Rn.run_14_13_t q0 q1
  | 14, _ => cases b with
    | false => exact Rn.run_14_14_f q0 q1
    | true => exact Rn.run_14_14_t q0 q1
  | _ + 15, h => exact absurd h (by omega)
theorem all_15 (q0 q1 : AV) (i1 : Nat) (h1 : i1 < 15+1) (b : Bool) : okT (Rn.g7 (.lit (.int .i64 (.ofNat 15))) (20) (.lit (.int .i64 (.ofNat i1))) (15+1) [] q0 q1 (.lit (.bool b)) .nil 1) = true := by
  match i1, h1 with
  | 0, _ => cases b with
    | false => exact Rn.run_15_0_f q0 q1
    | true => exact Rn.run_15_0_t q0 q1
  | 1, _ => cases b with
    | false => exact Rn.run_15_1_f q0 q1
    | true => exact Rn.run_15_1_t q0 q1
  | 2, _ => cases b with
    | false => exact Rn.run_15_2_f q0 q1
    | true => exact Rn.run_15_2_t q0 q1
  | 3, _ => cases b with
    | false => exact Rn.run_15_3_f q0 q1
    | true => exact Rn.run_15_3_t q0 q1
  | 4, _ => cases b with
    | false => exact Rn.run_15_4_f q0 q1
    | true => exact Rn.run_15_4_t q0 q1
  | 5, _ => cases b with
    | false => exact Rn.run_15_5_f q0 q1
    | true => exact Rn.run_15_5_t q0 q1
  | 6, _ => cases b with
    | false => exact Rn.run_15_6_f q0 q1
    | true => exact Rn.run_15_6_t q0 q1
  | 7, _ => cases b with
    | false => exact Rn.run_15_7_f q0 q1
    | true => exact Rn.run_15_7_t q0 q1
  | 8, _ => cases b with
    | false => exact Rn.run_15_8_f q0 q1
    | true => exact Rn.run_15_8_t q0 q1
  | 9, _ => cases b with
    | false => exact Rn.run_15_9_f q0 q1
    | true => exact Rn.run_15_9_t q0 q1
  | 10, _ => cases b with
    | false => exact Rn.run_15_10_f q0 q1
    | true => exact Rn.run_15_10_t q0 q1
  | 11, _ => cases b with
    | false => exact Rn.run_15_11_f q0 q1
    | true => exact Rn.run_15_11_t q0 q1
  | 12, _ => cases b with
    | false => exact Rn.run_15_12_f q0 q1
    | true => exact Rn.run_15_12_t q0 q1
  | 13, _ => cases b with
    | false => exact Rn.run_15_13_f q0 q1
    | true => exact Rn.run_15_13_t q0 q1
  | 14, _ => cases b with
    | false => exact Rn.run_15_14_f q0 q1
    | true => exact Rn.run_15_14_t q0 q1
  | 15, _ => cases b with
    | false => exact Rn.run_15_15_f q0 q1
    | true => exact Rn.run_15_15_t q0 q1
  | _ + 16, h => exact absurd h (by omega)
theorem all_16 (q0 q1 : AV) (i1 : Nat) (h1 : i1 < 16+1) (b : Bool) : okT (Rn.g7 (.lit (.int .i64 (.ofNat 16))) (20) (.lit (.int .i64 (.ofNat i1))) (16+1) [] q0 q1 (.lit (.bool b)) .nil 1) = true := by
  match i1, h1 with
  | 0, _ => cases b with
    | false => exact Rn.run_16_0_f q0 q1
    | true => exact Rn.run_16_0_t q0 q1
  | 1, _ => cases b with
    | false => exact Rn.run_16_1_f q0 q1
    | true => exact Rn.run_16_1_t q0 q1
  | 2, _ => cases b with
    | false => exact Rn.run_16_2_f q0 q1
    | true => exact Rn.run_16_2_t q0 q1
  | 3, _ => cases b with
    | false => exact Rn.run_16_3_f q0 q1
    | true => exact Rn.run_16_3_t q0 q1
  | 4, _ => cases b with
    | false => exact Rn.run_16_4_f q0 q1
    | true => exact Rn.run_16_4_t q0 q1
  | 5, _ => cases b with
    | false => exact Rn.run_16_5_f q0 q1
    | true => exact Rn.run_16_5_t q0 q1
  | 6, _ => cases b with
    | false => exact Rn.run_16_6_f q0 q1
    | true => exact Rn.run_16_6_t q0 q1
  | 7, _ => cases b with
    | false => exact Rn.run_16_7_f q0 q1
    | true => exact Rn.run_16_7_t q0 q1
  | 8, _ => cases b with
    | false => exact Rn.run_16_8_f q0 q1
    | true => exact Rn.run_16_8_t q0 q1
  | 9, _ => cases b with
    | false => exact Rn.run_16_9_f q0 q1
    | true => exact Rn.run_16_9_t q0 q1
  | 10, _ => cases b with
    | false => exact Rn.run_16_10_f q0 q1
    | true => exact Rn.run_16_10_t q0 q1
  | 11, _ => cases b with
    | false => exact Rn.run_16_11_f q0 q1
    | true => exact Rn.run_16_11_t q0 q1
  | 12, _ => cases b with
    | false => exact Rn.run_16_12_f q0 q1
    | true => exact Rn.run_16_12_t q0 q1
  | 13, _ => cases b with
    | false => exact Rn.run_16_13_f q0 q1
    | true => exact Rn.run_16_13_t q0 q1
  | 14, _ => cases b with
    | false => exact Rn.run_16_14_f q0 q1
    | true => exact Rn.run_16_14_t q0 q1
  | 15, _ => cases b with
    | false => exact Rn.run_16_15_f q0 q1
    | true => exact Rn.run_16_15_t q0 q1
  | 16, _ => cases b with
    | false => exact Rn.run_16_16_f q0 q1
    | true => exact Rn.run_16_16_t q0 q1
  | _ + 17, h => exact absurd h (by omega)
theorem all_17 (q0 q1 : AV) (i1 : Nat) (h1 : i1 < 17+1) (b : Bool) : okT (Rn.g7 (.lit (.int .i64 (.ofNat 17))) (20) (.lit (.int .i64 (.ofNat i1))) (17+1) [] q0 q1 (.lit (.bool b)) .nil 1) = true := by
  match i1, h1 with
  | 0, _ => cases b with
    | false => exact Rn.run_17_0_f q0 q1
    | true => exact Rn.run_17_0_t q0 q1
  | 1, _ => cases b with
    | false => exact Rn.run_17_1_f q0 q1
    | true => exact Rn.run_17_1_t q0 q1
  | 2, _ => cases b with
    | false => exact Rn.run_17_2_f q0 q1
    | true => exact Rn.run_17_2_t q0 q1
  | 3, _ => cases b with
    | false => exact Rn.run_17_3_f q0 q1
    | true => exact Rn.run_17_3_t q0 q1
  | 4, _ => cases b with
    | false => exact Rn.run_17_4_f q0 q1
    | true => exact Rn.run_17_4_t q0 q1
  | 5, _ => cases b with
    | false => exact Rn.run_17_5_f q0 q1
    | true => exact Rn.run_17_5_t q0 q1
  | 6, _ => cases b with
    | false => exact Rn.run_17_6_f q0 q1
    | true => exact Rn.run_17_6_t q0 q1
  | 7, _ => cases b with
    | false => exact Rn.run_17_7_f q0 q1
    | true => exact Rn.run_17_7_t q0 q1
  | 8, _ => cases b with
    | false => exact Rn.run_17_8_f q0 q1
    | true => exact Rn.run_17_8_t q0 q1
  | 9, _ => cases b with
    | false => exact Rn.run_17_9_f q0 q1
    | true => exact Rn.run_17_9_t q0 q1
  | 10, _ => cases b with
    | false => exact Rn.run_17_10_f q0 q1
    | true => exact Rn.run_17_10_t q0 q1
  | 11, _ => cases b with
    | false => exact Rn.run_17_11_f q0 q1
    | true => exact Rn.run_17_11_t q0 q1
  | 12, _ => cases b with
    | false => exact Rn.run_17_12_f q0 q1
    | true => exact Rn.run_17_12_t q0 q1
  | 13, _ => cases b with
    | false => exact Rn.run_17_13_f q0 q1
    | true => exact Rn.run_17_13_t q0 q1
  | 14, _ => cases b with
    | false => exact Rn.run_17_14_f q0 q1
    | true => exact Rn.run_17_14_t q0 q1
  | 15, _ => cases b with
    | false => exact Rn.run_17_15_f q0 q1
    | true => exact Rn.run_17_15_t q0 q1
  | 16, _ => cases b with
    | false => exact Rn.run_17_16_f q0 q1
    | true => exact Rn.run_17_16_t q0 q1
  | 17, _ => cases b with
    | false => exact Rn.run_17_17_f q0 q1
    | true => exact Rn.run_17_17_t q0 q1
  | _ + 18, h => exact absurd h (by omega)
theorem all_18 (q0 q1 : AV) (i1 : Nat) (h1 : i1 < 18+1) (b : Bool) : okT (Rn.g7 (.lit (.int .i64 (.ofNat 18))) (20) (.lit (.int .i64 (.ofNat i1))) (18+1) [] q0 q1 (.lit (.bool b)) .nil 1) = true := by
  match i1, h1 with
  | 0, _ => cases b with
    | false => exact Rn.run_18_0_f q0 q1
    | true => exact Rn.run_18_0_t q0 q1
  | 1, _ => cases b with
    | false => exact Rn.run_18_1_f q0 q1
    | true => exact Rn.run_18_1_t q0 q1
  | 2, _ => cases b with
    | false => exact Rn.run_18_2_f q0 q1
    | true => exact Rn.run_18_2_t q0 q1
  | 3, _ => cases b with
    | false => exact Rn.run_18_3_f q0 q1
    | true => exact Rn.run_18_3_t q0 q1
  | 4, _ => cases b with
    | false => exact Rn.run_18_4_f q0 q1
    | true => exact Rn.run_18_4_t q0 q1
  | 5, _ => cases b with
    | false => exact Rn.run_18_5_f q0 q1
    | true => exact Rn.run_18_5_t q0 q1
  | 6, _ => cases b with
    | false => exact Rn.run_18_6_f q0 q1
    | true => exact Rn.run_18_6_t q0 q1
  | 7, _ => cases b with
    | false => exact Rn.run_18_7_f q0 q1
    | true => exact Rn.run_18_7_t q0 q1
  | 8, _ => cases b with
    | false => exact Rn.run_18_8_f q0 q1
    | true => exact Rn.run_18_8_t q0 q1
  | 9, _ => cases b with
    | false => exact Rn.run_18_9_f q0 q1
    | true => exact Rn.run_18_9_t q0 q1
  | 10, _ => cases b with
    | false => exact Rn.run_18_10_f q0 q1
    | true => exact Rn.run_18_10_t q0 q1
  | 11, _ => cases b with
    | false => exact Rn.run_18_11_f q0 q1
    | true => exact Rn.run_18_11_t q0 q1
  | 12, _ => cases b with
    | false => exact Rn.run_18_12_f q0 q1
    | true => exact Rn.run_18_12_t q0 q1
  | 13, _ => cases b with
    | false => exact Rn.run_18_13_f q0 q1
    | true => exact Rn.run_18_13_t q0 q1
  | 14, _ => cases b with
    | false => exact Rn.run_18_14_f q0 q1
    | true => exact Rn.run_18_14_t q0 q1
  | 15, _ => cases b with
    | false => exact Rn.run_18_15_f q0 q1
    | true => exact Rn.run_18_15_t q0 q1
  | 16, _ => cases b with
    | false => exact Rn.run_18_16_f q0 q1
    | true => exact Rn.run_18_16_t q0 q1
  | 17, _ => cases b with
    | false => exact Rn.run_18_17_f q0 q1
    | true => exact Rn.run_18_17_t q0 q1
  | 18, _ => cases b with
    | false => exact Rn.run_18_18_f q0 q1
    | true => exact Rn.run_18_18_t q0 q1
  | _ + 19, h => exact absurd h (by omega)
theorem all_19 (q0 q1 : AV) (i1 : Nat) (h1 : i1 < 19+1) (b : Bool) : okT (Rn.g7 (.lit (.int .i64 (.ofNat 19))) (20) (.lit (.int .i64 (.ofNat i1))) (19+1) [] q0 q1 (.lit (.bool b)) .nil 1) = true := by
  match i1, h1 with
  | 0, _ => cases b with
    | false => exact Rn.run_19_0_f q0 q1
    | true => exact Rn.run_19_0_t q0 q1
  | 1, _ => cases b with
    | false => exact Rn.run_19_1_f q0 q1
    | true => exact Rn.run_19_1_t q0 q1
  | 2, _ => cases b with
    | false => exact Rn.run_19_2_f q0 q1
    | true => exact Rn.run_19_2_t q0 q1
  | 3, _ => cases b with
    | false => exact Rn.run_19_3_f q0 q1
    | true => exact Rn.run_19_3_t q0 q1
  | 4, _ => cases b with
    | false => exact Rn.run_19_4_f q0 q1
    | true => exact Rn.run_19_4_t q0 q1
  | 5, _ => cases b with
    | false => exact Rn.run_19_5_f q0 q1
    | true => exact Rn.run_19_5_t q0 q1
  | 6, _ => cases b with
    | false => exact Rn.run_19_6_f q0 q1
    | true => exact Rn.run_19_6_t q0 q1
  | 7, _ => cases b with
    | false => exact Rn.run_19_7_f q0 q1
    | true => exact Rn.run_19_7_t q0 q1
  | 8, _ => cases b with
    | false => exact Rn.run_19_8_f q0 q1
    | true => exact Rn.run_19_8_t q0 q1
  | 9, _ => cases b with
    | false => exact Rn.run_19_9_f q0 q1
    | true => exact Rn.run_19_9_t q0 q1
  | 10, _ => cases b with
    | false => exact Rn.run_19_10_f q0 q1
    | true => exact Rn.run_19_10_t q0 q1
  | 11, _ => cases b with
    | false => exact Rn.run_19_11_f q0 q1
    | true => exact Rn.run_19_11_t q0 q1
  | 12, _ => cases b with
    | false => exact Rn.run_19_12_f q0 q1
    | true => exact Rn.run_19_12_t q0 q1
  | 13, _ => cases b with
    | false => exact Rn.run_19_13_f q0 q1
    | true => exact Rn.run_19_13_t q0 q1
  | 14, _ => cases b with
    | false => exact Rn.run_19_14_f q0 q1
    | true => exact Rn.run_19_14_t q0 q1
  | 15, _ => cases b with
    | false => exact Rn.run_19_15_f q0 q1
    | true => exact Rn.run_19_15_t q0 q1
  | 16, _ => cases b with
    | false => exact Rn.run_19_16_f q0 q1
    | true => exact Rn.run_19_16_t q0 q1
  | 17, _ => cases b with
    | false => exact Rn.run_19_17_f q0 q1
    | true => exact Rn.run_19_17_t q0 q1
  | 18, _ => cases b with
    | false => exact Rn.run_19_18_f q0 q1
    | true => exact Rn.run_19_18_t q0 q1
  | 19, _ => cases b with
    | false => exact Rn.run_19_19_f q0 q1
    | true => exact Rn.run_19_19_t q0 q1
  | _ + 20, h => exact absurd h (by omega)
theorem all (q0 q1 : AV) (i0 : Nat) (h0 : i0 < 20) (i1 : Nat) (h1 : i1 < i0+1) (b : Bool) : okT (Rn.g7 (.lit (.int .i64 (.ofNat i0))) (20) (.lit (.int .i64 (.ofNat i1))) (i0+1) [] q0 q1 (.lit (.bool b)) .nil 1) = true := by
  match i0, h0 with
  | 0, _ => exact all_0 q0 q1 i1 h1 b
  | 1, _ => exact all_1 q0 q1 i1 h1 b
  | 2, _ => exact all_2 q0 q1 i1 h1 b
  | 3, _ => exact all_3 q0 q1 i1 h1 b
  | 4, _ => exact all_4 q0 q1 i1 h1 b
  | 5, _ => exact all_5 q0 q1 i1 h1 b
  | 6, _ => exact all_6 q0 q1 i1 h1 b
  | 7, _ => exact all_7 q0 q1 i1 h1 b
  | 8, _ => exact all_8 q0 q1 i1 h1 b
  | 9, _ => exact all_9 q0 q1 i1 h1 b
  | 10, _ => exact all_10 q0 q1 i1 h1 b
  | 11, _ => exact all_11 q0 q1 i1 h1 b
  | 12, _ => exact all_12 q0 q1 i1 h1 b
  | 13, _ => exact all_13 q0 q1 i1 h1 b
  | 14, _ => exact all_14 q0 q1 i1 h1 b
  | 15, _ => exact all_15 q0 q1 i1 h1 b
  | 16, _ => exact all_16 q0 q1 i1 h1 b
  | 17, _ => exact all_17 q0 q1 i1 h1 b
  | 18, _ => exact all_18 q0 q1 i1 h1 b
  | 19, _ => exact all_19 q0 q1 i1 h1 b
  | _ + 20, h => exact absurd h (by omega)
/-- names for the errors that the variables hold -/
def errRho (aE : Nat → Addr) : Rho := ⟨[], fun i => .pointer (some (aE i))⟩
theorem errEE {w0 : World} {base : Nat} {aE : Nat → Addr} (hS : EnvS w0 base aE) : EE w0 base (errRho aE) Rn.envE := by
  have key : ∀ i g, sentG[i]? = some g → ∃ u, inst (errRho aE) (.iface 253 (.opq i)) = some u ∧ w0.cell? ⟨g, 0, none⟩ = some u ∧ g < base := fun i g hi => ⟨_, rfl, hS.at_ i g hi, hS.lt g (List.mem_of_getElem? hi)⟩
  intro g v hv
  unfold Rn.envE at hv
  simp only [lookE] at hv
  split at hv
  · rename_i hb
    cases hv
    obtain rfl := beqT hb
    exact key 0 _ rfl
  split at hv
  · rename_i hb
    cases hv
    obtain rfl := beqT hb
    exact key 1 _ rfl
  split at hv
  · rename_i hb
    cases hv
    obtain rfl := beqT hb
    exact key 2 _ rfl
  split at hv
  · rename_i hb
    cases hv
    obtain rfl := beqT hb
    exact key 3 _ rfl
  split at hv
  · rename_i hb
    cases hv
    obtain rfl := beqT hb
    exact key 4 _ rfl
  split at hv
  · rename_i hb
    cases hv
    obtain rfl := beqT hb
    exact key 5 _ rfl
  split at hv
  · rename_i hb
    cases hv
    obtain rfl := beqT hb
    exact key 6 _ rfl
  split at hv
  · rename_i hb
    cases hv
    obtain rfl := beqT hb
    exact key 7 _ rfl
  split at hv
  · rename_i hb
    cases hv
    obtain rfl := beqT hb
    exact key 8 _ rfl
  split at hv
  · rename_i hb
    cases hv
    obtain rfl := beqT hb
    exact key 9 _ rfl
  split at hv
  · rename_i hb
    cases hv
    obtain rfl := beqT hb
    exact key 10 _ rfl
  split at hv
  · rename_i hb
    cases hv
    obtain rfl := beqT hb
    exact key 11 _ rfl
  split at hv
  · rename_i hb
    cases hv
    obtain rfl := beqT hb
    exact key 12 _ rfl
  split at hv
  · rename_i hb
    cases hv
    obtain rfl := beqT hb
    exact key 13 _ rfl
  split at hv
  · rename_i hb
    cases hv
    obtain rfl := beqT hb
    exact key 14 _ rfl
  split at hv
  · rename_i hb
    cases hv
    obtain rfl := beqT hb
    exact key 15 _ rfl
  split at hv
  · rename_i hb
    cases hv
    obtain rfl := beqT hb
    exact key 16 _ rfl
  cases hv
theorem errOPQ {w0 : World} {base : Nat} {aE : Nat → Addr} (hS : EnvS w0 base aE) : OPQ w0 base (errRho aE) := ⟨aE, fun _ _ => rfl, hS.blk, hS.ne⟩
theorem first_run : okT (Rn.g24 [.nil] .nil 1) = true := by kernel_rfl
theorem law_c {w0 : World} {base : Nat} {aE : Nat → Addr} (hS : EnvS w0 base aE) (n0 n1 : Int) (b : Bool) : FnC Tryz.prog 7 #[.int .i64 n0, .int .i64 n1, .bool b] (WA w0 base []) (fun _ : Unit => .bool true) (fun _ => WA w0 base []) := by
  obtain ⟨i0, h0, e0⟩ := numI_ok n0 (show 0 < 20 by omega)
  obtain ⟨i1, h1, e1⟩ := numI_ok n1 (show 0 < i0+1 by omega)
  obtain ⟨T2, n2, hF0⟩ := okT_eq first_run
  have hF1 := Rn.g24_ok [.nil] .nil 1
  rw [hF0] at hF1
  exact okT_c (vs := [.int .i64 n0, .int .i64 n1, .bool b]) (Rn.g7_ok (.lit (.int .i64 (.ofNat i0))) (20) (.lit (.int .i64 (.ofNat i1))) (i0+1) (.lit (.int .i64 n0)) (.lit (.int .i64 n1)) (.lit (.bool b)) (fun z ro T nx => number_is _ n0 (by omega) (by omega) e0 z ro T nx) (fun z ro T nx => number_is _ n1 (by omega) (by omega) e1 z ro T nx) [] .nil 1 (GOk.quiet hF1 rfl)) (all (.lit (.int .i64 n0)) (.lit (.int .i64 n1)) i0 h0 i1 h1 b) (errRho aE) (errEE hS) (errOPQ hS) (fun _ _ => rfl)
end Go.Proofs.YtdepmlcnllofiaaGreatDoor.RnR
namespace Go.Proofs.YtdepmlcnllofiaaGreatDoor.resolveNames
open Go.ChangeShapes Go.WideShapes Go.ChangeAt Go.RowKit Go.SX Env
set_option maxRecDepth 100000 in
/-- What the walk gives, for every argument and every world that holds the listed variables. -/
theorem contract (H : Type) (enc : TypeId × Value → H) (W : World) (base : Nat) (args : Array Value) (ds gs : List (DataW H)) (before : List MemPlace)
    (hval : ∀ (j : Nat) t v, Tryz.f7.params[j]? = some t → args[j]? = some v → Value.okWide Tryz.prog W .any base t v)
    (hW : DataW.Whole enc Tryz.prog Tryz.f7.params.toList Rows.resolveNamesSpec.vars false W args.toList ds gs before) (hL : laidMetH Tryz.prog Rows.resolveNamesRow.laid W) :
    Calls Tryz.prog 7 args W fun e W' => ∃ v, e = .returned v ∧ Rows.resolveNamesSpec.post enc Tryz.prog Tryz.f7 false true false false W args v W' := by
  have hW' := hW
  obtain ⟨p, q, hA0, hV, rfl, hfz, hnd⟩ := hW
  have hA : DataW.TrodAll enc Tryz.prog W 0 (fun _ => true) true Tryz.f7.params.toList args.toList ds p := hA0
  rw [Tryz.params7] at hA hval
  obtain ⟨v0, v1, v2, d0, d1, d2, p0, p1, p2, rfl, rfl, rfl, h0, h1, h2⟩ := trodAll_three hA
  obtain ⟨rfl, rfl⟩ := trodVars_none hV
  obtain ⟨n0, rfl⟩ := okWide_int unI (hval 0 3 v0 rfl rfl)
  obtain ⟨n1, rfl⟩ := okWide_int unI (hval 1 3 v1 rfl rfl)
  obtain ⟨t2, rfl⟩ := okWide_bool unB (hval 2 4 v2 rfl rfl)
  clear hA0
  simp only [List.append_nil] at hW'
  have hlt : ∀ x ∈ p0 ++ p1 ++ p2, x.block < W.heap.size := fun x hx => by simpa using hW'.lt x (by simpa using hx)
  have g0 : ∀ W' : World, Below W.heap.size W W' → DataW.Trod enc Tryz.prog W' 0 (fun b => decide (b < W.heap.size)) true 3 (.int .i64 n0) d0 p0 :=
    fun W' hn => Below.trod laidOut (by kernel_rfl) (of_decide_eq_true (by kernel_rfl)) h0 hn (fun x hx => hlt x (by simp [hx]))
  have g1 : ∀ W' : World, Below W.heap.size W W' → DataW.Trod enc Tryz.prog W' 0 (fun b => decide (b < W.heap.size)) true 3 (.int .i64 n1) d1 p1 :=
    fun W' hn => Below.trod laidOut (by kernel_rfl) (of_decide_eq_true (by kernel_rfl)) h1 hn (fun x hx => hlt x (by simp [hx]))
  have g2 : ∀ W' : World, Below W.heap.size W W' → DataW.Trod enc Tryz.prog W' 0 (fun b => decide (b < W.heap.size)) true 4 (.bool t2) d2 p2 :=
    fun W' hn => Below.trod laidOut (by kernel_rfl) (of_decide_eq_true (by kernel_rfl)) h2 hn (fun x hx => hlt x (by simp [hx]))
  obtain ⟨aE, hS⟩ := env17 hL
  refine ((RnR.law_c hS n0 n1 t2) W (WA.start W)).mono fun e W' ⟨_, he, hw⟩ => ?_
  subst he
  exact ⟨_, rfl, _, _, _, [], _, [], hW', trodAll_mk1 (shut_bool unB _), trodAll_mk3 (g0 _ hw.below) (g1 _ hw.below) (g2 _ hw.below), rfl, hw.below.frame _, fun h => by cases h⟩
/-- a world for the witness -/
noncomputable abbrev start (os : Os) : World := laidWorld os [(5, ⟨#[108, 101, 120]⟩), (4, ⟨#[112, 97, 114, 115, 101]⟩), (2, ⟨#[114, 101, 115, 111, 108, 118, 101]⟩), (6, ⟨#[100, 121, 110, 97, 109, 105, 99]⟩), (7, ⟨#[99, 121, 99, 108, 101]⟩), (8, ⟨#[118, 105, 115, 105, 98, 105, 108, 105, 116, 121]⟩), (9, ⟨#[97, 110, 97, 108, 121, 115, 105, 115]⟩), (3, ⟨#[108, 105, 109, 105, 116]⟩), (10, ⟨#[109, 105, 115, 115, 105, 110, 103]⟩), (0, ⟨#[116, 111, 111, 32, 109, 97, 110, 121]⟩), (11, ⟨#[110, 111, 32, 115, 117, 99, 104, 32, 107, 105, 110, 100]⟩), (12, ⟨#[110, 111, 32, 112, 97, 116, 104]⟩), (1, ⟨#[110, 111, 116, 32, 116, 104, 101, 32, 115, 104, 97, 112, 101, 32, 116, 104, 97, 116, 32, 105, 116, 32, 104, 97, 115, 32, 116, 111, 32, 104, 97, 118, 101]⟩), (13, ⟨#[105, 116, 32, 101, 110, 100, 115, 32, 116, 111, 111, 32, 101, 97, 114, 108, 121]⟩), (14, ⟨#[97, 32, 110, 117, 109, 98, 101, 114, 32, 111, 117, 116, 32, 111, 102, 32, 105, 116, 115, 32, 114, 97, 110, 103, 101]⟩), (15, ⟨#[116, 104, 101, 32, 112, 111, 119, 101, 114, 32, 104, 97, 115, 32, 103, 111, 110, 101]⟩), (16, ⟨#[105, 116, 32, 104, 97, 115, 32, 102, 97, 105, 108, 101, 100]⟩)]
theorem laid_met (os : Os) : laidMet Tryz.prog Rows.resolveNamesRow.laid ((start os).forCall (fun _ _ => 0) ⟨#[], #[.int .i64 0, .int .i64 0, .bool false], []⟩).memory :=
  laidMet_of_run' 8 (by kernel_rfl) (by kernel_rfl)
theorem reads (os : Os) {H : Type} (enc : TypeId × Value → H) : ∃ places, DataW.whole enc Tryz.prog ((start os).forCall (fun _ _ => 0) ⟨#[], #[.int .i64 0, .int .i64 0, .bool false], []⟩).memory Tryz.f7.params.toList Rows.resolveNamesSpec.vars false (#[.int .i64 0, .int .i64 0, .bool false] : Array Value).toList 8 = some ([.lit (.int .i64 0), .lit (.int .i64 0), .lit (.bool false)], [], places) :=
  ⟨[], by kernel_rfl⟩
set_option maxRecDepth 100000 in
theorem lifted (os : Os) (started : os.Started) (H : Type) (enc : TypeId × Value → H) (F : Stop.Interp) :
    ReturnsInHanded {} Tryz.checked os 7 .any ((OpenSpec.ofChange Rows.resolveNamesSpec).preRow enc Tryz.prog Tryz.f7 Rows.resolveNamesRow.domain false Rows.resolveNamesRow.laid) (((OpenSpec.ofChange Rows.resolveNamesSpec).at F).post enc Tryz.prog Tryz.f7 false true false false) := by
  obtain ⟨places, hx⟩ := reads os enc
  refine returnsInHanded_of_row (C := Tryz.checked) (s := OpenSpec.ofChange Rows.resolveNamesSpec) own started (by kernel_rfl) Tryz.func7
    (witness_row_at (enc := enc) (C := Tryz.checked) false (start os) #[.int .i64 0, .int .i64 0, .bool false] rfl (by kernel_rfl) (by kernel_rfl) (by kernel_rfl)
      (OpenSpec.preRow_of_cond 8 hx (by kernel_rfl) (fun k hk => by cases hk) (by kernel_rfl) (laid_met os))) ?_
  intro W base args ds gs before hval hW _ _ _ hL _ _
  exact contract H enc W base args ds gs before hval hW hL
theorem said : Rows.ResolveNamesSaid :=
  OpenClaim.holds_of_cond 7 Tryz.f7 rfl rfl rfl rfl rfl rfl rfl ⟨rfl, rfl, rfl, rfl, rfl⟩ rfl rfl rfl rfl rfl (by kernel_rfl) Tryz.func7 (by kernel_rfl)
    (of_decide_eq_true (by kernel_rfl)) (by unfold Func.isWrapper; first | (rw [if_pos (by decide +kernel)]; kernel_rfl) | (rw [if_neg (by decide +kernel)]; exact ⟨rfl, rfl⟩))
    (fun os started H enc _ F => by rw [OpenClaim.pre_eq_preRow]; exact lifted os started H enc F)
theorem plain (f : FuncId) (fn : Func) (hf : Tryz.pinned.checked.prog.funcNamed "smithy/smithylaw8.ResolveNames" = some f) (hfn : Tryz.pinned.checked.prog.funcs[f]? = some fn) :
    true = Tryz.pinned.checked.prog.looks [] ∧ ∀ (j : Nat) t, fn.params[j]? = some t → Tryz.pinned.checked.prog.wantsStandIn t = false := by
  obtain rfl : f = 7 := Option.some.inj ((show Tryz.prog.funcNamed "smithy/smithylaw8.ResolveNames" = some 7 by kernel_rfl).symm.trans hf) |>.symm
  obtain rfl : fn = Tryz.f7 := (Option.some.inj (Tryz.func7.symm.trans hfn)).symm
  refine ⟨by kernel_rfl, fun j t ht => ?_⟩
  rw [Tryz.params7] at ht
  have ht2 : t = 3 ∨ t = 3 ∨ t = 4 := by have := Array.mem_of_getElem? ht; simpa using this
  rcases ht2 with rfl | rfl | rfl
  · exact (show Tryz.prog.wantsStandIn 3 = false by kernel_rfl)
  · exact (show Tryz.prog.wantsStandIn 3 = false by kernel_rfl)
  · exact (show Tryz.prog.wantsStandIn 4 = false by kernel_rfl)
/-- The card. -/
theorem card : Rows.ResolveNamesCardSaid :=
  Claim7.holds_tied_plain_at .later [] _ _ _ _ said (fun _ h => by cases h) (by kernel_rfl) (fun _ h => by cases h) resolveNames_row_tie rfl ⟨rfl, rfl⟩ (by kernel_rfl) rfl plain (by kernel_rfl)
end Go.Proofs.YtdepmlcnllofiaaGreatDoor.resolveNames
