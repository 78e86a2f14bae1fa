/-
  Proved here: what the statements' lists of variables give: each error's cell; a world in which a call may begin.
-/
import Derived.Test.YtggoogbloaennaaDoorCards
import Derived.Test.YtggoogbloaennaaDoorTie
import Derived.WalkKit
import Derived.ProofKit
import Derived.OpenShut
import Derived.Deep.DeepHandedRow
import Derived.Stop.LaidErr
import Derived.Stop.LaidTwo
import Derived.Test.YtggoogbloaennaaDoorLawA
namespace Go.Proofs.YtggoogbloaennaaDoor.Env
open Go.ChangeShapes Go.WideShapes Go.ChangeAt Go.RowKit Go.SX Go.Lex
theorem own : ownKnob Tryd.prog.godebug = none := by kernel_rfl
theorem laidOut : laidOutB Tryd.prog = true := by kernel_rfl
theorem cells3 : Tryd.prog.cellsOf 3 = 1 := by kernel_rfl
theorem cells9 : Tryd.prog.cellsOf 9 = 1 := by kernel_rfl
theorem cellsE : Tryd.prog.cellsOf 159 = 1 := by kernel_rfl
theorem unE : Tryd.prog.underlying 29 = some (.interface #[("Error", 116)]) := by kernel_rfl
theorem unP : Tryd.prog.underlying 143 = some (.pointer 159) := by kernel_rfl
theorem unI : Tryd.prog.underlying 3 = some (.int .i64) := by kernel_rfl
theorem unB : Tryd.prog.underlying 4 = some .bool := by kernel_rfl
theorem unS : Tryd.prog.underlying 9 = some .string := by kernel_rfl
theorem unIs : Tryd.prog.underlying 25 = some (.slice 3) := by kernel_rfl
theorem star : "*" ++ "errors.errorString" = "*errors.errorString" := by decide
theorem rowE (u : TypeId) (h : Tryd.prog.typeName? 3 u = some "*errors.errorString") : u = 143 :=
  typeName_ptr_named (nm := "errors.errorString") (by rw [star]; kernel_rfl) (by kernel_rfl) (by decide) u (by rw [star]; exact h)
/-- a listed error: its variable's cell -/
theorem sent {n : String} {text : List UInt8} {W : World} {l : List (String × DataW Unit)} {g : Nat} (h : laidMetH Tryd.prog l W)
    (hf : (l.filter fun x => x.1 == n) = [(n, .iface "*errors.errorString" (.ptr (.agg [.lit (.string text)])))])
    (hg : Tryd.prog.globalNamed n = some g) (ht : (Tryd.prog.globals[g]?).map (·.type) = some 29) :
    ∃ a : Addr, W.cell? ⟨g, 0, none⟩ = some (.iface 143 (.pointer (some a))) ∧ g < W.heap.size := by
  have h1 := h.filter (fun x => x.1 == n)
  rw [hf] at h1
  have h2 : laidMet Tryd.prog [(n, .iface "*errors.errorString" (.ptr (.agg [.lit (.string text)])))] W := (laidMetH_iff.1 h1).1
  obtain ⟨a, s, hv, _⟩ := laid_sentinel h2 hg ht unE rowE unP (show Tryd.prog.underlying 159 = some (.struct #[⟨"s", 9, 0, false, "", "errors", 0⟩]) by kernel_rfl) rfl rfl unS cellsE cells9
  have hc : W.cell? ⟨g, 0, none⟩ = some (.iface 143 (.pointer (some a))) := by simpa using World.var?_cell hg hv 0
  exact ⟨a, hc, World.block_lt_of_cell? _ _ hc⟩
theorem gLex : Tryd.prog.globalNamed "smithy/api.ErrLex" = some 3 := by kernel_rfl
theorem gLexT : (Tryd.prog.globals[3]?).map (·.type) = some 29 := by kernel_rfl
theorem gLim : Tryd.prog.globalNamed "smithy/api.ErrLimit" = some 2 := by kernel_rfl
theorem gLimT : (Tryd.prog.globals[2]?).map (·.type) = some 29 := by kernel_rfl
theorem env {W : World} {l : List (String × DataW Unit)} (h : laidMetH Tryd.prog l W)
    (h1 : (l.filter fun x => x.1 == "smithy/api.ErrLex") = [("smithy/api.ErrLex", Rows.laid_smithy_api_ErrLex)])
    (h2 : (l.filter fun x => x.1 == "smithy/api.ErrLimit") = [("smithy/api.ErrLimit", Rows.laid_smithy_api_ErrLimit)]) :
    ∃ eLex eLim, EnvLex W W.heap.size eLex ∧ EnvLim W W.heap.size eLim := by
  obtain ⟨a, ha, la⟩ := sent h h1 gLex gLexT
  obtain ⟨b, hb, lb⟩ := sent h h2 gLim gLimT
  exact ⟨_, _, ⟨ha, la, rfl⟩, ⟨hb, lb⟩⟩
/-- an argument that is a slice of integers, as the walks read it -/
theorem ints_in {H : Type} {enc : TypeId × Value → H} {W : World} {fuel : Nat} {a0 : Option Addr} {len cap : Nat} {x : DataW H × List MemPlace}
    (h : DataW.trod enc Tryd.prog W 0 (fun _ => true) true fuel 25 (Value.slice a0 len cap).cells.toList = some x) : ∃ zs, IntsAt W W.heap.size a0 len zs := by
  rcases open_ints unIs unI cells3 h with ⟨hcs, hx⟩ | ⟨a, len', cap', zs, hcs, _, hl, hm, hz, hx, hcell, hwz⟩
  · simp [Value.cells] at hcs
    obtain ⟨rfl, rfl, rfl⟩ := hcs
    exact ⟨[], ⟨fun i hi => by cases hi⟩⟩
  · simp [Value.cells] at hcs
    obtain ⟨rfl, rfl, rfl⟩ := hcs
    simp only [if_true] at hz
    refine ⟨zs, ⟨fun i hi => ⟨a, rfl, ?_, ?_⟩⟩⟩
    · rw [Nat.mul_one]; exact World.block_lt_of_cell? _ _ (hcell i (by omega))
    · rw [Nat.mul_one]; exact hcell i (by omega)
/-- a world with each listed error laid -/
noncomputable def laidWorld (os : Os) (l : List (Nat × ByteArray)) : World :=
  let w0 := World.holding Tryd.prog os ⟨(l.map fun x => Obj.cells #[.string x.2] 159 (0, 0)).toArray, #[], []⟩
  let low := (World.holding Tryd.prog os ⟨#[], #[], []⟩).heap.size
  { w0 with heap := (l.zipIdx).foldl (fun h x => h.modify x.1.1 fun
      | .cells _ t frozen => .cells #[.iface 143 (.pointer (some ⟨low + x.2, 0, none⟩))] t frozen
      | o => o) w0.heap }
end Go.Proofs.YtggoogbloaennaaDoor.Env
