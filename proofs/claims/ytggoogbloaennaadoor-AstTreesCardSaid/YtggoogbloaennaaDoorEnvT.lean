/-
  Proved here: what the list of all of api's errors gives the walks.
-/
import Derived.Test.YtggoogbloaennaaDoorEnvS
namespace Go.Proofs.YtggoogbloaennaaDoor.Env
open Go.ChangeShapes Go.WideShapes Go.ChangeAt Go.RowKit Go.SX Go.Lex
def nm17 (i : Nat) : String := ["smithy/api.ErrLex", "smithy/api.ErrParse", "smithy/api.ErrResolve", "smithy/api.ErrDynamic", "smithy/api.ErrCycle", "smithy/api.ErrVisibility", "smithy/api.ErrAnalysis", "smithy/api.ErrLimit", "smithy/api.ErrMissing", "smithy/api.ErrMany", "smithy/api.ErrKind", "smithy/api.ErrPath", "smithy/api.ErrShape", "smithy/api.ErrEnd", "smithy/api.ErrRange", "smithy/api.ErrDown", "smithy/api.ErrFail"].getD i ""
def tx17 (i : Nat) : List UInt8 := ([[108, 101, 120], [112, 97, 114, 115, 101], [114, 101, 115, 111, 108, 118, 101], [100, 121, 110, 97, 109, 105, 99], [99, 121, 99, 108, 101], [118, 105, 115, 105, 98, 105, 108, 105, 116, 121], [97, 110, 97, 108, 121, 115, 105, 115], [108, 105, 109, 105, 116], [109, 105, 115, 115, 105, 110, 103], [116, 111, 111, 32, 109, 97, 110, 121], [110, 111, 32, 115, 117, 99, 104, 32, 107, 105, 110, 100], [110, 111, 32, 112, 97, 116, 104], [110, 111, 116, 32, 116, 104, 101, 32, 115, 104, 97, 112, 101, 32, 116, 104, 97, 116, 32, 105, 116, 32, 104, 97, 115, 32, 116, 111, 32, 104, 97, 118, 101], [105, 116, 32, 101, 110, 100, 115, 32, 116, 111, 111, 32, 101, 97, 114, 108, 121], [97, 32, 110, 117, 109, 98, 101, 114, 32, 111, 117, 116, 32, 111, 102, 32, 105, 116, 115, 32, 114, 97, 110, 103, 101], [116, 104, 101, 32, 112, 111, 119, 101, 114, 32, 104, 97, 115, 32, 103, 111, 110, 101], [105, 116, 32, 104, 97, 115, 32, 102, 97, 105, 108, 101, 100]] : List (List UInt8)).getD i []
def laid17 : List (String × DataW Unit) := [("smithy/api.ErrLex", Rows.laid_smithy_api_ErrLex), ("smithy/api.ErrParse", Rows.laid_smithy_api_ErrParse), ("smithy/api.ErrResolve", Rows.laid_smithy_api_ErrResolve), ("smithy/api.ErrDynamic", Rows.laid_smithy_api_ErrDynamic), ("smithy/api.ErrCycle", Rows.laid_smithy_api_ErrCycle), ("smithy/api.ErrVisibility", Rows.laid_smithy_api_ErrVisibility), ("smithy/api.ErrAnalysis", Rows.laid_smithy_api_ErrAnalysis), ("smithy/api.ErrLimit", Rows.laid_smithy_api_ErrLimit), ("smithy/api.ErrMissing", Rows.laid_smithy_api_ErrMissing), ("smithy/api.ErrMany", Rows.laid_smithy_api_ErrMany), ("smithy/api.ErrKind", Rows.laid_smithy_api_ErrKind), ("smithy/api.ErrPath", Rows.laid_smithy_api_ErrPath), ("smithy/api.ErrShape", Rows.laid_smithy_api_ErrShape), ("smithy/api.ErrEnd", Rows.laid_smithy_api_ErrEnd), ("smithy/api.ErrRange", Rows.laid_smithy_api_ErrRange), ("smithy/api.ErrDown", Rows.laid_smithy_api_ErrDown), ("smithy/api.ErrFail", Rows.laid_smithy_api_ErrFail)]
theorem laid17_eq : laid17 = sentL nm17 tx17 17 := by kernel_rfl
theorem globs17 : ∀ i g, sentG[i]? = some g → Tryd.prog.globalNamed (nm17 i) = some g ∧ (Tryd.prog.globals[g]?).map (·.type) = some 29 := by
  intro i g h
  match i, h with
  | 0, h => cases h; exact ⟨by kernel_rfl, by kernel_rfl⟩
  | 1, h => cases h; exact ⟨by kernel_rfl, by kernel_rfl⟩
  | 2, h => cases h; exact ⟨by kernel_rfl, by kernel_rfl⟩
  | 3, h => cases h; exact ⟨by kernel_rfl, by kernel_rfl⟩
  | 4, h => cases h; exact ⟨by kernel_rfl, by kernel_rfl⟩
  | 5, h => cases h; exact ⟨by kernel_rfl, by kernel_rfl⟩
  | 6, h => cases h; exact ⟨by kernel_rfl, by kernel_rfl⟩
  | 7, h => cases h; exact ⟨by kernel_rfl, by kernel_rfl⟩
  | 8, h => cases h; exact ⟨by kernel_rfl, by kernel_rfl⟩
  | 9, h => cases h; exact ⟨by kernel_rfl, by kernel_rfl⟩
  | 10, h => cases h; exact ⟨by kernel_rfl, by kernel_rfl⟩
  | 11, h => cases h; exact ⟨by kernel_rfl, by kernel_rfl⟩
  | 12, h => cases h; exact ⟨by kernel_rfl, by kernel_rfl⟩
  | 13, h => cases h; exact ⟨by kernel_rfl, by kernel_rfl⟩
  | 14, h => cases h; exact ⟨by kernel_rfl, by kernel_rfl⟩
  | 15, h => cases h; exact ⟨by kernel_rfl, by kernel_rfl⟩
  | 16, h => cases h; exact ⟨by kernel_rfl, by kernel_rfl⟩
  | i + 17, h => cases h
theorem env17 {W : World} (h : laidMetH Tryd.prog laid17 W) : ∃ aE eLim, EnvLex W W.heap.size (errV (aE 0)) ∧ EnvLim W W.heap.size eLim ∧ EnvS W W.heap.size aE := by
  have h1 : laidMet Tryd.prog laid17 W := (laidMetH_iff.1 h).1
  rw [laid17_eq] at h1
  obtain ⟨aE, hS⟩ := envS h1 globs17
  exact ⟨aE, errV (aE 7), ⟨hS.at_ 0 3 rfl, hS.lt 3 (by decide), rfl⟩, ⟨hS.at_ 7 2 rfl, hS.lt 2 (by decide)⟩, hS⟩
end Go.Proofs.YtggoogbloaennaaDoor.Env
