/-
  Proved here: closed facts about the program's types and functions that a machine of mine asks for.
-/
import Derived.Test.YtljaoofbklkglaaDoorEyArS
import Derived.Test.YtljaoofbklkglaaDoorProg
import Derived.Test.YtljaoofbklkglaaDoorShelf
import Derived.Test.YtljaoofbklkglaaDoorNmc
import Derived.Test.YtljaoofbklkglaaDoorSeq
namespace Go.Proofs.YtljaoofbklkglaaDoor.Arf
open Go.EY Go.EX Go.SX Go.RowKit
theorem agg28 : aggT Tryd.prog 28 = some 5 := by kernel_rfl
theorem agg54 : aggT Tryd.prog 54 = some 2 := by kernel_rfl
theorem el22 : elemT Tryd.prog 22 = some (3, 1, 8, .int .i64 0) := by kernel_rfl
theorem el24 : elemT Tryd.prog 24 = some (28, 5, 64, .agg #[.int .i64 0, .int .i64 0, .int .i64 0, .string ⟨#[]⟩, .slice none 0 0]) := by kernel_rfl
theorem el25 : elemT Tryd.prog 25 = some (9, 1, 16, .string ⟨#[]⟩) := by kernel_rfl
theorem el41 : elemT Tryd.prog 41 = some (4, 1, 1, .bool false) := by kernel_rfl
theorem el55 : elemT Tryd.prog 55 = some (54, 2, 16, .agg #[.int .i64 0, .int .i64 0]) := by kernel_rfl
theorem fo28_0 : fieldOff Tryd.prog 28 0 = some 0 := by kernel_rfl
theorem fo28_1 : fieldOff Tryd.prog 28 1 = some 1 := by kernel_rfl
theorem fo28_3 : fieldOff Tryd.prog 28 3 = some 3 := by kernel_rfl
theorem fo28_4 : fieldOff Tryd.prog 28 4 = some 4 := by kernel_rfl
theorem fo43_0 : fieldOff Tryd.prog 43 0 = some 0 := by kernel_rfl
theorem fo43_1 : fieldOff Tryd.prog 43 1 = some 1 := by kernel_rfl
theorem fo54_0 : fieldOff Tryd.prog 54 0 = some 0 := by kernel_rfl
theorem fo54_1 : fieldOff Tryd.prog 54 1 = some 1 := by kernel_rfl
theorem ls22 : ((#[22] : Array TypeId)[0]?).bind Tryd.prog.underlying = some (.slice 3) := by kernel_rfl
theorem ls24 : ((#[24] : Array TypeId)[0]?).bind Tryd.prog.underlying = some (.slice 28) := by kernel_rfl
theorem ls25 : ((#[25] : Array TypeId)[0]?).bind Tryd.prog.underlying = some (.slice 9) := by kernel_rfl
theorem ls41 : ((#[41] : Array TypeId)[0]?).bind Tryd.prog.underlying = some (.slice 4) := by kernel_rfl
theorem ls55 : ((#[55] : Array TypeId)[0]?).bind Tryd.prog.underlying = some (.slice 54) := by kernel_rfl
theorem ls9 : ((#[9] : Array TypeId)[0]?).bind Tryd.prog.underlying = some .string := by kernel_rfl
theorem one22 : oneT Tryd.prog 22 = true := by kernel_rfl
theorem one24 : oneT Tryd.prog 24 = true := by kernel_rfl
theorem one3 : oneT Tryd.prog 3 = true := by kernel_rfl
theorem one4 : oneT Tryd.prog 4 = true := by kernel_rfl
theorem one41 : oneT Tryd.prog 41 = true := by kernel_rfl
theorem one9 : oneT Tryd.prog 9 = true := by kernel_rfl
theorem siz3 : sizeT Tryd.prog 3 = some 1 := by kernel_rfl
theorem siz4 : sizeT Tryd.prog 4 = some 1 := by kernel_rfl
theorem slt22 : Tryd.prog.underlying 22 = some (.slice 3) := by kernel_rfl
theorem st9 : Tryd.prog.underlying 9 = some .string := by kernel_rfl
theorem zr28 : ((Tryd.prog.info? 28).bind (·.zero)).map (fun z => z.cells.toList.map AV.lit) = some [.lit (.int .i64 0), .lit (.int .i64 0), .lit (.int .i64 0), .lit (.string ⟨#[]⟩), .lit (.slice none 0 0)] := by kernel_rfl
theorem zr54 : ((Tryd.prog.info? 54).bind (·.zero)).map (fun z => z.cells.toList.map AV.lit) = some [.lit (.int .i64 0), .lit (.int .i64 0)] := by kernel_rfl
end Go.Proofs.YtljaoofbklkglaaDoor.Arf
