/-
  Proved here: closed facts about the program's types and functions that a machine of mine asks for.
-/
import Derived.Test.YtggoogbloaennaaDoorEyF
import Derived.Test.YtggoogbloaennaaDoorProg
namespace Go.Proofs.YtggoogbloaennaaDoor.Trf
open Go.EY Go.EX Go.SX Go.RowKit
theorem agg27 : aggT Tryd.prog 27 = some 5 := by kernel_rfl
theorem agg35 : aggT Tryd.prog 35 = some 5 := by kernel_rfl
theorem cp143 : CmpT Tryd.prog 143 159 := CmpT.of (by kernel_rfl) (by kernel_rfl) (by kernel_rfl)
theorem el129 : elemT Tryd.prog 129 = some (29, 1, 16, .nilIface) := by kernel_rfl
theorem el24 : elemT Tryd.prog 24 = some (27, 5, 64, .agg #[.int .i64 0, .int .i64 0, .int .i64 0, .string ⟨#[]⟩, .slice none 0 0]) := by kernel_rfl
theorem el25 : elemT Tryd.prog 25 = some (3, 1, 8, .int .i64 0) := by kernel_rfl
theorem el53 : elemT Tryd.prog 53 = some (9, 1, 16, .string ⟨#[]⟩) := by kernel_rfl
theorem el61 : elemT Tryd.prog 61 = some (4, 1, 1, .bool false) := by kernel_rfl
theorem fo101_0 : fieldOff Tryd.prog 101 0 = some 0 := by kernel_rfl
theorem fo101_1 : fieldOff Tryd.prog 101 1 = some 1 := by kernel_rfl
theorem fo27_0 : fieldOff Tryd.prog 27 0 = some 0 := by kernel_rfl
theorem fo27_1 : fieldOff Tryd.prog 27 1 = some 1 := by kernel_rfl
theorem fo27_3 : fieldOff Tryd.prog 27 3 = some 3 := by kernel_rfl
theorem fo27_4 : fieldOff Tryd.prog 27 4 = some 4 := by kernel_rfl
theorem fo35_0 : fieldOff Tryd.prog 35 0 = some 0 := by kernel_rfl
theorem fo35_1 : fieldOff Tryd.prog 35 1 = some 1 := by kernel_rfl
theorem fo35_2 : fieldOff Tryd.prog 35 2 = some 2 := by kernel_rfl
theorem fo35_3 : fieldOff Tryd.prog 35 3 = some 3 := by kernel_rfl
theorem fo35_4 : fieldOff Tryd.prog 35 4 = some 4 := by kernel_rfl
theorem fo63_0 : fieldOff Tryd.prog 63 0 = some 0 := by kernel_rfl
theorem fo63_1 : fieldOff Tryd.prog 63 1 = some 1 := by kernel_rfl
theorem fo68_0 : fieldOff Tryd.prog 68 0 = some 0 := by kernel_rfl
theorem fo68_1 : fieldOff Tryd.prog 68 1 = some 1 := by kernel_rfl
theorem ii29 : isIface Tryd.prog 29 = true := by kernel_rfl
theorem ls129 : ((#[129] : Array TypeId)[0]?).bind Tryd.prog.underlying = some (.slice 29) := by kernel_rfl
theorem ls24 : ((#[24] : Array TypeId)[0]?).bind Tryd.prog.underlying = some (.slice 27) := by kernel_rfl
theorem ls25 : ((#[25] : Array TypeId)[0]?).bind Tryd.prog.underlying = some (.slice 3) := by kernel_rfl
theorem ls53 : ((#[53] : Array TypeId)[0]?).bind Tryd.prog.underlying = some (.slice 9) := by kernel_rfl
theorem ls61 : ((#[61] : Array TypeId)[0]?).bind Tryd.prog.underlying = some (.slice 4) := by kernel_rfl
theorem ls9 : ((#[9] : Array TypeId)[0]?).bind Tryd.prog.underlying = some .string := by kernel_rfl
theorem ni66 : noIface Tryd.prog 66 = true := by kernel_rfl
theorem ni98 : noIface Tryd.prog 98 = true := by kernel_rfl
theorem one24 : oneT Tryd.prog 24 = true := by kernel_rfl
theorem one25 : oneT Tryd.prog 25 = true := by kernel_rfl
theorem one29 : oneT Tryd.prog 29 = true := by kernel_rfl
theorem one3 : oneT Tryd.prog 3 = true := by kernel_rfl
theorem one4 : oneT Tryd.prog 4 = true := by kernel_rfl
theorem one61 : oneT Tryd.prog 61 = true := by kernel_rfl
theorem one9 : oneT Tryd.prog 9 = true := by kernel_rfl
theorem siz25 : sizeT Tryd.prog 25 = some 1 := by kernel_rfl
theorem siz3 : sizeT Tryd.prog 3 = some 1 := by kernel_rfl
theorem siz4 : sizeT Tryd.prog 4 = some 1 := by kernel_rfl
theorem siz9 : sizeT Tryd.prog 9 = some 1 := by kernel_rfl
theorem st9 : Tryd.prog.underlying 9 = some .string := by kernel_rfl
theorem za66 : zeroA Tryd.prog 66 = some (.tup [.lit (.pointer none), .lit (.bool false)]) := by kernel_rfl
theorem za98 : zeroA Tryd.prog 98 = some (.tup [.lit (.pointer none), .lit (.bool false)]) := by kernel_rfl
theorem zr27 : ((Tryd.prog.info? 27).bind (·.zero)).map (fun z => z.cells.toList.map AV.lit) = some [.lit (.int .i64 0), .lit (.int .i64 0), .lit (.int .i64 0), .lit (.string ⟨#[]⟩), .lit (.slice none 0 0)] := by kernel_rfl
theorem zr35 : ((Tryd.prog.info? 35).bind (·.zero)).map (fun z => z.cells.toList.map AV.lit) = some [.lit (.int .i64 0), .lit (.bool false), .lit (.int .i64 0), .lit (.bool false), .lit (.string ⟨#[]⟩)] := by kernel_rfl
end Go.Proofs.YtggoogbloaennaaDoor.Trf
