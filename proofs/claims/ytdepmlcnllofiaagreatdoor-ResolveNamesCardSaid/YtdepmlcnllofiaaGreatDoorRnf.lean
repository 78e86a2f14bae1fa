/-
  Proved here: closed facts about the program's types and functions that a machine of mine asks for.
-/
import Derived.Test.YtdepmlcnllofiaaGreatDoorEyRS
import Derived.Test.YtdepmlcnllofiaaGreatDoorProg
namespace Go.Proofs.YtdepmlcnllofiaaGreatDoor.Rnf
open Go.EY Go.EX Go.SX Go.RowKit
theorem agg123 : aggT Tryz.prog 123 = some 1 := by kernel_rfl
theorem agg139 : aggT Tryz.prog 139 = some 3 := by kernel_rfl
theorem agg155 : aggT Tryz.prog 155 = some 2 := by kernel_rfl
theorem agg32 : aggT Tryz.prog 32 = some 5 := by kernel_rfl
theorem agg36 : aggT Tryz.prog 36 = some 5 := by kernel_rfl
theorem agg56 : aggT Tryz.prog 56 = some 4 := by kernel_rfl
theorem agg58 : aggT Tryz.prog 58 = some 3 := by kernel_rfl
theorem cp253 : CmpT Tryz.prog 253 267 := CmpT.of (by kernel_rfl) (by kernel_rfl) (by kernel_rfl)
theorem el150 : elemT Tryz.prog 150 = some (155, 2, 24, .agg #[.int .i64 0, .string ⟨#[]⟩]) := by kernel_rfl
theorem el179 : elemT Tryz.prog 179 = some (25, 1, 16, .nilIface) := by kernel_rfl
theorem el23 : elemT Tryz.prog 23 = some (32, 5, 64, .agg #[.int .i64 0, .int .i64 0, .int .i64 0, .string ⟨#[]⟩, .slice none 0 0]) := by kernel_rfl
theorem el30 : elemT Tryz.prog 30 = some (3, 1, 8, .int .i64 0) := by kernel_rfl
theorem el46 : elemT Tryz.prog 46 = some (9, 1, 16, .string ⟨#[]⟩) := by kernel_rfl
theorem el50 : elemT Tryz.prog 50 = some (58, 3, 24, .agg #[.int .i64 0, .int .i64 0, .int .i64 0]) := by kernel_rfl
theorem el51 : elemT Tryz.prog 51 = some (56, 4, 48, .agg #[.int .i64 0, .int .i64 0, .int .i64 0, .slice none 0 0]) := by kernel_rfl
theorem el67 : elemT Tryz.prog 67 = some (4, 1, 1, .bool false) := by kernel_rfl
theorem el88 : elemT Tryz.prog 88 = some (5, 1, 1, .int .u8 0) := by kernel_rfl
theorem el96 : elemT Tryz.prog 96 = some (139, 3, 32, .agg #[.int .i64 0, .string ⟨#[]⟩, .int .i64 0]) := by kernel_rfl
theorem en63 : Enters Tryz.prog 63 := Enters.of Tryz.func63 (by kernel_rfl) (by kernel_rfl)
theorem fo114_0 : fieldOff Tryz.prog 114 0 = some 0 := by kernel_rfl
theorem fo114_1 : fieldOff Tryz.prog 114 1 = some 1 := by kernel_rfl
theorem fo114_2 : fieldOff Tryz.prog 114 2 = some 2 := by kernel_rfl
theorem fo114_3 : fieldOff Tryz.prog 114 3 = some 3 := by kernel_rfl
theorem fo114_4 : fieldOff Tryz.prog 114 4 = some 4 := by kernel_rfl
theorem fo114_5 : fieldOff Tryz.prog 114 5 = some 5 := by kernel_rfl
theorem fo114_6 : fieldOff Tryz.prog 114 6 = some 6 := by kernel_rfl
theorem fo139_0 : fieldOff Tryz.prog 139 0 = some 0 := by kernel_rfl
theorem fo139_1 : fieldOff Tryz.prog 139 1 = some 1 := by kernel_rfl
theorem fo139_2 : fieldOff Tryz.prog 139 2 = some 2 := by kernel_rfl
theorem fo155_0 : fieldOff Tryz.prog 155 0 = some 0 := by kernel_rfl
theorem fo155_1 : fieldOff Tryz.prog 155 1 = some 1 := by kernel_rfl
theorem fo168_0 : fieldOff Tryz.prog 168 0 = some 0 := by kernel_rfl
theorem fo168_1 : fieldOff Tryz.prog 168 1 = some 1 := by kernel_rfl
theorem fo168_2 : fieldOff Tryz.prog 168 2 = some 2 := by kernel_rfl
theorem fo168_3 : fieldOff Tryz.prog 168 3 = some 3 := by kernel_rfl
theorem fo168_4 : fieldOff Tryz.prog 168 4 = some 4 := by kernel_rfl
theorem fo168_5 : fieldOff Tryz.prog 168 5 = some 5 := by kernel_rfl
theorem fo197_0 : fieldOff Tryz.prog 197 0 = some 0 := by kernel_rfl
theorem fo197_1 : fieldOff Tryz.prog 197 1 = some 1 := by kernel_rfl
theorem fo197_2 : fieldOff Tryz.prog 197 2 = some 2 := by kernel_rfl
theorem fo32_0 : fieldOff Tryz.prog 32 0 = some 0 := by kernel_rfl
theorem fo32_1 : fieldOff Tryz.prog 32 1 = some 1 := by kernel_rfl
theorem fo32_2 : fieldOff Tryz.prog 32 2 = some 2 := by kernel_rfl
theorem fo32_3 : fieldOff Tryz.prog 32 3 = some 3 := by kernel_rfl
theorem fo32_4 : fieldOff Tryz.prog 32 4 = some 4 := by kernel_rfl
theorem fo36_0 : fieldOff Tryz.prog 36 0 = some 0 := by kernel_rfl
theorem fo36_1 : fieldOff Tryz.prog 36 1 = some 1 := by kernel_rfl
theorem fo36_2 : fieldOff Tryz.prog 36 2 = some 2 := by kernel_rfl
theorem fo36_3 : fieldOff Tryz.prog 36 3 = some 3 := by kernel_rfl
theorem fo36_4 : fieldOff Tryz.prog 36 4 = some 4 := by kernel_rfl
theorem fo56_0 : fieldOff Tryz.prog 56 0 = some 0 := by kernel_rfl
theorem fo56_2 : fieldOff Tryz.prog 56 2 = some 2 := by kernel_rfl
theorem fo56_3 : fieldOff Tryz.prog 56 3 = some 3 := by kernel_rfl
theorem fo58_0 : fieldOff Tryz.prog 58 0 = some 0 := by kernel_rfl
theorem fo58_1 : fieldOff Tryz.prog 58 1 = some 1 := by kernel_rfl
theorem fo58_2 : fieldOff Tryz.prog 58 2 = some 2 := by kernel_rfl
theorem fo69_0 : fieldOff Tryz.prog 69 0 = some 0 := by kernel_rfl
theorem fo69_1 : fieldOff Tryz.prog 69 1 = some 1 := by kernel_rfl
theorem fo74_0 : fieldOff Tryz.prog 74 0 = some 0 := by kernel_rfl
theorem fo74_1 : fieldOff Tryz.prog 74 1 = some 1 := by kernel_rfl
theorem fo83_0 : fieldOff Tryz.prog 83 0 = some 0 := by kernel_rfl
theorem fo83_1 : fieldOff Tryz.prog 83 1 = some 1 := by kernel_rfl
theorem fo98_0 : fieldOff Tryz.prog 98 0 = some 0 := by kernel_rfl
theorem fo98_1 : fieldOff Tryz.prog 98 1 = some 1 := by kernel_rfl
theorem fo98_2 : fieldOff Tryz.prog 98 2 = some 2 := by kernel_rfl
theorem fo98_3 : fieldOff Tryz.prog 98 3 = some 3 := by kernel_rfl
theorem fo98_4 : fieldOff Tryz.prog 98 4 = some 4 := by kernel_rfl
theorem fo98_5 : fieldOff Tryz.prog 98 5 = some 5 := by kernel_rfl
theorem ibe234 (args : Array Value) (w : World) : (callFunc 234 args).run Tryz.prog w = ((do let v ← Extern.BytealgIndexByte.indexByte args; pure (Next.value v)) : Sem Next).run Tryz.prog w := by kernel_rfl
theorem ibf234 {W : World → Prop} {ρ : Rho} {af : AF} {r : AR} {T' : HT} {n' c : Nat} {x y : Operand} {a b : AV} {k : AV → R} {ats : Array TypeId} (h : ibsK c a b k = .ok r T' n') (hx : evalA af x = some a) (hy : evalA af y = some b) : ∃ v, k v = .ok r T' n' ∧ VAL Tryz.prog W ρ af (.call { callee := .value (.func 234), args := #[x, y], argTypes := ats }) v :=
  ibs_of (fun s q w => by
    rw [ibe234, Sem.run_bind]
    have := Lib.run_indexByteString (P := Tryz.prog) s (q : Int) w
    rw [this]
    simp) h hx hy
theorem ii25 : isIface Tryz.prog 25 = true := by kernel_rfl
theorem ls150 : ((#[150] : Array TypeId)[0]?).bind Tryz.prog.underlying = some (.slice 155) := by kernel_rfl
theorem ls179 : ((#[179] : Array TypeId)[0]?).bind Tryz.prog.underlying = some (.slice 25) := by kernel_rfl
theorem ls23 : ((#[23] : Array TypeId)[0]?).bind Tryz.prog.underlying = some (.slice 32) := by kernel_rfl
theorem ls30 : ((#[30] : Array TypeId)[0]?).bind Tryz.prog.underlying = some (.slice 3) := by kernel_rfl
theorem ls46 : ((#[46] : Array TypeId)[0]?).bind Tryz.prog.underlying = some (.slice 9) := by kernel_rfl
theorem ls50 : ((#[50] : Array TypeId)[0]?).bind Tryz.prog.underlying = some (.slice 58) := by kernel_rfl
theorem ls51 : ((#[51] : Array TypeId)[0]?).bind Tryz.prog.underlying = some (.slice 56) := by kernel_rfl
theorem ls67 : ((#[67] : Array TypeId)[0]?).bind Tryz.prog.underlying = some (.slice 4) := by kernel_rfl
theorem ls88 : ((#[88] : Array TypeId)[0]?).bind Tryz.prog.underlying = some (.slice 5) := by kernel_rfl
theorem ls9 : ((#[9] : Array TypeId)[0]?).bind Tryz.prog.underlying = some .string := by kernel_rfl
theorem ls96 : ((#[96] : Array TypeId)[0]?).bind Tryz.prog.underlying = some (.slice 139) := by kernel_rfl
theorem ni123 : noIface Tryz.prog 123 = true := by kernel_rfl
theorem ni72 : noIface Tryz.prog 72 = true := by kernel_rfl
theorem ni80 : noIface Tryz.prog 80 = true := by kernel_rfl
theorem one150 : oneT Tryz.prog 150 = true := by kernel_rfl
theorem one158 : oneT Tryz.prog 158 = true := by kernel_rfl
theorem one23 : oneT Tryz.prog 23 = true := by kernel_rfl
theorem one25 : oneT Tryz.prog 25 = true := by kernel_rfl
theorem one3 : oneT Tryz.prog 3 = true := by kernel_rfl
theorem one30 : oneT Tryz.prog 30 = true := by kernel_rfl
theorem one4 : oneT Tryz.prog 4 = true := by kernel_rfl
theorem one46 : oneT Tryz.prog 46 = true := by kernel_rfl
theorem one5 : oneT Tryz.prog 5 = true := by kernel_rfl
theorem one50 : oneT Tryz.prog 50 = true := by kernel_rfl
theorem one51 : oneT Tryz.prog 51 = true := by kernel_rfl
theorem one67 : oneT Tryz.prog 67 = true := by kernel_rfl
theorem one88 : oneT Tryz.prog 88 = true := by kernel_rfl
theorem one9 : oneT Tryz.prog 9 = true := by kernel_rfl
theorem one96 : oneT Tryz.prog 96 = true := by kernel_rfl
theorem siz150 : sizeT Tryz.prog 150 = some 1 := by kernel_rfl
theorem siz23 : sizeT Tryz.prog 23 = some 1 := by kernel_rfl
theorem siz25 : sizeT Tryz.prog 25 = some 1 := by kernel_rfl
theorem siz3 : sizeT Tryz.prog 3 = some 1 := by kernel_rfl
theorem siz30 : sizeT Tryz.prog 30 = some 1 := by kernel_rfl
theorem siz4 : sizeT Tryz.prog 4 = some 1 := by kernel_rfl
theorem siz46 : sizeT Tryz.prog 46 = some 1 := by kernel_rfl
theorem siz50 : sizeT Tryz.prog 50 = some 1 := by kernel_rfl
theorem siz51 : sizeT Tryz.prog 51 = some 1 := by kernel_rfl
theorem siz88 : sizeT Tryz.prog 88 = some 1 := by kernel_rfl
theorem siz96 : sizeT Tryz.prog 96 = some 1 := by kernel_rfl
theorem slt46 : Tryz.prog.underlying 46 = some (.slice 9) := by kernel_rfl
theorem st9 : Tryz.prog.underlying 9 = some .string := by kernel_rfl
theorem za123 : zeroA Tryz.prog 123 = some (.tup [.lit (.agg #[.pointer none]), .lit (.bool false)]) := by kernel_rfl
theorem za72 : zeroA Tryz.prog 72 = some (.tup [.lit (.pointer none), .lit (.bool false)]) := by kernel_rfl
theorem za80 : zeroA Tryz.prog 80 = some (.tup [.lit (.pointer none), .lit (.bool false)]) := by kernel_rfl
theorem zr123 : ((Tryz.prog.info? 123).bind (·.zero)).map (fun z => z.cells.toList.map AV.lit) = some [.lit (.pointer none)] := by kernel_rfl
theorem zr139 : ((Tryz.prog.info? 139).bind (·.zero)).map (fun z => z.cells.toList.map AV.lit) = some [.lit (.int .i64 0), .lit (.string ⟨#[]⟩), .lit (.int .i64 0)] := by kernel_rfl
theorem zr150 : ((Tryz.prog.info? 150).bind (·.zero)).map (fun z => z.cells.toList.map AV.lit) = some [.lit (.slice none 0 0)] := by kernel_rfl
theorem zr155 : ((Tryz.prog.info? 155).bind (·.zero)).map (fun z => z.cells.toList.map AV.lit) = some [.lit (.int .i64 0), .lit (.string ⟨#[]⟩)] := by kernel_rfl
theorem zr23 : ((Tryz.prog.info? 23).bind (·.zero)).map (fun z => z.cells.toList.map AV.lit) = some [.lit (.slice none 0 0)] := by kernel_rfl
theorem zr25 : ((Tryz.prog.info? 25).bind (·.zero)).map (fun z => z.cells.toList.map AV.lit) = some [.lit (.nilIface)] := by kernel_rfl
theorem zr3 : ((Tryz.prog.info? 3).bind (·.zero)).map (fun z => z.cells.toList.map AV.lit) = some [.lit (.int .i64 0)] := by kernel_rfl
theorem zr32 : ((Tryz.prog.info? 32).bind (·.zero)).map (fun z => z.cells.toList.map AV.lit) = some [.lit (.int .i64 0), .lit (.int .i64 0), .lit (.int .i64 0), .lit (.string ⟨#[]⟩), .lit (.slice none 0 0)] := by kernel_rfl
theorem zr36 : ((Tryz.prog.info? 36).bind (·.zero)).map (fun z => z.cells.toList.map AV.lit) = some [.lit (.int .i64 0), .lit (.bool false), .lit (.int .i64 0), .lit (.bool false), .lit (.string ⟨#[]⟩)] := by kernel_rfl
theorem zr58 : ((Tryz.prog.info? 58).bind (·.zero)).map (fun z => z.cells.toList.map AV.lit) = some [.lit (.int .i64 0), .lit (.int .i64 0), .lit (.int .i64 0)] := by kernel_rfl
end Go.Proofs.YtdepmlcnllofiaaGreatDoor.Rnf
