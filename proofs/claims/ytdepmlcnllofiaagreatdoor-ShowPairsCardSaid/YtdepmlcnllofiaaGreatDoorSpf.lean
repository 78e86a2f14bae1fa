/-
  Proved here: closed facts about the program's types and functions that a machine of mine asks for.
-/
import Derived.Test.YtdepmlcnllofiaaGreatDoorEySS
import Derived.Test.YtdepmlcnllofiaaGreatDoorProg
namespace Go.Proofs.YtdepmlcnllofiaaGreatDoor.Spf
open Go.EY Go.EX Go.SX Go.RowKit
theorem agg102 : aggT Tryz.prog 102 = some 2 := by kernel_rfl
theorem agg123 : aggT Tryz.prog 123 = some 1 := by kernel_rfl
theorem agg139 : aggT Tryz.prog 139 = some 3 := by kernel_rfl
theorem agg32 : aggT Tryz.prog 32 = some 5 := by kernel_rfl
theorem agg36 : aggT Tryz.prog 36 = some 5 := by kernel_rfl
theorem co5 : Tryz.prog.cellsOf 5 = 1 := by kernel_rfl
theorem cp253 : CmpT Tryz.prog 253 267 := CmpT.of (by kernel_rfl) (by kernel_rfl) (by kernel_rfl)
theorem el103 : elemT Tryz.prog 103 = some (102, 2, 16, .agg #[.int .i64 0, .int .i64 0]) := by kernel_rfl
theorem el179 : elemT Tryz.prog 179 = some (25, 1, 16, .nilIface) := by kernel_rfl
theorem el23 : elemT Tryz.prog 23 = some (32, 5, 64, .agg #[.int .i64 0, .int .i64 0, .int .i64 0, .string ⟨#[]⟩, .slice none 0 0]) := by kernel_rfl
theorem el30 : elemT Tryz.prog 30 = some (3, 1, 8, .int .i64 0) := by kernel_rfl
theorem el46 : elemT Tryz.prog 46 = some (9, 1, 16, .string ⟨#[]⟩) := by kernel_rfl
theorem el67 : elemT Tryz.prog 67 = some (4, 1, 1, .bool false) := by kernel_rfl
theorem el88 : elemT Tryz.prog 88 = some (5, 1, 1, .int .u8 0) := by kernel_rfl
theorem el96 : elemT Tryz.prog 96 = some (139, 3, 32, .agg #[.int .i64 0, .string ⟨#[]⟩, .int .i64 0]) := by kernel_rfl
theorem en63 : Enters Tryz.prog 63 := Enters.of Tryz.func63 (by kernel_rfl) (by kernel_rfl)
theorem fo102_0 : fieldOff Tryz.prog 102 0 = some 0 := by kernel_rfl
theorem fo102_1 : fieldOff Tryz.prog 102 1 = some 1 := by kernel_rfl
theorem fo139_0 : fieldOff Tryz.prog 139 0 = some 0 := by kernel_rfl
theorem fo139_1 : fieldOff Tryz.prog 139 1 = some 1 := by kernel_rfl
theorem fo139_2 : fieldOff Tryz.prog 139 2 = some 2 := by kernel_rfl
theorem fo168_0 : fieldOff Tryz.prog 168 0 = some 0 := by kernel_rfl
theorem fo168_1 : fieldOff Tryz.prog 168 1 = some 1 := by kernel_rfl
theorem fo168_2 : fieldOff Tryz.prog 168 2 = some 2 := by kernel_rfl
theorem fo168_3 : fieldOff Tryz.prog 168 3 = some 3 := by kernel_rfl
theorem fo168_4 : fieldOff Tryz.prog 168 4 = some 4 := by kernel_rfl
theorem fo168_5 : fieldOff Tryz.prog 168 5 = some 5 := by kernel_rfl
theorem fo32_0 : fieldOff Tryz.prog 32 0 = some 0 := by kernel_rfl
theorem fo32_1 : fieldOff Tryz.prog 32 1 = some 1 := by kernel_rfl
theorem fo32_3 : fieldOff Tryz.prog 32 3 = some 3 := by kernel_rfl
theorem fo32_4 : fieldOff Tryz.prog 32 4 = some 4 := by kernel_rfl
theorem fo36_0 : fieldOff Tryz.prog 36 0 = some 0 := by kernel_rfl
theorem fo36_1 : fieldOff Tryz.prog 36 1 = some 1 := by kernel_rfl
theorem fo36_2 : fieldOff Tryz.prog 36 2 = some 2 := by kernel_rfl
theorem fo36_3 : fieldOff Tryz.prog 36 3 = some 3 := by kernel_rfl
theorem fo36_4 : fieldOff Tryz.prog 36 4 = some 4 := by kernel_rfl
theorem fo69_0 : fieldOff Tryz.prog 69 0 = some 0 := by kernel_rfl
theorem fo69_1 : fieldOff Tryz.prog 69 1 = some 1 := by kernel_rfl
theorem fo74_0 : fieldOff Tryz.prog 74 0 = some 0 := by kernel_rfl
theorem fo74_1 : fieldOff Tryz.prog 74 1 = some 1 := by kernel_rfl
theorem fo83_0 : fieldOff Tryz.prog 83 0 = some 0 := by kernel_rfl
theorem fo83_1 : fieldOff Tryz.prog 83 1 = some 1 := by kernel_rfl
theorem fo90_0 : fieldOff Tryz.prog 90 0 = some 0 := by kernel_rfl
theorem fo90_1 : fieldOff Tryz.prog 90 1 = some 1 := by kernel_rfl
theorem fo92_0 : fieldOff Tryz.prog 92 0 = some 0 := by kernel_rfl
theorem fo92_1 : fieldOff Tryz.prog 92 1 = some 1 := by kernel_rfl
theorem fo92_2 : fieldOff Tryz.prog 92 2 = some 3 := by kernel_rfl
theorem fo98_0 : fieldOff Tryz.prog 98 0 = some 0 := by kernel_rfl
theorem fo98_1 : fieldOff Tryz.prog 98 1 = some 1 := by kernel_rfl
theorem fo98_2 : fieldOff Tryz.prog 98 2 = some 2 := by kernel_rfl
theorem fo98_3 : fieldOff Tryz.prog 98 3 = some 3 := by kernel_rfl
theorem ibe234 (args : Array Value) (w : World) : (callFunc 234 args).run Tryz.prog w = ((do let v ← Extern.BytealgIndexByte.indexByte args; pure (Next.value v)) : Sem Next).run Tryz.prog w := by kernel_rfl
theorem ibf234 {W : World → Prop} {ρ : Rho} {af : AF} {r : AR} {T' : HT} {n' c : Nat} {x y : Operand} {a b : AV} {k : AV → R} {ats : Array TypeId} (h : ibsK c a b k = .ok r T' n') (hx : evalA af x = some a) (hy : evalA af y = some b) : ∃ v, k v = .ok r T' n' ∧ VAL Tryz.prog W ρ af (.call { callee := .value (.func 234), args := #[x, y], argTypes := ats }) v :=
  ibs_of (fun s q w => by
    rw [ibe234, Sem.run_bind]
    have := Lib.run_indexByteString (P := Tryz.prog) s (q : Int) w
    rw [this]
    simp) h hx hy
theorem ii25 : isIface Tryz.prog 25 = true := by kernel_rfl
theorem inf90 : (Tryz.prog.info? 90).isSome = true := by kernel_rfl
theorem ls103 : ((#[103] : Array TypeId)[0]?).bind Tryz.prog.underlying = some (.slice 102) := by kernel_rfl
theorem ls179 : ((#[179] : Array TypeId)[0]?).bind Tryz.prog.underlying = some (.slice 25) := by kernel_rfl
theorem ls23 : ((#[23] : Array TypeId)[0]?).bind Tryz.prog.underlying = some (.slice 32) := by kernel_rfl
theorem ls30 : ((#[30] : Array TypeId)[0]?).bind Tryz.prog.underlying = some (.slice 3) := by kernel_rfl
theorem ls46 : ((#[46] : Array TypeId)[0]?).bind Tryz.prog.underlying = some (.slice 9) := by kernel_rfl
theorem ls67 : ((#[67] : Array TypeId)[0]?).bind Tryz.prog.underlying = some (.slice 4) := by kernel_rfl
theorem ls88 : ((#[88] : Array TypeId)[0]?).bind Tryz.prog.underlying = some (.slice 5) := by kernel_rfl
theorem ls9 : ((#[9] : Array TypeId)[0]?).bind Tryz.prog.underlying = some .string := by kernel_rfl
theorem ni123 : noIface Tryz.prog 123 = true := by kernel_rfl
theorem ni72 : noIface Tryz.prog 72 = true := by kernel_rfl
theorem ni80 : noIface Tryz.prog 80 = true := by kernel_rfl
theorem one23 : oneT Tryz.prog 23 = true := by kernel_rfl
theorem one25 : oneT Tryz.prog 25 = true := by kernel_rfl
theorem one3 : oneT Tryz.prog 3 = true := by kernel_rfl
theorem one30 : oneT Tryz.prog 30 = true := by kernel_rfl
theorem one4 : oneT Tryz.prog 4 = true := by kernel_rfl
theorem one5 : oneT Tryz.prog 5 = true := by kernel_rfl
theorem one67 : oneT Tryz.prog 67 = true := by kernel_rfl
theorem one87 : oneT Tryz.prog 87 = true := by kernel_rfl
theorem one88 : oneT Tryz.prog 88 = true := by kernel_rfl
theorem one9 : oneT Tryz.prog 9 = true := by kernel_rfl
theorem one96 : oneT Tryz.prog 96 = true := by kernel_rfl
theorem pt186 : Tryz.prog.underlying 186 = some (.pointer 5) := by kernel_rfl
theorem pt87 : Tryz.prog.underlying 87 = some (.pointer 90) := by kernel_rfl
theorem same216 (v : Value) (w : World) : (callFunc 216 #[v]).run Tryz.prog w = .ok (.value v) w := by
  have h : (callFunc 216 #[v]).run Tryz.prog w = ((do let v ← Extern.AbiNoEscape.same #[v]; pure (Next.value v)) : Sem Next).run Tryz.prog w := by kernel_rfl
  rw [h]; rfl
theorem siz23 : sizeT Tryz.prog 23 = some 1 := by kernel_rfl
theorem siz25 : sizeT Tryz.prog 25 = some 1 := by kernel_rfl
theorem siz3 : sizeT Tryz.prog 3 = some 1 := by kernel_rfl
theorem siz30 : sizeT Tryz.prog 30 = some 1 := by kernel_rfl
theorem siz4 : sizeT Tryz.prog 4 = some 1 := by kernel_rfl
theorem siz87 : sizeT Tryz.prog 87 = some 1 := by kernel_rfl
theorem siz88 : sizeT Tryz.prog 88 = some 1 := by kernel_rfl
theorem siz96 : sizeT Tryz.prog 96 = some 1 := by kernel_rfl
theorem st9 : Tryz.prog.underlying 9 = some .string := by kernel_rfl
theorem un240 : Tryz.prog.underlying 240 = some .unsafePointer := by kernel_rfl
theorem usz90 : ((Tryz.prog.info? 90).map fun j => Nat.blt 0 j.size) = some true := by kernel_rfl
theorem za123 : zeroA Tryz.prog 123 = some (.tup [.lit (.agg #[.pointer none]), .lit (.bool false)]) := by kernel_rfl
theorem za72 : zeroA Tryz.prog 72 = some (.tup [.lit (.pointer none), .lit (.bool false)]) := by kernel_rfl
theorem za80 : zeroA Tryz.prog 80 = some (.tup [.lit (.pointer none), .lit (.bool false)]) := by kernel_rfl
theorem zr102 : ((Tryz.prog.info? 102).bind (·.zero)).map (fun z => z.cells.toList.map AV.lit) = some [.lit (.int .i64 0), .lit (.int .i64 0)] := by kernel_rfl
theorem zr123 : ((Tryz.prog.info? 123).bind (·.zero)).map (fun z => z.cells.toList.map AV.lit) = some [.lit (.pointer none)] := by kernel_rfl
theorem zr139 : ((Tryz.prog.info? 139).bind (·.zero)).map (fun z => z.cells.toList.map AV.lit) = some [.lit (.int .i64 0), .lit (.string ⟨#[]⟩), .lit (.int .i64 0)] := by kernel_rfl
theorem zr23 : ((Tryz.prog.info? 23).bind (·.zero)).map (fun z => z.cells.toList.map AV.lit) = some [.lit (.slice none 0 0)] := by kernel_rfl
theorem zr25 : ((Tryz.prog.info? 25).bind (·.zero)).map (fun z => z.cells.toList.map AV.lit) = some [.lit (.nilIface)] := by kernel_rfl
theorem zr32 : ((Tryz.prog.info? 32).bind (·.zero)).map (fun z => z.cells.toList.map AV.lit) = some [.lit (.int .i64 0), .lit (.int .i64 0), .lit (.int .i64 0), .lit (.string ⟨#[]⟩), .lit (.slice none 0 0)] := by kernel_rfl
theorem zr36 : ((Tryz.prog.info? 36).bind (·.zero)).map (fun z => z.cells.toList.map AV.lit) = some [.lit (.int .i64 0), .lit (.bool false), .lit (.int .i64 0), .lit (.bool false), .lit (.string ⟨#[]⟩)] := by kernel_rfl
end Go.Proofs.YtdepmlcnllofiaaGreatDoor.Spf
