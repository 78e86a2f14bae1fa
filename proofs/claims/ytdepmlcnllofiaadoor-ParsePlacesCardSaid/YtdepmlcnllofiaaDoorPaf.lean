/-
  Proved here: closed facts about the program's types and functions that a machine of mine asks for.
-/
import Derived.Test.YtdepmlcnllofiaaDoorEyS
import Derived.Test.YtdepmlcnllofiaaDoorProg
namespace Go.Proofs.YtdepmlcnllofiaaDoor.Paf
open Go.EY Go.EX Go.SX Go.RowKit
theorem agg31 : aggT Tryd.prog 31 = some 5 := by kernel_rfl
theorem agg36 : aggT Tryd.prog 36 = some 5 := by kernel_rfl
theorem agg56 : aggT Tryd.prog 56 = some 1 := by kernel_rfl
theorem agg68 : aggT Tryd.prog 68 = some 3 := by kernel_rfl
theorem cp108 : CmpT Tryd.prog 108 124 := CmpT.of (by kernel_rfl) (by kernel_rfl) (by kernel_rfl)
theorem el23 : elemT Tryd.prog 23 = some (31, 5, 64, .agg #[.int .i64 0, .int .i64 0, .int .i64 0, .string ⟨#[]⟩, .slice none 0 0]) := by kernel_rfl
theorem el29 : elemT Tryd.prog 29 = some (3, 1, 8, .int .i64 0) := by kernel_rfl
theorem el33 : elemT Tryd.prog 33 = some (9, 1, 16, .string ⟨#[]⟩) := by kernel_rfl
theorem el47 : elemT Tryd.prog 47 = some (68, 3, 32, .agg #[.int .i64 0, .string ⟨#[]⟩, .int .i64 0]) := by kernel_rfl
theorem el70 : elemT Tryd.prog 70 = some (5, 1, 1, .int .u8 0) := by kernel_rfl
theorem el88 : elemT Tryd.prog 88 = some (25, 1, 16, .nilIface) := by kernel_rfl
theorem en24 : Enters Tryd.prog 24 := Enters.of Tryd.func24 (by kernel_rfl) (by kernel_rfl)
theorem fo31_0 : fieldOff Tryd.prog 31 0 = some 0 := by kernel_rfl
theorem fo31_2 : fieldOff Tryd.prog 31 2 = some 2 := by kernel_rfl
theorem fo31_4 : fieldOff Tryd.prog 31 4 = some 4 := by kernel_rfl
theorem fo36_0 : fieldOff Tryd.prog 36 0 = some 0 := by kernel_rfl
theorem fo36_1 : fieldOff Tryd.prog 36 1 = some 1 := by kernel_rfl
theorem fo36_2 : fieldOff Tryd.prog 36 2 = some 2 := by kernel_rfl
theorem fo36_3 : fieldOff Tryd.prog 36 3 = some 3 := by kernel_rfl
theorem fo36_4 : fieldOff Tryd.prog 36 4 = some 4 := by kernel_rfl
theorem fo49_0 : fieldOff Tryd.prog 49 0 = some 0 := by kernel_rfl
theorem fo49_1 : fieldOff Tryd.prog 49 1 = some 1 := by kernel_rfl
theorem fo49_2 : fieldOff Tryd.prog 49 2 = some 2 := by kernel_rfl
theorem fo49_3 : fieldOff Tryd.prog 49 3 = some 3 := by kernel_rfl
theorem fo49_4 : fieldOff Tryd.prog 49 4 = some 4 := by kernel_rfl
theorem fo49_5 : fieldOff Tryd.prog 49 5 = some 5 := by kernel_rfl
theorem fo56_0 : fieldOff Tryd.prog 56 0 = some 0 := by kernel_rfl
theorem fo63_0 : fieldOff Tryd.prog 63 0 = some 0 := by kernel_rfl
theorem fo63_1 : fieldOff Tryd.prog 63 1 = some 1 := by kernel_rfl
theorem fo68_0 : fieldOff Tryd.prog 68 0 = some 0 := by kernel_rfl
theorem fo68_1 : fieldOff Tryd.prog 68 1 = some 1 := by kernel_rfl
theorem fo68_2 : fieldOff Tryd.prog 68 2 = some 2 := by kernel_rfl
theorem fo72_0 : fieldOff Tryd.prog 72 0 = some 0 := by kernel_rfl
theorem fo72_1 : fieldOff Tryd.prog 72 1 = some 1 := by kernel_rfl
theorem fo72_2 : fieldOff Tryd.prog 72 2 = some 2 := by kernel_rfl
theorem fo72_3 : fieldOff Tryd.prog 72 3 = some 3 := by kernel_rfl
theorem fo72_4 : fieldOff Tryd.prog 72 4 = some 4 := by kernel_rfl
theorem fo72_5 : fieldOff Tryd.prog 72 5 = some 5 := by kernel_rfl
theorem fo80_0 : fieldOff Tryd.prog 80 0 = some 0 := by kernel_rfl
theorem fo80_1 : fieldOff Tryd.prog 80 1 = some 1 := by kernel_rfl
theorem ibe87 (args : Array Value) (w : World) : (callFunc 87 args).run Tryd.prog w = ((do let v ← Extern.BytealgIndexByte.indexByte args; pure (Next.value v)) : Sem Next).run Tryd.prog w := by kernel_rfl
theorem ibf87 {W : World → Prop} {ρ : Rho} {af : AF} {r : AR} {T' : HT} {n' c : Nat} {x y : Operand} {a b : AV} {k : AV → R} {ats : Array TypeId} (h : ibsK c a b k = .ok r T' n') (hx : evalA af x = some a) (hy : evalA af y = some b) : ∃ v, k v = .ok r T' n' ∧ VAL Tryd.prog W ρ af (.call { callee := .value (.func 87), args := #[x, y], argTypes := ats }) v :=
  ibs_of (fun s q w => by
    rw [ibe87, Sem.run_bind]
    have := Lib.run_indexByteString (P := Tryd.prog) s (q : Int) w
    rw [this]
    simp) h hx hy
theorem ii25 : isIface Tryd.prog 25 = true := by kernel_rfl
theorem ls23 : ((#[23] : Array TypeId)[0]?).bind Tryd.prog.underlying = some (.slice 31) := by kernel_rfl
theorem ls29 : ((#[29] : Array TypeId)[0]?).bind Tryd.prog.underlying = some (.slice 3) := by kernel_rfl
theorem ls33 : ((#[33] : Array TypeId)[0]?).bind Tryd.prog.underlying = some (.slice 9) := by kernel_rfl
theorem ls47 : ((#[47] : Array TypeId)[0]?).bind Tryd.prog.underlying = some (.slice 68) := by kernel_rfl
theorem ls70 : ((#[70] : Array TypeId)[0]?).bind Tryd.prog.underlying = some (.slice 5) := by kernel_rfl
theorem ls88 : ((#[88] : Array TypeId)[0]?).bind Tryd.prog.underlying = some (.slice 25) := by kernel_rfl
theorem ls9 : ((#[9] : Array TypeId)[0]?).bind Tryd.prog.underlying = some .string := by kernel_rfl
theorem ni54 : noIface Tryd.prog 54 = true := by kernel_rfl
theorem ni56 : noIface Tryd.prog 56 = true := by kernel_rfl
theorem ni60 : noIface Tryd.prog 60 = true := by kernel_rfl
theorem one23 : oneT Tryd.prog 23 = true := by kernel_rfl
theorem one25 : oneT Tryd.prog 25 = true := by kernel_rfl
theorem one29 : oneT Tryd.prog 29 = true := by kernel_rfl
theorem one3 : oneT Tryd.prog 3 = true := by kernel_rfl
theorem one4 : oneT Tryd.prog 4 = true := by kernel_rfl
theorem one47 : oneT Tryd.prog 47 = true := by kernel_rfl
theorem one5 : oneT Tryd.prog 5 = true := by kernel_rfl
theorem one54 : oneT Tryd.prog 54 = true := by kernel_rfl
theorem one70 : oneT Tryd.prog 70 = true := by kernel_rfl
theorem one9 : oneT Tryd.prog 9 = true := by kernel_rfl
theorem siz23 : sizeT Tryd.prog 23 = some 1 := by kernel_rfl
theorem siz25 : sizeT Tryd.prog 25 = some 1 := by kernel_rfl
theorem siz29 : sizeT Tryd.prog 29 = some 1 := by kernel_rfl
theorem siz3 : sizeT Tryd.prog 3 = some 1 := by kernel_rfl
theorem siz4 : sizeT Tryd.prog 4 = some 1 := by kernel_rfl
theorem siz47 : sizeT Tryd.prog 47 = some 1 := by kernel_rfl
theorem siz70 : sizeT Tryd.prog 70 = some 1 := by kernel_rfl
theorem slt70 : Tryd.prog.underlying 70 = some (.slice 5) := by kernel_rfl
theorem st9 : Tryd.prog.underlying 9 = some .string := by kernel_rfl
theorem u8t5 : Tryd.prog.underlying 5 = some (.int .u8) := by kernel_rfl
theorem za54 : zeroA Tryd.prog 54 = some (.tup [.lit (.pointer none), .lit (.bool false)]) := by kernel_rfl
theorem za56 : zeroA Tryd.prog 56 = some (.tup [.lit (.agg #[.pointer none]), .lit (.bool false)]) := by kernel_rfl
theorem za60 : zeroA Tryd.prog 60 = some (.tup [.lit (.pointer none), .lit (.bool false)]) := by kernel_rfl
theorem zr23 : ((Tryd.prog.info? 23).bind (·.zero)).map (fun z => z.cells.toList.map AV.lit) = some [.lit (.slice none 0 0)] := by kernel_rfl
theorem zr25 : ((Tryd.prog.info? 25).bind (·.zero)).map (fun z => z.cells.toList.map AV.lit) = some [.lit (.nilIface)] := by kernel_rfl
theorem zr31 : ((Tryd.prog.info? 31).bind (·.zero)).map (fun z => z.cells.toList.map AV.lit) = some [.lit (.int .i64 0), .lit (.int .i64 0), .lit (.int .i64 0), .lit (.string ⟨#[]⟩), .lit (.slice none 0 0)] := by kernel_rfl
theorem zr36 : ((Tryd.prog.info? 36).bind (·.zero)).map (fun z => z.cells.toList.map AV.lit) = some [.lit (.int .i64 0), .lit (.bool false), .lit (.int .i64 0), .lit (.bool false), .lit (.string ⟨#[]⟩)] := by kernel_rfl
theorem zr56 : ((Tryd.prog.info? 56).bind (·.zero)).map (fun z => z.cells.toList.map AV.lit) = some [.lit (.pointer none)] := by kernel_rfl
theorem zr68 : ((Tryd.prog.info? 68).bind (·.zero)).map (fun z => z.cells.toList.map AV.lit) = some [.lit (.int .i64 0), .lit (.string ⟨#[]⟩), .lit (.int .i64 0)] := by kernel_rfl
end Go.Proofs.YtdepmlcnllofiaaDoor.Paf
