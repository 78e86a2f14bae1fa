/-
  Proved here: closed facts about the program's types and functions that a machine of mine asks for.
-/
import Derived.Test.YtlljgagoboapaaaGreatDoorEyCnS
import Derived.Test.YtlljgagoboapaaaGreatDoorProg
namespace Go.Proofs.YtlljgagoboapaaaGreatDoor.Cnf
open Go.EY Go.EX Go.SX Go.RowKit
theorem agg114 : aggT Tryz.prog 114 = some 4 := by kernel_rfl
theorem agg166 : aggT Tryz.prog 166 = some 3 := by kernel_rfl
theorem agg169 : aggT Tryz.prog 169 = some 4 := by kernel_rfl
theorem agg172 : aggT Tryz.prog 172 = some 5 := by kernel_rfl
theorem agg175 : aggT Tryz.prog 175 = some 6 := by kernel_rfl
theorem agg207 : aggT Tryz.prog 207 = some 1 := by kernel_rfl
theorem agg226 : aggT Tryz.prog 226 = some 2 := by kernel_rfl
theorem agg233 : aggT Tryz.prog 233 = some 3 := by kernel_rfl
theorem agg264 : aggT Tryz.prog 264 = some 2 := by kernel_rfl
theorem agg60 : aggT Tryz.prog 60 = some 4 := by kernel_rfl
theorem el109 : elemT Tryz.prog 109 = some (172, 5, 64, .agg #[.int .i64 0, .int .i64 0, .int .i64 0, .string ⟨#[]⟩, .slice none 0 0]) := by kernel_rfl
theorem el112 : elemT Tryz.prog 112 = some (175, 6, 88, .agg #[.string ⟨#[]⟩, .int .i64 0, .int .i64 0, .int .i64 0, .slice none 0 0, .slice none 0 0]) := by kernel_rfl
theorem el155 : elemT Tryz.prog 155 = some (166, 3, 24, .agg #[.int .i64 0, .int .i64 0, .int .i64 0]) := by kernel_rfl
theorem el156 : elemT Tryz.prog 156 = some (169, 4, 48, .agg #[.int .i64 0, .int .i64 0, .int .i64 0, .slice none 0 0]) := by kernel_rfl
theorem el161 : elemT Tryz.prog 161 = some (60, 4, 32, .agg #[.int .i64 0, .int .i64 0, .int .i64 0, .int .i64 0]) := by kernel_rfl
theorem el170 : elemT Tryz.prog 170 = some (3, 1, 8, .int .i64 0) := by kernel_rfl
theorem el183 : elemT Tryz.prog 183 = some (233, 3, 32, .agg #[.int .i64 0, .string ⟨#[]⟩, .int .i64 0]) := by kernel_rfl
theorem el227 : elemT Tryz.prog 227 = some (226, 2, 16, .agg #[.int .i64 0, .int .i64 0]) := by kernel_rfl
theorem el235 : elemT Tryz.prog 235 = some (4, 1, 1, .bool false) := by kernel_rfl
theorem el259 : elemT Tryz.prog 259 = some (264, 2, 24, .agg #[.int .i64 0, .string ⟨#[]⟩]) := by kernel_rfl
theorem el54 : elemT Tryz.prog 54 = some (9, 1, 16, .string ⟨#[]⟩) := by kernel_rfl
theorem en101 : Enters Tryz.prog 101 := Enters.of Tryz.func101 (by kernel_rfl) (by kernel_rfl)
theorem fo114_0 : fieldOff Tryz.prog 114 0 = some 0 := by kernel_rfl
theorem fo114_1 : fieldOff Tryz.prog 114 1 = some 1 := by kernel_rfl
theorem fo114_2 : fieldOff Tryz.prog 114 2 = some 2 := by kernel_rfl
theorem fo164_0 : fieldOff Tryz.prog 164 0 = some 0 := by kernel_rfl
theorem fo164_1 : fieldOff Tryz.prog 164 1 = some 1 := by kernel_rfl
theorem fo164_3 : fieldOff Tryz.prog 164 3 = some 3 := by kernel_rfl
theorem fo164_4 : fieldOff Tryz.prog 164 4 = some 7 := by kernel_rfl
theorem fo164_5 : fieldOff Tryz.prog 164 5 = some 8 := by kernel_rfl
theorem fo166_0 : fieldOff Tryz.prog 166 0 = some 0 := by kernel_rfl
theorem fo166_1 : fieldOff Tryz.prog 166 1 = some 1 := by kernel_rfl
theorem fo166_2 : fieldOff Tryz.prog 166 2 = some 2 := by kernel_rfl
theorem fo169_0 : fieldOff Tryz.prog 169 0 = some 0 := by kernel_rfl
theorem fo169_1 : fieldOff Tryz.prog 169 1 = some 1 := by kernel_rfl
theorem fo169_2 : fieldOff Tryz.prog 169 2 = some 2 := by kernel_rfl
theorem fo169_3 : fieldOff Tryz.prog 169 3 = some 3 := by kernel_rfl
theorem fo172_0 : fieldOff Tryz.prog 172 0 = some 0 := by kernel_rfl
theorem fo172_1 : fieldOff Tryz.prog 172 1 = some 1 := by kernel_rfl
theorem fo172_2 : fieldOff Tryz.prog 172 2 = some 2 := by kernel_rfl
theorem fo172_3 : fieldOff Tryz.prog 172 3 = some 3 := by kernel_rfl
theorem fo172_4 : fieldOff Tryz.prog 172 4 = some 4 := by kernel_rfl
theorem fo175_1 : fieldOff Tryz.prog 175 1 = some 1 := by kernel_rfl
theorem fo175_2 : fieldOff Tryz.prog 175 2 = some 2 := by kernel_rfl
theorem fo175_3 : fieldOff Tryz.prog 175 3 = some 3 := by kernel_rfl
theorem fo175_4 : fieldOff Tryz.prog 175 4 = some 4 := by kernel_rfl
theorem fo175_5 : fieldOff Tryz.prog 175 5 = some 5 := by kernel_rfl
theorem fo179_0 : fieldOff Tryz.prog 179 0 = some 0 := by kernel_rfl
theorem fo179_1 : fieldOff Tryz.prog 179 1 = some 4 := by kernel_rfl
theorem fo185_0 : fieldOff Tryz.prog 185 0 = some 0 := by kernel_rfl
theorem fo185_1 : fieldOff Tryz.prog 185 1 = some 1 := by kernel_rfl
theorem fo185_2 : fieldOff Tryz.prog 185 2 = some 2 := by kernel_rfl
theorem fo185_3 : fieldOff Tryz.prog 185 3 = some 3 := by kernel_rfl
theorem fo213_0 : fieldOff Tryz.prog 213 0 = some 0 := by kernel_rfl
theorem fo213_1 : fieldOff Tryz.prog 213 1 = some 1 := by kernel_rfl
theorem fo213_2 : fieldOff Tryz.prog 213 2 = some 2 := by kernel_rfl
theorem fo213_3 : fieldOff Tryz.prog 213 3 = some 3 := by kernel_rfl
theorem fo213_4 : fieldOff Tryz.prog 213 4 = some 4 := by kernel_rfl
theorem fo213_5 : fieldOff Tryz.prog 213 5 = some 5 := by kernel_rfl
theorem fo226_0 : fieldOff Tryz.prog 226 0 = some 0 := by kernel_rfl
theorem fo226_1 : fieldOff Tryz.prog 226 1 = some 1 := by kernel_rfl
theorem fo233_0 : fieldOff Tryz.prog 233 0 = some 0 := by kernel_rfl
theorem fo233_1 : fieldOff Tryz.prog 233 1 = some 1 := by kernel_rfl
theorem fo233_2 : fieldOff Tryz.prog 233 2 = some 2 := by kernel_rfl
theorem fo237_0 : fieldOff Tryz.prog 237 0 = some 0 := by kernel_rfl
theorem fo237_1 : fieldOff Tryz.prog 237 1 = some 1 := by kernel_rfl
theorem fo255_0 : fieldOff Tryz.prog 255 0 = some 0 := by kernel_rfl
theorem fo255_1 : fieldOff Tryz.prog 255 1 = some 1 := by kernel_rfl
theorem fo255_2 : fieldOff Tryz.prog 255 2 = some 2 := by kernel_rfl
theorem fo255_3 : fieldOff Tryz.prog 255 3 = some 3 := by kernel_rfl
theorem fo255_4 : fieldOff Tryz.prog 255 4 = some 4 := by kernel_rfl
theorem fo255_5 : fieldOff Tryz.prog 255 5 = some 5 := by kernel_rfl
theorem fo264_0 : fieldOff Tryz.prog 264 0 = some 0 := by kernel_rfl
theorem fo264_1 : fieldOff Tryz.prog 264 1 = some 1 := by kernel_rfl
theorem fo292_0 : fieldOff Tryz.prog 292 0 = some 0 := by kernel_rfl
theorem fo292_1 : fieldOff Tryz.prog 292 1 = some 1 := by kernel_rfl
theorem fo60_0 : fieldOff Tryz.prog 60 0 = some 0 := by kernel_rfl
theorem fo60_1 : fieldOff Tryz.prog 60 1 = some 1 := by kernel_rfl
theorem fo60_2 : fieldOff Tryz.prog 60 2 = some 2 := by kernel_rfl
theorem ibe276 (args : Array Value) (w : World) : (callFunc 276 args).run Tryz.prog w = ((do let v ← Extern.BytealgIndexByte.indexByte args; pure (Next.value v)) : Sem Next).run Tryz.prog w := by kernel_rfl
theorem ibf276 {W : World → Prop} {ρ : Rho} {af : AF} {r : AR} {T' : HT} {n' c : Nat} {x y : Operand} {a b : AV} {k : AV → R} {ats : Array TypeId} (h : ibsK c a b k = .ok r T' n') (hx : evalA af x = some a) (hy : evalA af y = some b) : ∃ v, k v = .ok r T' n' ∧ VAL Tryz.prog W ρ af (.call { callee := .value (.func 276), args := #[x, y], argTypes := ats }) v :=
  ibs_of (fun s q w => by
    rw [ibe276, Sem.run_bind]
    have := Lib.run_indexByteString (P := Tryz.prog) s (q : Int) w
    rw [this]
    simp) h hx hy
theorem ls109 : ((#[109] : Array TypeId)[0]?).bind Tryz.prog.underlying = some (.slice 172) := by kernel_rfl
theorem ls112 : ((#[112] : Array TypeId)[0]?).bind Tryz.prog.underlying = some (.slice 175) := by kernel_rfl
theorem ls155 : ((#[155] : Array TypeId)[0]?).bind Tryz.prog.underlying = some (.slice 166) := by kernel_rfl
theorem ls156 : ((#[156] : Array TypeId)[0]?).bind Tryz.prog.underlying = some (.slice 169) := by kernel_rfl
theorem ls161 : ((#[161] : Array TypeId)[0]?).bind Tryz.prog.underlying = some (.slice 60) := by kernel_rfl
theorem ls170 : ((#[170] : Array TypeId)[0]?).bind Tryz.prog.underlying = some (.slice 3) := by kernel_rfl
theorem ls227 : ((#[227] : Array TypeId)[0]?).bind Tryz.prog.underlying = some (.slice 226) := by kernel_rfl
theorem ls235 : ((#[235] : Array TypeId)[0]?).bind Tryz.prog.underlying = some (.slice 4) := by kernel_rfl
theorem ls259 : ((#[259] : Array TypeId)[0]?).bind Tryz.prog.underlying = some (.slice 264) := by kernel_rfl
theorem ls54 : ((#[54] : Array TypeId)[0]?).bind Tryz.prog.underlying = some (.slice 9) := by kernel_rfl
theorem ls79 : ((#[79] : Array TypeId)[0]?).bind Tryz.prog.underlying = some (.slice 5) := by kernel_rfl
theorem ls9 : ((#[9] : Array TypeId)[0]?).bind Tryz.prog.underlying = some .string := by kernel_rfl
theorem map160 : Tryz.prog.underlying 160 = some (.map 3 166) := by kernel_rfl
theorem ni207 : noIface Tryz.prog 207 = true := by kernel_rfl
theorem one109 : oneT Tryz.prog 109 = true := by kernel_rfl
theorem one112 : oneT Tryz.prog 112 = true := by kernel_rfl
theorem one155 : oneT Tryz.prog 155 = true := by kernel_rfl
theorem one156 : oneT Tryz.prog 156 = true := by kernel_rfl
theorem one160 : oneT Tryz.prog 160 = true := by kernel_rfl
theorem one161 : oneT Tryz.prog 161 = true := by kernel_rfl
theorem one170 : oneT Tryz.prog 170 = true := by kernel_rfl
theorem one177 : oneT Tryz.prog 177 = true := by kernel_rfl
theorem one183 : oneT Tryz.prog 183 = true := by kernel_rfl
theorem one235 : oneT Tryz.prog 235 = true := by kernel_rfl
theorem one259 : oneT Tryz.prog 259 = true := by kernel_rfl
theorem one267 : oneT Tryz.prog 267 = true := by kernel_rfl
theorem one3 : oneT Tryz.prog 3 = true := by kernel_rfl
theorem one36 : oneT Tryz.prog 36 = true := by kernel_rfl
theorem one4 : oneT Tryz.prog 4 = true := by kernel_rfl
theorem one54 : oneT Tryz.prog 54 = true := by kernel_rfl
theorem one79 : oneT Tryz.prog 79 = true := by kernel_rfl
theorem one9 : oneT Tryz.prog 9 = true := by kernel_rfl
theorem siz109 : sizeT Tryz.prog 109 = some 1 := by kernel_rfl
theorem siz112 : sizeT Tryz.prog 112 = some 1 := by kernel_rfl
theorem siz155 : sizeT Tryz.prog 155 = some 1 := by kernel_rfl
theorem siz156 : sizeT Tryz.prog 156 = some 1 := by kernel_rfl
theorem siz161 : sizeT Tryz.prog 161 = some 1 := by kernel_rfl
theorem siz162 : sizeT Tryz.prog 162 = some 1 := by kernel_rfl
theorem siz170 : sizeT Tryz.prog 170 = some 1 := by kernel_rfl
theorem siz177 : sizeT Tryz.prog 177 = some 1 := by kernel_rfl
theorem siz183 : sizeT Tryz.prog 183 = some 1 := by kernel_rfl
theorem siz259 : sizeT Tryz.prog 259 = some 1 := by kernel_rfl
theorem siz3 : sizeT Tryz.prog 3 = some 1 := by kernel_rfl
theorem siz36 : sizeT Tryz.prog 36 = some 1 := by kernel_rfl
theorem siz4 : sizeT Tryz.prog 4 = some 1 := by kernel_rfl
theorem siz54 : sizeT Tryz.prog 54 = some 1 := by kernel_rfl
theorem slt54 : Tryz.prog.underlying 54 = some (.slice 9) := by kernel_rfl
theorem st9 : Tryz.prog.underlying 9 = some .string := by kernel_rfl
theorem ud3 : Tryz.prog.underlying 3 = some (.int .i64) := by kernel_rfl
theorem za207 : zeroA Tryz.prog 207 = some (.tup [.lit (.agg #[.pointer none]), .lit (.bool false)]) := by kernel_rfl
theorem zr109 : ((Tryz.prog.info? 109).bind (·.zero)).map (fun z => z.cells.toList.map AV.lit) = some [.lit (.slice none 0 0)] := by kernel_rfl
theorem zr114 : ((Tryz.prog.info? 114).bind (·.zero)).map (fun z => z.cells.toList.map AV.lit) = some [.lit (.slice none 0 0), .lit (.slice none 0 0), .lit (.slice none 0 0), .lit (.slice none 0 0)] := by kernel_rfl
theorem zr166 : ((Tryz.prog.info? 166).bind (·.zero)).map (fun z => z.cells.toList.map AV.lit) = some [.lit (.int .i64 0), .lit (.int .i64 0), .lit (.int .i64 0)] := by kernel_rfl
theorem zr169 : ((Tryz.prog.info? 169).bind (·.zero)).map (fun z => z.cells.toList.map AV.lit) = some [.lit (.int .i64 0), .lit (.int .i64 0), .lit (.int .i64 0), .lit (.slice none 0 0)] := by kernel_rfl
theorem zr172 : ((Tryz.prog.info? 172).bind (·.zero)).map (fun z => z.cells.toList.map AV.lit) = some [.lit (.int .i64 0), .lit (.int .i64 0), .lit (.int .i64 0), .lit (.string ⟨#[]⟩), .lit (.slice none 0 0)] := by kernel_rfl
theorem zr175 : ((Tryz.prog.info? 175).bind (·.zero)).map (fun z => z.cells.toList.map AV.lit) = some [.lit (.string ⟨#[]⟩), .lit (.int .i64 0), .lit (.int .i64 0), .lit (.int .i64 0), .lit (.slice none 0 0), .lit (.slice none 0 0)] := by kernel_rfl
theorem zr177 : ((Tryz.prog.info? 177).bind (·.zero)).map (fun z => z.cells.toList.map AV.lit) = some [.lit (.pointer none)] := by kernel_rfl
theorem zr207 : ((Tryz.prog.info? 207).bind (·.zero)).map (fun z => z.cells.toList.map AV.lit) = some [.lit (.pointer none)] := by kernel_rfl
theorem zr226 : ((Tryz.prog.info? 226).bind (·.zero)).map (fun z => z.cells.toList.map AV.lit) = some [.lit (.int .i64 0), .lit (.int .i64 0)] := by kernel_rfl
theorem zr233 : ((Tryz.prog.info? 233).bind (·.zero)).map (fun z => z.cells.toList.map AV.lit) = some [.lit (.int .i64 0), .lit (.string ⟨#[]⟩), .lit (.int .i64 0)] := by kernel_rfl
theorem zr259 : ((Tryz.prog.info? 259).bind (·.zero)).map (fun z => z.cells.toList.map AV.lit) = some [.lit (.slice none 0 0)] := by kernel_rfl
theorem zr264 : ((Tryz.prog.info? 264).bind (·.zero)).map (fun z => z.cells.toList.map AV.lit) = some [.lit (.int .i64 0), .lit (.string ⟨#[]⟩)] := by kernel_rfl
theorem zr3 : ((Tryz.prog.info? 3).bind (·.zero)).map (fun z => z.cells.toList.map AV.lit) = some [.lit (.int .i64 0)] := by kernel_rfl
theorem zr36 : ((Tryz.prog.info? 36).bind (·.zero)).map (fun z => z.cells.toList.map AV.lit) = some [.lit (.nilIface)] := by kernel_rfl
theorem zr60 : ((Tryz.prog.info? 60).bind (·.zero)).map (fun z => z.cells.toList.map AV.lit) = some [.lit (.int .i64 0), .lit (.int .i64 0), .lit (.int .i64 0), .lit (.int .i64 0)] := by kernel_rfl
theorem zw166 : zeroW Tryz.prog 166 = some (.agg #[.int .i64 0, .int .i64 0, .int .i64 0]) := by kernel_rfl
end Go.Proofs.YtlljgagoboapaaaGreatDoor.Cnf
