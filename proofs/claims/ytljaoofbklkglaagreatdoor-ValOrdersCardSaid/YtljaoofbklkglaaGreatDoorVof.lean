/-
  Proved here: closed facts about the program's types and functions that a machine of mine asks for.
-/
import Derived.Test.YtljaoofbklkglaaGreatDoorEyVoS
import Derived.Test.YtljaoofbklkglaaGreatDoorProg
namespace Go.Proofs.YtljaoofbklkglaaGreatDoor.Vof
open Go.EY Go.EX Go.SX Go.RowKit
theorem agg105 : aggT Tryz.prog 105 = some 5 := by kernel_rfl
theorem agg139 : aggT Tryz.prog 139 = some 1 := by kernel_rfl
theorem agg144 : aggT Tryz.prog 144 = some 3 := by kernel_rfl
theorem agg37 : aggT Tryz.prog 37 = some 2 := by kernel_rfl
theorem agg58 : aggT Tryz.prog 58 = some 2 := by kernel_rfl
theorem agg70 : aggT Tryz.prog 70 = some 5 := by kernel_rfl
theorem agg84 : aggT Tryz.prog 84 = some 0 := by kernel_rfl
theorem cp241 : CmpT Tryz.prog 241 258 := CmpT.of (by kernel_rfl) (by kernel_rfl) (by kernel_rfl)
theorem el125 : elemT Tryz.prog 125 = some (129, 1, 8, .pointer none) := by kernel_rfl
theorem el146 : elemT Tryz.prog 146 = some (4, 1, 1, .bool false) := by kernel_rfl
theorem el206 : elemT Tryz.prog 206 = some (28, 1, 16, .nilIface) := by kernel_rfl
theorem el22 : elemT Tryz.prog 22 = some (3, 1, 8, .int .i64 0) := by kernel_rfl
theorem el35 : elemT Tryz.prog 35 = some (60, 1, 4, .int .u32 0) := by kernel_rfl
theorem el42 : elemT Tryz.prog 42 = some (25, 1, 16, .nilIface) := by kernel_rfl
theorem el50 : elemT Tryz.prog 50 = some (105, 5, 64, .agg #[.int .i64 0, .int .i64 0, .int .i64 0, .string ⟨#[]⟩, .slice none 0 0]) := by kernel_rfl
theorem el64 : elemT Tryz.prog 64 = some (5, 1, 1, .int .u8 0) := by kernel_rfl
theorem el89 : elemT Tryz.prog 89 = some (9, 1, 16, .string ⟨#[]⟩) := by kernel_rfl
theorem el97 : elemT Tryz.prog 97 = some (144, 3, 32, .agg #[.int .i64 0, .string ⟨#[]⟩, .int .i64 0]) := by kernel_rfl
theorem en54 : Enters Tryz.prog 54 := Enters.of Tryz.func54 (by kernel_rfl) (by kernel_rfl)
theorem fda58_1 : fldA Tryz.prog 58 1 = some (0, 2) := by kernel_rfl
theorem fo105_0 : fieldOff Tryz.prog 105 0 = some 0 := by kernel_rfl
theorem fo105_1 : fieldOff Tryz.prog 105 1 = some 1 := by kernel_rfl
theorem fo105_2 : fieldOff Tryz.prog 105 2 = some 2 := by kernel_rfl
theorem fo105_3 : fieldOff Tryz.prog 105 3 = some 3 := by kernel_rfl
theorem fo105_4 : fieldOff Tryz.prog 105 4 = some 4 := by kernel_rfl
theorem fo128_1 : fieldOff Tryz.prog 128 1 = some 0 := by kernel_rfl
theorem fo128_2 : fieldOff Tryz.prog 128 2 = some 1 := by kernel_rfl
theorem fo128_3 : fieldOff Tryz.prog 128 3 = some 2 := by kernel_rfl
theorem fo128_4 : fieldOff Tryz.prog 128 4 = some 3 := by kernel_rfl
theorem fo131_0 : fieldOff Tryz.prog 131 0 = some 0 := by kernel_rfl
theorem fo131_1 : fieldOff Tryz.prog 131 1 = some 1 := by kernel_rfl
theorem fo131_2 : fieldOff Tryz.prog 131 2 = some 2 := by kernel_rfl
theorem fo144_0 : fieldOff Tryz.prog 144 0 = some 0 := by kernel_rfl
theorem fo144_1 : fieldOff Tryz.prog 144 1 = some 1 := by kernel_rfl
theorem fo144_2 : fieldOff Tryz.prog 144 2 = some 2 := by kernel_rfl
theorem fo148_0 : fieldOff Tryz.prog 148 0 = some 0 := by kernel_rfl
theorem fo148_1 : fieldOff Tryz.prog 148 1 = some 1 := by kernel_rfl
theorem fo152_0 : fieldOff Tryz.prog 152 0 = some 0 := by kernel_rfl
theorem fo152_1 : fieldOff Tryz.prog 152 1 = some 1 := by kernel_rfl
theorem fo171_0 : fieldOff Tryz.prog 171 0 = some 0 := by kernel_rfl
theorem fo171_1 : fieldOff Tryz.prog 171 1 = some 1 := by kernel_rfl
theorem fo174_0 : fieldOff Tryz.prog 174 0 = some 0 := by kernel_rfl
theorem fo174_1 : fieldOff Tryz.prog 174 1 = some 1 := by kernel_rfl
theorem fo174_2 : fieldOff Tryz.prog 174 2 = some 2 := by kernel_rfl
theorem fo174_3 : fieldOff Tryz.prog 174 3 = some 3 := by kernel_rfl
theorem fo174_4 : fieldOff Tryz.prog 174 4 = some 4 := by kernel_rfl
theorem fo174_5 : fieldOff Tryz.prog 174 5 = some 5 := by kernel_rfl
theorem fo218_0 : fieldOff Tryz.prog 218 0 = some 0 := by kernel_rfl
theorem fo218_1 : fieldOff Tryz.prog 218 1 = some 1 := by kernel_rfl
theorem fo37_0 : fieldOff Tryz.prog 37 0 = some 0 := by kernel_rfl
theorem fo37_1 : fieldOff Tryz.prog 37 1 = some 1 := by kernel_rfl
theorem fo48_0 : fieldOff Tryz.prog 48 0 = some 0 := by kernel_rfl
theorem fo58_1 : fieldOff Tryz.prog 58 1 = some 0 := by kernel_rfl
theorem fo66_0 : fieldOff Tryz.prog 66 0 = some 0 := by kernel_rfl
theorem fo70_0 : fieldOff Tryz.prog 70 0 = some 0 := by kernel_rfl
theorem fo70_1 : fieldOff Tryz.prog 70 1 = some 1 := by kernel_rfl
theorem fo70_2 : fieldOff Tryz.prog 70 2 = some 2 := by kernel_rfl
theorem fo70_3 : fieldOff Tryz.prog 70 3 = some 3 := by kernel_rfl
theorem fo70_4 : fieldOff Tryz.prog 70 4 = some 4 := by kernel_rfl
theorem fo74_1 : fieldOff Tryz.prog 74 1 = some 0 := by kernel_rfl
theorem fo82_1 : fieldOff Tryz.prog 82 1 = some 0 := by kernel_rfl
theorem fo91_1 : fieldOff Tryz.prog 91 1 = some 0 := by kernel_rfl
theorem fo91_2 : fieldOff Tryz.prog 91 2 = some 1 := by kernel_rfl
theorem fo99_0 : fieldOff Tryz.prog 99 0 = some 0 := by kernel_rfl
theorem fo99_1 : fieldOff Tryz.prog 99 1 = some 1 := by kernel_rfl
theorem fo99_2 : fieldOff Tryz.prog 99 2 = some 2 := by kernel_rfl
theorem fo99_3 : fieldOff Tryz.prog 99 3 = some 3 := by kernel_rfl
theorem hi113_n_44_58_62_80_84_85_139 : ([44, 58, 62, 80, 84, 85, 139] : List Nat).all (fun t => hasI Tryz.prog 113 t == some false) = true := by kernel_rfl
theorem hi113_y_ : ([] : List Nat).all (fun t => hasI Tryz.prog 113 t == some true) = true := by kernel_rfl
theorem hi116_n_44_58_62_80_84_85_139 : ([44, 58, 62, 80, 84, 85, 139] : List Nat).all (fun t => hasI Tryz.prog 116 t == some false) = true := by kernel_rfl
theorem hi116_y_ : ([] : List Nat).all (fun t => hasI Tryz.prog 116 t == some true) = true := by kernel_rfl
theorem hi93_n_44_58_62_80_84_85_139 : ([44, 58, 62, 80, 84, 85, 139] : List Nat).all (fun t => hasI Tryz.prog 93 t == some false) = true := by kernel_rfl
theorem hi93_y_ : ([] : List Nat).all (fun t => hasI Tryz.prog 93 t == some true) = true := by kernel_rfl
theorem ibe147 (args : Array Value) (w : World) : (callFunc 147 args).run Tryz.prog w = ((do let v ← Extern.BytealgIndexByte.indexByte args; pure (Next.value v)) : Sem Next).run Tryz.prog w := by kernel_rfl
theorem ibf147 {W : World → Prop} {ρ : Rho} {af : AF} {r : AR} {T' : HT} {n' c : Nat} {x y : Operand} {a b : AV} {k : AV → R} {ats : Array TypeId} (h : ibsK c a b k = .ok r T' n') (hx : evalA af x = some a) (hy : evalA af y = some b) : ∃ v, k v = .ok r T' n' ∧ VAL Tryz.prog W ρ af (.call { callee := .value (.func 147), args := #[x, y], argTypes := ats }) v :=
  ibs_of (fun s q w => by
    rw [ibe147, Sem.run_bind]
    have := Lib.run_indexByteString (P := Tryz.prog) s (q : Int) w
    rw [this]
    simp) h hx hy
theorem ii113 : isIface Tryz.prog 113 = true := by kernel_rfl
theorem ii116 : isIface Tryz.prog 116 = true := by kernel_rfl
theorem ii25 : isIface Tryz.prog 25 = true := by kernel_rfl
theorem ii28 : isIface Tryz.prog 28 = true := by kernel_rfl
theorem ii93 : isIface Tryz.prog 93 = true := by kernel_rfl
theorem inv44_Kind_196c (u : Value) (w : World) : (invoke (.fn (.method "Kind") #[]) (Value.iface 44 u :: []).toArray).run Tryz.prog w = .ok (.enter 196 (u :: []).toArray) w := by kernel_rfl
theorem inv44_Kind_196 (u : Value) (us : List Value) (w : World) (h : us.length = 0) : (invoke (.fn (.method "Kind") #[]) (Value.iface 44 u :: us).toArray).run Tryz.prog w = .ok (.enter 196 (u :: us).toArray) w := by
  rcases us with _ | ⟨_, us⟩
  · exact inv44_Kind_196c u w
  · simp at h
theorem inv58_Kind_198c (u : Value) (w : World) : (invoke (.fn (.method "Kind") #[]) (Value.iface 58 u :: []).toArray).run Tryz.prog w = .ok (.enter 198 (u :: []).toArray) w := by kernel_rfl
theorem inv58_Kind_198 (u : Value) (us : List Value) (w : World) (h : us.length = 0) : (invoke (.fn (.method "Kind") #[]) (Value.iface 58 u :: us).toArray).run Tryz.prog w = .ok (.enter 198 (u :: us).toArray) w := by
  rcases us with _ | ⟨_, us⟩
  · exact inv58_Kind_198c u w
  · simp at h
theorem inv62_Kind_199c (u : Value) (w : World) : (invoke (.fn (.method "Kind") #[]) (Value.iface 62 u :: []).toArray).run Tryz.prog w = .ok (.enter 199 (u :: []).toArray) w := by kernel_rfl
theorem inv62_Kind_199 (u : Value) (us : List Value) (w : World) (h : us.length = 0) : (invoke (.fn (.method "Kind") #[]) (Value.iface 62 u :: us).toArray).run Tryz.prog w = .ok (.enter 199 (u :: us).toArray) w := by
  rcases us with _ | ⟨_, us⟩
  · exact inv62_Kind_199c u w
  · simp at h
theorem inv80_Kind_203c (u : Value) (w : World) : (invoke (.fn (.method "Kind") #[]) (Value.iface 80 u :: []).toArray).run Tryz.prog w = .ok (.enter 203 (u :: []).toArray) w := by kernel_rfl
theorem inv80_Kind_203 (u : Value) (us : List Value) (w : World) (h : us.length = 0) : (invoke (.fn (.method "Kind") #[]) (Value.iface 80 u :: us).toArray).run Tryz.prog w = .ok (.enter 203 (u :: us).toArray) w := by
  rcases us with _ | ⟨_, us⟩
  · exact inv80_Kind_203c u w
  · simp at h
theorem inv84_Kind_204c (u : Value) (w : World) : (invoke (.fn (.method "Kind") #[]) (Value.iface 84 u :: []).toArray).run Tryz.prog w = .ok (.enter 204 (u :: []).toArray) w := by kernel_rfl
theorem inv84_Kind_204 (u : Value) (us : List Value) (w : World) (h : us.length = 0) : (invoke (.fn (.method "Kind") #[]) (Value.iface 84 u :: us).toArray).run Tryz.prog w = .ok (.enter 204 (u :: us).toArray) w := by
  rcases us with _ | ⟨_, us⟩
  · exact inv84_Kind_204c u w
  · simp at h
theorem inv85_Kind_205c (u : Value) (w : World) : (invoke (.fn (.method "Kind") #[]) (Value.iface 85 u :: []).toArray).run Tryz.prog w = .ok (.enter 205 (u :: []).toArray) w := by kernel_rfl
theorem inv85_Kind_205 (u : Value) (us : List Value) (w : World) (h : us.length = 0) : (invoke (.fn (.method "Kind") #[]) (Value.iface 85 u :: us).toArray).run Tryz.prog w = .ok (.enter 205 (u :: us).toArray) w := by
  rcases us with _ | ⟨_, us⟩
  · exact inv85_Kind_205c u w
  · simp at h
theorem ls125 : ((#[125] : Array TypeId)[0]?).bind Tryz.prog.underlying = some (.slice 129) := by kernel_rfl
theorem ls146 : ((#[146] : Array TypeId)[0]?).bind Tryz.prog.underlying = some (.slice 4) := by kernel_rfl
theorem ls206 : ((#[206] : Array TypeId)[0]?).bind Tryz.prog.underlying = some (.slice 28) := by kernel_rfl
theorem ls22 : ((#[22] : Array TypeId)[0]?).bind Tryz.prog.underlying = some (.slice 3) := by kernel_rfl
theorem ls35 : ((#[35] : Array TypeId)[0]?).bind Tryz.prog.underlying = some (.slice 60) := by kernel_rfl
theorem ls42 : ((#[42] : Array TypeId)[0]?).bind Tryz.prog.underlying = some (.slice 25) := by kernel_rfl
theorem ls50 : ((#[50] : Array TypeId)[0]?).bind Tryz.prog.underlying = some (.slice 105) := by kernel_rfl
theorem ls62 : ((#[62] : Array TypeId)[0]?).bind Tryz.prog.underlying = some .string := by kernel_rfl
theorem ls64 : ((#[64] : Array TypeId)[0]?).bind Tryz.prog.underlying = some (.slice 5) := by kernel_rfl
theorem ls89 : ((#[89] : Array TypeId)[0]?).bind Tryz.prog.underlying = some (.slice 9) := by kernel_rfl
theorem ls9 : ((#[9] : Array TypeId)[0]?).bind Tryz.prog.underlying = some .string := by kernel_rfl
theorem map126 : Tryz.prog.underlying 126 = some (.map 9 129) := by kernel_rfl
theorem ni137 : noIface Tryz.prog 137 = true := by kernel_rfl
theorem ni139 : noIface Tryz.prog 139 = true := by kernel_rfl
theorem ni168 : noIface Tryz.prog 168 = true := by kernel_rfl
theorem ni44 : noIface Tryz.prog 44 = true := by kernel_rfl
theorem ni58 : noIface Tryz.prog 58 = true := by kernel_rfl
theorem ni62 : noIface Tryz.prog 62 = true := by kernel_rfl
theorem ni77 : noIface Tryz.prog 77 = true := by kernel_rfl
theorem ni80 : noIface Tryz.prog 80 = true := by kernel_rfl
theorem ni84 : noIface Tryz.prog 84 = true := by kernel_rfl
theorem ni85 : noIface Tryz.prog 85 = true := by kernel_rfl
theorem ni87 : noIface Tryz.prog 87 = true := by kernel_rfl
theorem one125 : oneT Tryz.prog 125 = true := by kernel_rfl
theorem one126 : oneT Tryz.prog 126 = true := by kernel_rfl
theorem one129 : oneT Tryz.prog 129 = true := by kernel_rfl
theorem one146 : oneT Tryz.prog 146 = true := by kernel_rfl
theorem one22 : oneT Tryz.prog 22 = true := by kernel_rfl
theorem one25 : oneT Tryz.prog 25 = true := by kernel_rfl
theorem one28 : oneT Tryz.prog 28 = true := by kernel_rfl
theorem one3 : oneT Tryz.prog 3 = true := by kernel_rfl
theorem one35 : oneT Tryz.prog 35 = true := by kernel_rfl
theorem one4 : oneT Tryz.prog 4 = true := by kernel_rfl
theorem one42 : oneT Tryz.prog 42 = true := by kernel_rfl
theorem one5 : oneT Tryz.prog 5 = true := by kernel_rfl
theorem one50 : oneT Tryz.prog 50 = true := by kernel_rfl
theorem one60 : oneT Tryz.prog 60 = true := by kernel_rfl
theorem one64 : oneT Tryz.prog 64 = true := by kernel_rfl
theorem one89 : oneT Tryz.prog 89 = true := by kernel_rfl
theorem one9 : oneT Tryz.prog 9 = true := by kernel_rfl
theorem one97 : oneT Tryz.prog 97 = true := by kernel_rfl
theorem siz125 : sizeT Tryz.prog 125 = some 1 := by kernel_rfl
theorem siz22 : sizeT Tryz.prog 22 = some 1 := by kernel_rfl
theorem siz28 : sizeT Tryz.prog 28 = some 1 := by kernel_rfl
theorem siz3 : sizeT Tryz.prog 3 = some 1 := by kernel_rfl
theorem siz4 : sizeT Tryz.prog 4 = some 1 := by kernel_rfl
theorem siz5 : sizeT Tryz.prog 5 = some 1 := by kernel_rfl
theorem siz50 : sizeT Tryz.prog 50 = some 1 := by kernel_rfl
theorem siz64 : sizeT Tryz.prog 64 = some 1 := by kernel_rfl
theorem siz97 : sizeT Tryz.prog 97 = some 1 := by kernel_rfl
theorem slt42 : Tryz.prog.underlying 42 = some (.slice 25) := by kernel_rfl
theorem slt50 : Tryz.prog.underlying 50 = some (.slice 105) := by kernel_rfl
theorem slt64 : Tryz.prog.underlying 64 = some (.slice 5) := by kernel_rfl
theorem st62 : Tryz.prog.underlying 62 = some .string := by kernel_rfl
theorem st9 : Tryz.prog.underlying 9 = some .string := by kernel_rfl
theorem u8t5 : Tryz.prog.underlying 5 = some (.int .u8) := by kernel_rfl
theorem ud9 : Tryz.prog.underlying 9 = some .string := by kernel_rfl
theorem za137 : zeroA Tryz.prog 137 = some (.tup [.lit (.pointer none), .lit (.bool false)]) := by kernel_rfl
theorem za139 : zeroA Tryz.prog 139 = some (.tup [.lit (.agg #[.pointer none]), .lit (.bool false)]) := by kernel_rfl
theorem za168 : zeroA Tryz.prog 168 = some (.tup [.lit (.pointer none), .lit (.bool false)]) := by kernel_rfl
theorem za44 : zeroA Tryz.prog 44 = some (.tup [.lit (.pointer none), .lit (.bool false)]) := by kernel_rfl
theorem za58 : zeroA Tryz.prog 58 = some (.tup [.lit (.agg #[.bool false, .slice none 0 0]), .lit (.bool false)]) := by kernel_rfl
theorem za62 : zeroA Tryz.prog 62 = some (.tup [.lit (.string ⟨#[]⟩), .lit (.bool false)]) := by kernel_rfl
theorem za77 : zeroA Tryz.prog 77 = some (.tup [.lit (.bool false), .lit (.bool false)]) := by kernel_rfl
theorem za80 : zeroA Tryz.prog 80 = some (.tup [.lit (.pointer none), .lit (.bool false)]) := by kernel_rfl
theorem za84 : zeroA Tryz.prog 84 = some (.tup [.lit (.agg #[]), .lit (.bool false)]) := by kernel_rfl
theorem za85 : zeroA Tryz.prog 85 = some (.tup [.lit (.pointer none), .lit (.bool false)]) := by kernel_rfl
theorem za87 : zeroA Tryz.prog 87 = some (.tup [.lit (.pointer none), .lit (.bool false)]) := by kernel_rfl
theorem zr105 : ((Tryz.prog.info? 105).bind (·.zero)).map (fun z => z.cells.toList.map AV.lit) = some [.lit (.int .i64 0), .lit (.int .i64 0), .lit (.int .i64 0), .lit (.string ⟨#[]⟩), .lit (.slice none 0 0)] := by kernel_rfl
theorem zr139 : ((Tryz.prog.info? 139).bind (·.zero)).map (fun z => z.cells.toList.map AV.lit) = some [.lit (.pointer none)] := by kernel_rfl
theorem zr144 : ((Tryz.prog.info? 144).bind (·.zero)).map (fun z => z.cells.toList.map AV.lit) = some [.lit (.int .i64 0), .lit (.string ⟨#[]⟩), .lit (.int .i64 0)] := by kernel_rfl
theorem zr228 : ((Tryz.prog.info? 228).bind (·.zero)).map (fun z => z.cells.toList.map AV.lit) = some [.lit (.int .u8 0), .lit (.int .u8 0), .lit (.int .u8 0), .lit (.int .u8 0), .lit (.int .u8 0), .lit (.int .u8 0), .lit (.int .u8 0), .lit (.int .u8 0), .lit (.int .u8 0), .lit (.int .u8 0), .lit (.int .u8 0), .lit (.int .u8 0), .lit (.int .u8 0), .lit (.int .u8 0), .lit (.int .u8 0), .lit (.int .u8 0), .lit (.int .u8 0), .lit (.int .u8 0), .lit (.int .u8 0), .lit (.int .u8 0), .lit (.int .u8 0), .lit (.int .u8 0), .lit (.int .u8 0), .lit (.int .u8 0)] := by kernel_rfl
theorem zr28 : ((Tryz.prog.info? 28).bind (·.zero)).map (fun z => z.cells.toList.map AV.lit) = some [.lit (.nilIface)] := by kernel_rfl
theorem zr37 : ((Tryz.prog.info? 37).bind (·.zero)).map (fun z => z.cells.toList.map AV.lit) = some [.lit (.bool false), .lit (.slice none 0 0)] := by kernel_rfl
theorem zr50 : ((Tryz.prog.info? 50).bind (·.zero)).map (fun z => z.cells.toList.map AV.lit) = some [.lit (.slice none 0 0)] := by kernel_rfl
theorem zr58 : ((Tryz.prog.info? 58).bind (·.zero)).map (fun z => z.cells.toList.map AV.lit) = some [.lit (.bool false), .lit (.slice none 0 0)] := by kernel_rfl
theorem zr70 : ((Tryz.prog.info? 70).bind (·.zero)).map (fun z => z.cells.toList.map AV.lit) = some [.lit (.int .i64 0), .lit (.bool false), .lit (.int .i64 0), .lit (.bool false), .lit (.string ⟨#[]⟩)] := by kernel_rfl
theorem zr84 : ((Tryz.prog.info? 84).bind (·.zero)).map (fun z => z.cells.toList.map AV.lit) = some [] := by kernel_rfl
theorem zw113 : zeroW Tryz.prog 113 = some (.nilIface) := by kernel_rfl
theorem zw116 : zeroW Tryz.prog 116 = some (.nilIface) := by kernel_rfl
theorem zw129 : zeroW Tryz.prog 129 = some (.pointer none) := by kernel_rfl
theorem zw93 : zeroW Tryz.prog 93 = some (.nilIface) := by kernel_rfl
end Go.Proofs.YtljaoofbklkglaaGreatDoor.Vof
