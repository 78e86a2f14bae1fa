/-
  Proved here: closed facts about the program's types and functions that a machine of mine asks for.
-/
import Derived.Test.YtlljgagoboapaaaGreatDoorEyVdS
import Derived.Test.YtlljgagoboapaaaGreatDoorProg
namespace Go.Proofs.YtlljgagoboapaaaGreatDoor.Vdf
open Go.EY Go.EX Go.SX Go.RowKit
theorem agg100 : aggT Tryz.prog 100 = some 0 := by kernel_rfl
theorem agg172 : aggT Tryz.prog 172 = some 5 := by kernel_rfl
theorem agg207 : aggT Tryz.prog 207 = some 1 := by kernel_rfl
theorem agg233 : aggT Tryz.prog 233 = some 3 := by kernel_rfl
theorem agg29 : aggT Tryz.prog 29 = some 2 := by kernel_rfl
theorem agg67 : aggT Tryz.prog 67 = some 2 := by kernel_rfl
theorem agg93 : aggT Tryz.prog 93 = some 5 := by kernel_rfl
theorem cp347 : CmpT Tryz.prog 347 363 := CmpT.of (by kernel_rfl) (by kernel_rfl) (by kernel_rfl)
theorem el109 : elemT Tryz.prog 109 = some (172, 5, 64, .agg #[.int .i64 0, .int .i64 0, .int .i64 0, .string ⟨#[]⟩, .slice none 0 0]) := by kernel_rfl
theorem el170 : elemT Tryz.prog 170 = some (3, 1, 8, .int .i64 0) := by kernel_rfl
theorem el183 : elemT Tryz.prog 183 = some (233, 3, 32, .agg #[.int .i64 0, .string ⟨#[]⟩, .int .i64 0]) := by kernel_rfl
theorem el235 : elemT Tryz.prog 235 = some (4, 1, 1, .bool false) := by kernel_rfl
theorem el27 : elemT Tryz.prog 27 = some (69, 1, 4, .int .u32 0) := by kernel_rfl
theorem el285 : elemT Tryz.prog 285 = some (36, 1, 16, .nilIface) := by kernel_rfl
theorem el54 : elemT Tryz.prog 54 = some (9, 1, 16, .string ⟨#[]⟩) := by kernel_rfl
theorem el71 : elemT Tryz.prog 71 = some (25, 1, 16, .nilIface) := by kernel_rfl
theorem el79 : elemT Tryz.prog 79 = some (5, 1, 1, .int .u8 0) := by kernel_rfl
theorem el96 : elemT Tryz.prog 96 = some (101, 1, 8, .pointer none) := by kernel_rfl
theorem en101 : Enters Tryz.prog 101 := Enters.of Tryz.func101 (by kernel_rfl) (by kernel_rfl)
theorem fda67_1 : fldA Tryz.prog 67 1 = some (0, 2) := by kernel_rfl
theorem fo103_0 : fieldOff Tryz.prog 103 0 = some 0 := by kernel_rfl
theorem fo103_1 : fieldOff Tryz.prog 103 1 = some 1 := by kernel_rfl
theorem fo103_2 : fieldOff Tryz.prog 103 2 = some 2 := by kernel_rfl
theorem fo143_1 : fieldOff Tryz.prog 143 1 = some 0 := by kernel_rfl
theorem fo143_2 : fieldOff Tryz.prog 143 2 = some 1 := by kernel_rfl
theorem fo172_0 : fieldOff Tryz.prog 172 0 = some 0 := by kernel_rfl
theorem fo172_1 : fieldOff Tryz.prog 172 1 = some 1 := by kernel_rfl
theorem fo172_2 : fieldOff Tryz.prog 172 2 = some 2 := by kernel_rfl
theorem fo172_3 : fieldOff Tryz.prog 172 3 = some 3 := by kernel_rfl
theorem fo172_4 : fieldOff Tryz.prog 172 4 = some 4 := by kernel_rfl
theorem fo185_0 : fieldOff Tryz.prog 185 0 = some 0 := by kernel_rfl
theorem fo185_1 : fieldOff Tryz.prog 185 1 = some 1 := by kernel_rfl
theorem fo185_2 : fieldOff Tryz.prog 185 2 = some 2 := by kernel_rfl
theorem fo185_3 : fieldOff Tryz.prog 185 3 = some 3 := by kernel_rfl
theorem fo202_0 : fieldOff Tryz.prog 202 0 = some 0 := by kernel_rfl
theorem fo202_1 : fieldOff Tryz.prog 202 1 = some 1 := by kernel_rfl
theorem fo217_0 : fieldOff Tryz.prog 217 0 = some 0 := by kernel_rfl
theorem fo217_1 : fieldOff Tryz.prog 217 1 = some 1 := by kernel_rfl
theorem fo233_0 : fieldOff Tryz.prog 233 0 = some 0 := by kernel_rfl
theorem fo233_1 : fieldOff Tryz.prog 233 1 = some 1 := by kernel_rfl
theorem fo233_2 : fieldOff Tryz.prog 233 2 = some 2 := by kernel_rfl
theorem fo237_0 : fieldOff Tryz.prog 237 0 = some 0 := by kernel_rfl
theorem fo237_1 : fieldOff Tryz.prog 237 1 = some 1 := by kernel_rfl
theorem fo255_0 : fieldOff Tryz.prog 255 0 = some 0 := by kernel_rfl
theorem fo255_1 : fieldOff Tryz.prog 255 1 = some 1 := by kernel_rfl
theorem fo255_2 : fieldOff Tryz.prog 255 2 = some 2 := by kernel_rfl
theorem fo255_3 : fieldOff Tryz.prog 255 3 = some 3 := by kernel_rfl
theorem fo255_4 : fieldOff Tryz.prog 255 4 = some 4 := by kernel_rfl
theorem fo255_5 : fieldOff Tryz.prog 255 5 = some 5 := by kernel_rfl
theorem fo29_0 : fieldOff Tryz.prog 29 0 = some 0 := by kernel_rfl
theorem fo29_1 : fieldOff Tryz.prog 29 1 = some 1 := by kernel_rfl
theorem fo67_1 : fieldOff Tryz.prog 67 1 = some 0 := by kernel_rfl
theorem fo75_1 : fieldOff Tryz.prog 75 1 = some 0 := by kernel_rfl
theorem fo77_1 : fieldOff Tryz.prog 77 1 = some 0 := by kernel_rfl
theorem fo81_0 : fieldOff Tryz.prog 81 0 = some 0 := by kernel_rfl
theorem fo85_0 : fieldOff Tryz.prog 85 0 = some 0 := by kernel_rfl
theorem fo89_0 : fieldOff Tryz.prog 89 0 = some 0 := by kernel_rfl
theorem fo89_1 : fieldOff Tryz.prog 89 1 = some 1 := by kernel_rfl
theorem fo93_0 : fieldOff Tryz.prog 93 0 = some 0 := by kernel_rfl
theorem fo93_1 : fieldOff Tryz.prog 93 1 = some 1 := by kernel_rfl
theorem fo93_2 : fieldOff Tryz.prog 93 2 = some 2 := by kernel_rfl
theorem fo93_3 : fieldOff Tryz.prog 93 3 = some 3 := by kernel_rfl
theorem fo93_4 : fieldOff Tryz.prog 93 4 = some 4 := by kernel_rfl
theorem fo98_1 : fieldOff Tryz.prog 98 1 = some 0 := by kernel_rfl
theorem fo98_2 : fieldOff Tryz.prog 98 2 = some 1 := by kernel_rfl
theorem fo98_3 : fieldOff Tryz.prog 98 3 = some 2 := by kernel_rfl
theorem fo98_4 : fieldOff Tryz.prog 98 4 = some 3 := by kernel_rfl
theorem hi128_n_32_43_67_72_100_104_207 : ([32, 43, 67, 72, 100, 104, 207] : List Nat).all (fun t => hasI Tryz.prog 128 t == some false) = true := by kernel_rfl
theorem hi128_y_ : ([] : List Nat).all (fun t => hasI Tryz.prog 128 t == some true) = true := by kernel_rfl
theorem hi130_n_32_43_67_72_100_104_207 : ([32, 43, 67, 72, 100, 104, 207] : List Nat).all (fun t => hasI Tryz.prog 130 t == some false) = true := by kernel_rfl
theorem hi130_y_ : ([] : List Nat).all (fun t => hasI Tryz.prog 130 t == some true) = true := by kernel_rfl
theorem hi133_n_32_43_67_72_100_104_207 : ([32, 43, 67, 72, 100, 104, 207] : List Nat).all (fun t => hasI Tryz.prog 133 t == some false) = true := by kernel_rfl
theorem hi133_y_ : ([] : List Nat).all (fun t => hasI Tryz.prog 133 t == some true) = true := by kernel_rfl
theorem ibe276 (args : Array Value) (w : World) : (callFunc 276 args).run Tryz.prog w = ((do let v ← Extern.BytealgIndexByte.indexByte args; pure (Next.value v)) : Sem Next).run Tryz.prog w := by kernel_rfl
theorem ibf276 {W : World → Prop} {ρ : Rho} {af : AF} {r : AR} {T' : HT} {n' c : Nat} {x y : Operand} {a b : AV} {k : AV → R} {ats : Array TypeId} (h : ibsK c a b k = .ok r T' n') (hx : evalA af x = some a) (hy : evalA af y = some b) : ∃ v, k v = .ok r T' n' ∧ VAL Tryz.prog W ρ af (.call { callee := .value (.func 276), args := #[x, y], argTypes := ats }) v :=
  ibs_of (fun s q w => by
    rw [ibe276, Sem.run_bind]
    have := Lib.run_indexByteString (P := Tryz.prog) s (q : Int) w
    rw [this]
    simp) h hx hy
theorem ii128 : isIface Tryz.prog 128 = true := by kernel_rfl
theorem ii130 : isIface Tryz.prog 130 = true := by kernel_rfl
theorem ii133 : isIface Tryz.prog 133 = true := by kernel_rfl
theorem ii25 : isIface Tryz.prog 25 = true := by kernel_rfl
theorem ii36 : isIface Tryz.prog 36 = true := by kernel_rfl
theorem inv100_Kind_313c (u : Value) (w : World) : (invoke (.fn (.method "Kind") #[]) (Value.iface 100 u :: []).toArray).run Tryz.prog w = .ok (.enter 313 (u :: []).toArray) w := by kernel_rfl
theorem inv100_Kind_313 (u : Value) (us : List Value) (w : World) (h : us.length = 0) : (invoke (.fn (.method "Kind") #[]) (Value.iface 100 u :: us).toArray).run Tryz.prog w = .ok (.enter 313 (u :: us).toArray) w := by
  rcases us with _ | ⟨_, us⟩
  · exact inv100_Kind_313c u w
  · simp at h
theorem inv104_Kind_314c (u : Value) (w : World) : (invoke (.fn (.method "Kind") #[]) (Value.iface 104 u :: []).toArray).run Tryz.prog w = .ok (.enter 314 (u :: []).toArray) w := by kernel_rfl
theorem inv104_Kind_314 (u : Value) (us : List Value) (w : World) (h : us.length = 0) : (invoke (.fn (.method "Kind") #[]) (Value.iface 104 u :: us).toArray).run Tryz.prog w = .ok (.enter 314 (u :: us).toArray) w := by
  rcases us with _ | ⟨_, us⟩
  · exact inv104_Kind_314c u w
  · simp at h
theorem inv32_Kind_308c (u : Value) (w : World) : (invoke (.fn (.method "Kind") #[]) (Value.iface 32 u :: []).toArray).run Tryz.prog w = .ok (.enter 308 (u :: []).toArray) w := by kernel_rfl
theorem inv32_Kind_308 (u : Value) (us : List Value) (w : World) (h : us.length = 0) : (invoke (.fn (.method "Kind") #[]) (Value.iface 32 u :: us).toArray).run Tryz.prog w = .ok (.enter 308 (u :: us).toArray) w := by
  rcases us with _ | ⟨_, us⟩
  · exact inv32_Kind_308c u w
  · simp at h
theorem inv43_Kind_310c (u : Value) (w : World) : (invoke (.fn (.method "Kind") #[]) (Value.iface 43 u :: []).toArray).run Tryz.prog w = .ok (.enter 310 (u :: []).toArray) w := by kernel_rfl
theorem inv43_Kind_310 (u : Value) (us : List Value) (w : World) (h : us.length = 0) : (invoke (.fn (.method "Kind") #[]) (Value.iface 43 u :: us).toArray).run Tryz.prog w = .ok (.enter 310 (u :: us).toArray) w := by
  rcases us with _ | ⟨_, us⟩
  · exact inv43_Kind_310c u w
  · simp at h
theorem inv67_Kind_311c (u : Value) (w : World) : (invoke (.fn (.method "Kind") #[]) (Value.iface 67 u :: []).toArray).run Tryz.prog w = .ok (.enter 311 (u :: []).toArray) w := by kernel_rfl
theorem inv67_Kind_311 (u : Value) (us : List Value) (w : World) (h : us.length = 0) : (invoke (.fn (.method "Kind") #[]) (Value.iface 67 u :: us).toArray).run Tryz.prog w = .ok (.enter 311 (u :: us).toArray) w := by
  rcases us with _ | ⟨_, us⟩
  · exact inv67_Kind_311c u w
  · simp at h
theorem inv72_Kind_312c (u : Value) (w : World) : (invoke (.fn (.method "Kind") #[]) (Value.iface 72 u :: []).toArray).run Tryz.prog w = .ok (.enter 312 (u :: []).toArray) w := by kernel_rfl
theorem inv72_Kind_312 (u : Value) (us : List Value) (w : World) (h : us.length = 0) : (invoke (.fn (.method "Kind") #[]) (Value.iface 72 u :: us).toArray).run Tryz.prog w = .ok (.enter 312 (u :: us).toArray) w := by
  rcases us with _ | ⟨_, us⟩
  · exact inv72_Kind_312c u w
  · simp at h
theorem ls104 : ((#[104] : Array TypeId)[0]?).bind Tryz.prog.underlying = some .string := by kernel_rfl
theorem ls109 : ((#[109] : Array TypeId)[0]?).bind Tryz.prog.underlying = some (.slice 172) := by kernel_rfl
theorem ls170 : ((#[170] : Array TypeId)[0]?).bind Tryz.prog.underlying = some (.slice 3) := by kernel_rfl
theorem ls235 : ((#[235] : Array TypeId)[0]?).bind Tryz.prog.underlying = some (.slice 4) := by kernel_rfl
theorem ls27 : ((#[27] : Array TypeId)[0]?).bind Tryz.prog.underlying = some (.slice 69) := by kernel_rfl
theorem ls285 : ((#[285] : Array TypeId)[0]?).bind Tryz.prog.underlying = some (.slice 36) := by kernel_rfl
theorem ls54 : ((#[54] : Array TypeId)[0]?).bind Tryz.prog.underlying = some (.slice 9) := by kernel_rfl
theorem ls71 : ((#[71] : Array TypeId)[0]?).bind Tryz.prog.underlying = some (.slice 25) := by kernel_rfl
theorem ls79 : ((#[79] : Array TypeId)[0]?).bind Tryz.prog.underlying = some (.slice 5) := by kernel_rfl
theorem ls9 : ((#[9] : Array TypeId)[0]?).bind Tryz.prog.underlying = some .string := by kernel_rfl
theorem ls96 : ((#[96] : Array TypeId)[0]?).bind Tryz.prog.underlying = some (.slice 101) := by kernel_rfl
theorem map95 : Tryz.prog.underlying 95 = some (.map 9 101) := by kernel_rfl
theorem ni100 : noIface Tryz.prog 100 = true := by kernel_rfl
theorem ni104 : noIface Tryz.prog 104 = true := by kernel_rfl
theorem ni123 : noIface Tryz.prog 123 = true := by kernel_rfl
theorem ni141 : noIface Tryz.prog 141 = true := by kernel_rfl
theorem ni199 : noIface Tryz.prog 199 = true := by kernel_rfl
theorem ni205 : noIface Tryz.prog 205 = true := by kernel_rfl
theorem ni207 : noIface Tryz.prog 207 = true := by kernel_rfl
theorem ni32 : noIface Tryz.prog 32 = true := by kernel_rfl
theorem ni43 : noIface Tryz.prog 43 = true := by kernel_rfl
theorem ni67 : noIface Tryz.prog 67 = true := by kernel_rfl
theorem ni72 : noIface Tryz.prog 72 = true := by kernel_rfl
theorem one101 : oneT Tryz.prog 101 = true := by kernel_rfl
theorem one109 : oneT Tryz.prog 109 = true := by kernel_rfl
theorem one170 : oneT Tryz.prog 170 = true := by kernel_rfl
theorem one183 : oneT Tryz.prog 183 = true := by kernel_rfl
theorem one235 : oneT Tryz.prog 235 = true := by kernel_rfl
theorem one25 : oneT Tryz.prog 25 = true := by kernel_rfl
theorem one27 : oneT Tryz.prog 27 = true := by kernel_rfl
theorem one3 : oneT Tryz.prog 3 = true := by kernel_rfl
theorem one36 : oneT Tryz.prog 36 = true := by kernel_rfl
theorem one4 : oneT Tryz.prog 4 = true := by kernel_rfl
theorem one5 : oneT Tryz.prog 5 = true := by kernel_rfl
theorem one54 : oneT Tryz.prog 54 = true := by kernel_rfl
theorem one69 : oneT Tryz.prog 69 = true := by kernel_rfl
theorem one71 : oneT Tryz.prog 71 = true := by kernel_rfl
theorem one79 : oneT Tryz.prog 79 = true := by kernel_rfl
theorem one9 : oneT Tryz.prog 9 = true := by kernel_rfl
theorem one95 : oneT Tryz.prog 95 = true := by kernel_rfl
theorem one96 : oneT Tryz.prog 96 = true := by kernel_rfl
theorem siz109 : sizeT Tryz.prog 109 = some 1 := by kernel_rfl
theorem siz170 : sizeT Tryz.prog 170 = some 1 := by kernel_rfl
theorem siz183 : sizeT Tryz.prog 183 = some 1 := by kernel_rfl
theorem siz3 : sizeT Tryz.prog 3 = some 1 := by kernel_rfl
theorem siz36 : sizeT Tryz.prog 36 = some 1 := by kernel_rfl
theorem siz4 : sizeT Tryz.prog 4 = some 1 := by kernel_rfl
theorem siz5 : sizeT Tryz.prog 5 = some 1 := by kernel_rfl
theorem siz79 : sizeT Tryz.prog 79 = some 1 := by kernel_rfl
theorem siz96 : sizeT Tryz.prog 96 = some 1 := by kernel_rfl
theorem slt109 : Tryz.prog.underlying 109 = some (.slice 172) := by kernel_rfl
theorem slt71 : Tryz.prog.underlying 71 = some (.slice 25) := by kernel_rfl
theorem slt79 : Tryz.prog.underlying 79 = some (.slice 5) := by kernel_rfl
theorem st104 : Tryz.prog.underlying 104 = some .string := by kernel_rfl
theorem st9 : Tryz.prog.underlying 9 = some .string := by kernel_rfl
theorem u8t5 : Tryz.prog.underlying 5 = some (.int .u8) := by kernel_rfl
theorem ud9 : Tryz.prog.underlying 9 = some .string := by kernel_rfl
theorem za100 : zeroA Tryz.prog 100 = some (.tup [.lit (.agg #[]), .lit (.bool false)]) := by kernel_rfl
theorem za104 : zeroA Tryz.prog 104 = some (.tup [.lit (.string ⟨#[]⟩), .lit (.bool false)]) := by kernel_rfl
theorem za123 : zeroA Tryz.prog 123 = some (.tup [.lit (.bool false), .lit (.bool false)]) := by kernel_rfl
theorem za141 : zeroA Tryz.prog 141 = some (.tup [.lit (.pointer none), .lit (.bool false)]) := by kernel_rfl
theorem za199 : zeroA Tryz.prog 199 = some (.tup [.lit (.pointer none), .lit (.bool false)]) := by kernel_rfl
theorem za205 : zeroA Tryz.prog 205 = some (.tup [.lit (.pointer none), .lit (.bool false)]) := by kernel_rfl
theorem za207 : zeroA Tryz.prog 207 = some (.tup [.lit (.agg #[.pointer none]), .lit (.bool false)]) := by kernel_rfl
theorem za32 : zeroA Tryz.prog 32 = some (.tup [.lit (.pointer none), .lit (.bool false)]) := by kernel_rfl
theorem za43 : zeroA Tryz.prog 43 = some (.tup [.lit (.pointer none), .lit (.bool false)]) := by kernel_rfl
theorem za67 : zeroA Tryz.prog 67 = some (.tup [.lit (.agg #[.bool false, .slice none 0 0]), .lit (.bool false)]) := by kernel_rfl
theorem za72 : zeroA Tryz.prog 72 = some (.tup [.lit (.pointer none), .lit (.bool false)]) := by kernel_rfl
theorem zr100 : ((Tryz.prog.info? 100).bind (·.zero)).map (fun z => z.cells.toList.map AV.lit) = some [] := by kernel_rfl
theorem zr109 : ((Tryz.prog.info? 109).bind (·.zero)).map (fun z => z.cells.toList.map AV.lit) = some [.lit (.slice none 0 0)] := by kernel_rfl
theorem zr172 : ((Tryz.prog.info? 172).bind (·.zero)).map (fun z => z.cells.toList.map AV.lit) = some [.lit (.int .i64 0), .lit (.int .i64 0), .lit (.int .i64 0), .lit (.string ⟨#[]⟩), .lit (.slice none 0 0)] := by kernel_rfl
theorem zr207 : ((Tryz.prog.info? 207).bind (·.zero)).map (fun z => z.cells.toList.map AV.lit) = some [.lit (.pointer none)] := by kernel_rfl
theorem zr233 : ((Tryz.prog.info? 233).bind (·.zero)).map (fun z => z.cells.toList.map AV.lit) = some [.lit (.int .i64 0), .lit (.string ⟨#[]⟩), .lit (.int .i64 0)] := by kernel_rfl
theorem zr280 : ((Tryz.prog.info? 280).bind (·.zero)).map (fun z => z.cells.toList.map AV.lit) = some [.lit (.int .u8 0), .lit (.int .u8 0), .lit (.int .u8 0), .lit (.int .u8 0), .lit (.int .u8 0), .lit (.int .u8 0), .lit (.int .u8 0), .lit (.int .u8 0), .lit (.int .u8 0), .lit (.int .u8 0), .lit (.int .u8 0), .lit (.int .u8 0), .lit (.int .u8 0), .lit (.int .u8 0), .lit (.int .u8 0), .lit (.int .u8 0), .lit (.int .u8 0), .lit (.int .u8 0), .lit (.int .u8 0), .lit (.int .u8 0), .lit (.int .u8 0), .lit (.int .u8 0), .lit (.int .u8 0), .lit (.int .u8 0)] := by kernel_rfl
theorem zr29 : ((Tryz.prog.info? 29).bind (·.zero)).map (fun z => z.cells.toList.map AV.lit) = some [.lit (.bool false), .lit (.slice none 0 0)] := by kernel_rfl
theorem zr36 : ((Tryz.prog.info? 36).bind (·.zero)).map (fun z => z.cells.toList.map AV.lit) = some [.lit (.nilIface)] := by kernel_rfl
theorem zr67 : ((Tryz.prog.info? 67).bind (·.zero)).map (fun z => z.cells.toList.map AV.lit) = some [.lit (.bool false), .lit (.slice none 0 0)] := by kernel_rfl
theorem zr93 : ((Tryz.prog.info? 93).bind (·.zero)).map (fun z => z.cells.toList.map AV.lit) = some [.lit (.int .i64 0), .lit (.bool false), .lit (.int .i64 0), .lit (.bool false), .lit (.string ⟨#[]⟩)] := by kernel_rfl
theorem zw101 : zeroW Tryz.prog 101 = some (.pointer none) := by kernel_rfl
theorem zw128 : zeroW Tryz.prog 128 = some (.nilIface) := by kernel_rfl
theorem zw130 : zeroW Tryz.prog 130 = some (.nilIface) := by kernel_rfl
theorem zw133 : zeroW Tryz.prog 133 = some (.nilIface) := by kernel_rfl
end Go.Proofs.YtlljgagoboapaaaGreatDoor.Vdf
