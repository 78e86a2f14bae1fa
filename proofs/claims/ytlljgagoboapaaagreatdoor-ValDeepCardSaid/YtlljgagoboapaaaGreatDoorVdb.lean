/-
  Proved here: plain functions that do what the program's functions do, each with its proof.
-/
import Derived.Test.YtlljgagoboapaaaGreatDoorVda
namespace Go.Proofs.YtlljgagoboapaaaGreatDoor.Vd
open Go.EY Go.EX Go.SX Go.RowKit
noncomputable def g168 (ro : List HT) (T : HT) (nx : Nat) : R :=
 bsK 1680019 T nx 17 36 1 [(0, (.iface 347 (.opq 0))), (1, (.iface 347 (.opq 1))), (2, (.iface 347 (.opq 2))), (3, (.iface 347 (.opq 3))), (4, (.iface 347 (.opq 4))), (5, (.iface 347 (.opq 5))), (6, (.iface 347 (.opq 6))), (7, (.iface 347 (.opq 7))), (8, (.iface 347 (.opq 8))), (9, (.iface 347 (.opq 9))), (10, (.iface 347 (.opq 10))), (11, (.iface 347 (.opq 11))), (12, (.iface 347 (.opq 12))), (13, (.iface 347 (.opq 13))), (14, (.iface 347 (.opq 14))), (15, (.iface 347 (.opq 15))), (16, (.iface 347 (.opq 16)))] fun x18_1 T1 n1 =>
 .ok (.val x18_1) T1 n1
theorem g168_ok (ro : List HT) (T : HT) (nx : Nat) : GOk Tryz.prog envE 168 [] ro T nx (g168 ro T nx) := by
 refine GOk.of_body Tryz.func168 rfl Tryz.ntmps168 (by kernel_rfl) rfl fun r T' n' h1 w0 base ρ0 its hS hP => ?_
 have X : CtxW envE ρ0 ro r T' n' := trivial
 unfold g168 at h1
 refine sr ?_
 refine as_ ?_
 refine dn ?_
 refine sr ?_
 refine sv (VAL.ldG hS (by rfl) Vdf.one36) ?_
 refine sv (VAL.ldG hS (by rfl) Vdf.one36) ?_
 refine sv (VAL.ldG hS (by rfl) Vdf.one36) ?_
 refine sv (VAL.ldG hS (by rfl) Vdf.one36) ?_
 refine sv (VAL.ldG hS (by rfl) Vdf.one36) ?_
 refine sv (VAL.ldG hS (by rfl) Vdf.one36) ?_
 refine sv (VAL.ldG hS (by rfl) Vdf.one36) ?_
 refine sv (VAL.ldG hS (by rfl) Vdf.one36) ?_
 refine sv (VAL.ldG hS (by rfl) Vdf.one36) ?_
 refine sv (VAL.ldG hS (by rfl) Vdf.one36) ?_
 refine sv (VAL.ldG hS (by rfl) Vdf.one36) ?_
 refine sv (VAL.ldG hS (by rfl) Vdf.one36) ?_
 refine sv (VAL.ldG hS (by rfl) Vdf.one36) ?_
 refine sv (VAL.ldG hS (by rfl) Vdf.one36) ?_
 refine sv (VAL.ldG hS (by rfl) Vdf.one36) ?_
 refine sv (VAL.ldG hS (by rfl) Vdf.one36) ?_
 refine sv (VAL.ldG hS (by rfl) Vdf.one36) ?_
 refine LV.bslice hS h1 rfl rfl Vdf.el285 rfl rfl rfl rfl fun x18_1 T1 n1 h2 ρ its hS hdr => ?_
 refine as_ ?_
 refine dn ?_
 refine CV.ret ?_
 cases h2
 exact PV.ret (by simp) Tryz.results168 hS (RS.tmp rfl RS.nil) rfl
noncomputable def g169_k1 (ro : List HT) (y0 y1 y10 : AV) (T1 : HT) (n1 : Nat) : R :=
 condK 1690005 y10
 (
  .bad 1690006
 )
 (
  eeK Tryz.prog 347 36 (.tmp 17) (.tmp 18) 1690009 y0 y1 fun x19_2 =>
  .ok (.val x19_2) T1 n1
 )
noncomputable def g169 (ro : List HT) (a0 a1 : AV) (T : HT) (nx : Nat) : R :=
 bin0 Tryz.prog .eql 36 (.tmp 5) (.const (.nilIface)) 1690003 a0 (.lit (.nilIface)) fun x6_1 =>
 condK 1690011 x6_1
 (
  g169_k1 ro a0 a1 (.lit (.bool true)) T nx
 )
 (
  bin0 Tryz.prog .eql 36 (.tmp 8) (.const (.nilIface)) 1690014 a1 (.lit (.nilIface)) fun x9_3 =>
  g169_k1 ro a0 a1 x9_3 T nx
 )
theorem g169_ok (ro : List HT) (a0 a1 : AV) (T : HT) (nx : Nat) : GOk Tryz.prog envE 169 [a0, a1] ro T nx (g169 ro a0 a1 T nx) := by
 refine GOk.of_body Tryz.func169 rfl Tryz.ntmps169 (by kernel_rfl) rfl fun r T' n' h1 w0 base ρ0 its hS hP => ?_
 have X : CtxW envE ρ0 ro r T' n' := trivial
 unfold g169 at h1
 refine sr ?_
 refine as_ ?_
 refine dn ?_
 refine CV.seq ?_
 refine sr ?_
 refine mv ?_
 refine vy (V.bin0 h1 rfl rfl) fun x6_1 h2 => ?_
 refine mv ?_
 refine ls3 X 0 1 10 [(4, (.lit (.bool false)))] (g169_k1 ro) 3 ?_ ?_
 ·
  rcases condK_inv h2 with ⟨e, h6⟩ | ⟨e, h6⟩
  ·
   clear h1 h2
   subst e
   refine sk ?_
   refine sk ?_
   refine pu ?_
   exact la3 hS h6 ⟨rfl, rfl, rfl, rfl, trivial⟩
  ·
   clear h1 h2
   subst e
   refine mv ?_
   refine vy (V.bin0 h6 rfl rfl) fun x9_3 h7 => ?_
   refine pu ?_
   exact la3 hS h7 ⟨rfl, rfl, rfl, rfl, trivial⟩
 ·
  intro y0 y1 y10 T1 n1 ρ its hS h3
  unfold g169_k1 at h3
  clear h1 h2
  refine dn ?_
  refine CV.cond h3 rfl (fun e h4 => ?_) (fun e h4 => ?_)
  ·
   clear h3
   subst e
   cases h4
  ·
   clear h3
   subst e
   refine CV.skip ?_
   refine PV.thenN ?_
   refine sr ?_
   refine mv ?_
   refine mv ?_
   refine vy (V.ee hS h4 rfl rfl Vdf.ii36 Vdf.cp347) fun x19_2 h5 => ?_
   refine as_ ?_
   refine dn ?_
   refine CV.ret ?_
   cases h5
   exact PV.ret (by simp) Tryz.results169 hS (RS.tmp rfl RS.nil) rfl
noncomputable def g128_b1 (ro : List HT) (lp1 : AV → AV → AV → AV → HT → Nat → R) (y0 y2 y3 y4 : AV) (T2 : HT) (n2 : Nat) : R :=
 lenSK 1280008 y3 fun x8_2 =>
 ltK Tryz.prog 3 (.tmp 6) (.tmp 8) 1280009 y4 x8_2 fun x9_3 =>
 condK 1280010 x9_3
 (
  iaK 1280014 y3 y4 1 fun x15_4 =>
  ldK 1280015 T2 ro x15_4 fun x16_5 =>
  callK (g169 ro y0 x16_5 T2 n2) fun x17_6 T3 n3 =>
  condK 1280017 x17_6
  (
   addK Tryz.prog 3 (.const (.int .i64 (.ofNat 101))) (.tmp 18) 1280019 (.lit (.int .i64 (.ofNat 101))) y4 fun x19_7 =>
   .ok (.val x19_7) T3 n3
  )
  (
   addK Tryz.prog 3 (.tmp 10) (.const (.int .i64 (.ofNat 1))) 1280022 y4 (.lit (.int .i64 (.ofNat 1))) fun x11_8 =>
   lp1 y0 y2 y3 x11_8 T3 n3
  )
 )
 (
  .ok (.val (.lit (.int .i64 (.negSucc 0)))) T2 n2
 )
noncomputable def g128 (ro : List HT) (a0 : AV) (T : HT) (nx : Nat) : R :=
 callK (g168 ro T nx) fun x5_1 T1 n1 =>
 lpf4 1280005 (g128_b1 ro) 100000 a0 (.lit (.int .i64 (.ofNat 0))) x5_1 (.lit (.int .i64 (.ofNat 0))) T1 n1
theorem g128_ok (ro : List HT) (a0 : AV) (T : HT) (nx : Nat) : GOk Tryz.prog envE 128 [a0] ro T nx (g128 ro a0 T nx) := by
 refine GOk.of_body Tryz.func128 rfl Tryz.ntmps128 (by kernel_rfl) rfl fun r T' n' h1 w0 base ρ0 its hS hP => ?_
 have X : CtxW envE ρ0 ro r T' n' := trivial
 unfold g128 at h1
 refine sr ?_
 refine as_ ?_
 refine dn ?_
 refine sr ?_
 refine LV.call hS h1 (g168_ok _ _ _ ) hP rfl rfl rfl rfl fun x5_1 T1 n1 h2 ρ its hS => ?_
 refine as_ ?_
 refine dn ?_
 refine CV.seq ?_
 refine sr ?_
 refine as_ ?_
 refine dn ?_
 refine CV.block ?_
 refine cl4 X 0 2 3 4 [] hS h2 ⟨rfl, rfl, rfl, rfl, trivial⟩ ?_
 intro f1 y0 y2 y3 y4 T2 n2 ρ its hS h3
 unfold g128_b1 at h3
 clear h1 h2
 refine CV.seq ?_
 refine sr ?_
 refine mv ?_
 refine mv ?_
 refine vy (V.lenS h3 rfl Vdf.ls285) fun x8_2 h4 => ?_
 refine vy (V.lt h4 rfl rfl) fun x9_3 h5 => ?_
 refine dn ?_
 refine CV.cond h5 rfl (fun e h6 => ?_) (fun e h6 => ?_)
 ·
  clear h3 h4 h5
  subst e
  refine CV.skip ?_
  refine PV.thenN ?_
  refine CV.seq ?_
  refine CV.block ?_
  refine sr ?_
  refine mv ?_
  refine mv ?_
  refine mv ?_
  refine vy (V.ia h6 rfl rfl Vdf.el285) fun x15_4 h7 => ?_
  refine vy (V.ld hS h7 rfl Vdf.one36) fun x16_5 h8 => ?_
  refine LV.call hS h8 (g169_ok _ _ _ _ _ ) hP rfl rfl rfl rfl fun x17_6 T3 n3 h9 ρ its hS => ?_
  refine dn ?_
  refine CV.cond h9 rfl (fun e h10 => ?_) (fun e h10 => ?_)
  ·
   clear h6 h7 h8 h9
   subst e
   refine sr ?_
   refine mv ?_
   refine vy (V.add h10 rfl rfl) fun x19_7 h11 => ?_
   refine as_ ?_
   refine dn ?_
   refine CV.ret ?_
   refine PV.blockR ?_
   refine PV.thenR ?_
   refine PV.thenR ?_
   refine PV.blockR ?_
   refine PV.thenR ?_
   cases h11
   exact PV.ret (by simp) Tryz.results128 hS (RS.tmp rfl RS.nil) rfl
  ·
   clear h6 h7 h8 h9
   subst e
   refine CV.skip ?_
   refine PV.blockN ?_
   refine PV.thenN ?_
   refine CV.region ?_
   refine mv ?_
   refine vy (V.add h10 rfl rfl) fun x11_8 h12 => ?_
   refine as_ ?_
   refine LV.done ?_
   exact pb4 hS h12 ⟨rfl, rfl, rfl, rfl, trivial⟩
 ·
  clear h3 h4 h5
  subst e
  refine CV.exit ?_
  refine PV.thenE ?_
  refine PV.thenE ?_
  refine PV.blockE ?_
  refine PV.thenN ?_
  refine sr ?_
  refine as_ ?_
  refine dn ?_
  refine CV.ret ?_
  cases h6
  exact PV.ret (by simp) Tryz.results128 hS (RS.tmp rfl RS.nil) rfl
noncomputable def g129 (ro : List HT) (a0 a1 : AV) (T : HT) (nx : Nat) : R :=
 newK T nx (.obj [.lit (.int .i64 0), .lit (.bool false), .lit (.int .i64 0), .lit (.bool false), .lit (.string ⟨#[]⟩)] 93) fun x4_1 T1 n1 =>
 eqK Tryz.prog 3 (.tmp 5) (.const (.int .i64 (.ofNat 0))) 1290003 a0 (.lit (.int .i64 (.ofNat 0))) fun x6_2 =>
 condK 1290004 x6_2
 (
  .bad 1290005
 )
 (
  optK 1290008 (bld93 [(0, a0), (1, (.lit (.bool true))), (2, a1)]) fun x10_3 =>
  stAK 1290009 T1 x4_1 x10_3 5 fun T2 =>
  ldAK 1290010 T2 ro x4_1 5 fun x4_4 =>
  .ok (.val x4_4) T2 n1
 )
theorem g129_ok (ro : List HT) (a0 a1 : AV) (T : HT) (nx : Nat) : GOk Tryz.prog envE 129 [a0, a1] ro T nx (g129 ro a0 a1 T nx) := by
 refine GOk.of_body Tryz.func129 rfl Tryz.ntmps129 (by kernel_rfl) rfl fun r T' n' h1 w0 base ρ0 its hS hP => ?_
 have X : CtxW envE ρ0 ro r T' n' := trivial
 unfold g129 at h1
 refine sr ?_
 refine LV.alloc hS h1 rfl Vdf.zr93 rfl rfl rfl fun x4_1 T1 n1 h2 ρ its hS hdr => ?_
 refine dn ?_
 refine CV.seq ?_
 refine sr ?_
 refine mv ?_
 refine vy (V.eq h2 rfl rfl) fun x6_2 h3 => ?_
 refine dn ?_
 refine CV.cond h3 rfl (fun e h4 => ?_) (fun e h4 => ?_)
 ·
  clear h1 h2 h3
  subst e
  cases h4
 ·
  clear h1 h2 h3
  subst e
  refine CV.skip ?_
  refine PV.thenN ?_
  refine sr ?_
  refine mv ?_
  refine mv ?_
  refine vy (V.bld h4 rfl) fun x10_3 h5 => ?_
  refine LV.stA hS h5 rfl rfl rfl Vdf.agg93 rfl rfl rfl fun T2 its h6 hS => ?_
  refine dn ?_
  refine CV.ret ?_
  refine PV.ldA (x := .tmp 4) (t := 93) hS h6 rfl Vdf.agg93 fun x4_4 h7 hVx4_4 => ?_
  cases h7
  exact PV.ret (by simp) Tryz.results129 hS (RS.cell hVx4_4 RS.nil) rfl
noncomputable def g99_k1 (ro : List HT) (y2 y3 y23 : AV) (T5 : HT) (n5 : Nat) : R :=
 condK 990020 y23
 (
  .bad 990021
 )
 (
  ncK 990023 y3 fun x26_10 =>
  faK 990024 x26_10 1 fun x27_11 =>
  ldQK 990025 T5 ro [(y3, 1, 1), (y3, 0, 1)] x27_11 fun x28_12 =>
  ncK 990027 y3 fun x31_13 =>
  faK 990028 x31_13 0 fun x32_14 =>
  ldQK 990029 T5 ro [(y3, 1, 1), (y3, 0, 1)] x32_14 fun x33_15 =>
  callK (g128 ro x28_12 T5 n5) fun x29_16 T6 n6 =>
  keepK 990031 T5 T6 [(y3, 1, 1), (y3, 0, 1)] <|
  callK (g129 ro x29_16 x33_15 T6 n6) fun x34_17 T7 n7 =>
  stAK 990033 T7 y2 x34_17 5 fun T8 =>
  ldAK 990034 T8 ro y2 5 fun x2_18 =>
  .ok (.val x2_18) T8 n7
 )
noncomputable def g99 (ro : List HT) (a0 : AV) (T : HT) (nx : Nat) : R :=
 newK T nx (.obj [.lit (.int .i64 0), .lit (.bool false), .lit (.int .i64 0), .lit (.bool false), .lit (.string ⟨#[]⟩)] 93) fun x2_1 T1 n1 =>
 asK 990003 a0 205 (.tup [.lit (.pointer none), .lit (.bool false)]) fun x7_2 =>
 exK 990005 x7_2 0 fun x8_3 =>
 exK 990006 x7_2 1 fun x9_4 =>
 notK 990010 x9_4 fun x11_5 =>
 condK 990011 x11_5
 (
  callK (g128 ro a0 T1 n1) fun x13_6 T2 n2 =>
  callK (g37 ro x13_6 T2 n2) fun x14_7 T3 n3 =>
  stAK 990015 T3 x2_1 x14_7 5 fun T4 =>
  ldAK 990016 T4 ro x2_1 5 fun x2_8 =>
  .ok (.val x2_8) T4 n3
 )
 (
  bin0 Tryz.prog .eql 205 (.tmp 15) (.const (.pointer none)) 990018 x8_3 (.lit (.pointer none)) fun x16_9 =>
  condK 990035 x16_9
  (
   g99_k1 ro x2_1 x8_3 (.lit (.bool true)) T1 n1
  )
  (
   ncK 990038 x8_3 fun x19_19 =>
   faK 990039 x19_19 1 fun x20_20 =>
   ldK 990040 T1 ro x20_20 fun x21_21 =>
   bin0 Tryz.prog .eql 36 (.tmp 21) (.const (.nilIface)) 990041 x21_21 (.lit (.nilIface)) fun x22_22 =>
   g99_k1 ro x2_1 x8_3 x22_22 T1 n1
  )
 )
theorem g99_ok (ro : List HT) (a0 : AV) (T : HT) (nx : Nat) : GOk Tryz.prog envE 99 [a0] ro T nx (g99 ro a0 T nx) := by
 refine GOk.of_body Tryz.func99 rfl Tryz.ntmps99 (by kernel_rfl) rfl fun r T' n' h1 w0 base ρ0 its hS hP => ?_
 have X : CtxW envE ρ0 ro r T' n' := trivial
 unfold g99 at h1
 refine sr ?_
 refine LV.alloc hS h1 rfl Vdf.zr93 rfl rfl rfl fun x2_1 T1 n1 h2 ρ its hS hdr => ?_
 refine dn ?_
 refine sr ?_
 refine mv ?_
 refine vy (V.as h2 rfl Vdf.ni205 Vdf.za205) fun x7_2 h3 => ?_
 refine mv ?_
 refine vy (V.ex h3 rfl) fun x8_3 h4 => ?_
 refine vy (V.ex h4 rfl) fun x9_4 h5 => ?_
 refine as_ ?_
 refine as_ ?_
 refine dn ?_
 refine CV.seq ?_
 refine sr ?_
 refine mv ?_
 refine vy (V.not h5 rfl) fun x11_5 h6 => ?_
 refine dn ?_
 refine CV.cond h6 rfl (fun e h7 => ?_) (fun e h7 => ?_)
 ·
  clear h1 h2 h3 h4 h5 h6
  subst e
  refine sr ?_
  refine mv ?_
  refine LV.call hS h7 (g128_ok _ _ _ _ ) hP rfl rfl rfl rfl fun x13_6 T2 n2 h8 ρ its hS => ?_
  refine LV.call hS h8 (g37_ok _ _ _ _ ) hP rfl rfl rfl rfl fun x14_7 T3 n3 h9 ρ its hS => ?_
  refine LV.stA hS h9 rfl rfl rfl Vdf.agg93 rfl rfl rfl fun T4 its h10 hS => ?_
  refine dn ?_
  refine CV.ret ?_
  refine PV.thenR ?_
  refine PV.ldA (x := .tmp 2) (t := 93) hS h10 rfl Vdf.agg93 fun x2_8 h11 hVx2_8 => ?_
  cases h11
  exact PV.ret (by simp) Tryz.results99 hS (RS.cell hVx2_8 RS.nil) rfl
 ·
  clear h1 h2 h3 h4 h5 h6
  subst e
  refine CV.skip ?_
  refine PV.thenN ?_
  refine CV.seq ?_
  refine sr ?_
  refine mv ?_
  refine vy (V.bin0 h7 rfl rfl) fun x16_9 h12 => ?_
  refine mv ?_
  refine ls3 X 2 3 23 [] (g99_k1 ro) 6 ?_ ?_
  ·
   rcases condK_inv h12 with ⟨e, h26⟩ | ⟨e, h26⟩
   ·
    clear h7 h12
    subst e
    refine sk ?_
    refine sk ?_
    refine sk ?_
    refine sk ?_
    refine sk ?_
    refine pu ?_
    exact la3 hS h26 ⟨rfl, rfl, rfl, trivial⟩
   ·
    clear h7 h12
    subst e
    refine mv ?_
    refine vy (V.nc h26 rfl) fun x19_19 h27 => ?_
    refine vy (V.fa h27 rfl Vdf.fo217_1) fun x20_20 h28 => ?_
    refine vy (V.ld hS h28 rfl Vdf.one36) fun x21_21 h29 => ?_
    refine vy (V.bin0 h29 rfl rfl) fun x22_22 h30 => ?_
    refine pu ?_
    exact la3 hS h30 ⟨rfl, rfl, rfl, trivial⟩
  ·
   intro y2 y3 y23 T5 n5 ρ its hS h13
   unfold g99_k1 at h13
   clear h7 h12
   refine dn ?_
   refine CV.cond h13 rfl (fun e h14 => ?_) (fun e h14 => ?_)
   ·
    clear h13
    subst e
    cases h14
   ·
    clear h13
    subst e
    refine CV.skip ?_
    refine PV.thenN ?_
    refine CV.seq ?_
    refine CV.regionMS hS [(y3, 1, 1), (y3, 0, 1)] [(0, .anywhere), (1, .anywhere), (2, .anywhere), (3, .held), (5, .anywhere), (6, .anywhere), (7, .anywhere), (8, .held), (4, .alone), (9, .alone), (10, .alone)] rfl (fun c a a' w hd hq => PanicOk.root (P := Tryz.prog) (fn := Tryz.f99) (w0 := w0) (base := base) (E := envE) (ro := ro) (r := r) (T' := T') (n' := n') (ρ0 := ρ0) c a a' w hd hq) (by kernel_rfl) ?_
    have hK := KeepS.start [(y3, 1, 1), (y3, 0, 1)] hS
    have hR := hS
    have hP0 := hP
    replace hP := PK.up hR hP
    replace hS := hR.root
    refine MV.step0 (i := 0) rfl (VAL.move rfl) rfl rfl rfl ?_
    refine MV.lift0 (i := 1) rfl (V.nc h14 rfl) rfl rfl rfl fun x26_10 h15 => ?_
    refine MV.lift0 (i := 2) rfl (V.fa h15 rfl Vdf.fo217_1) rfl rfl rfl fun x27_11 h16 => ?_
    refine MV.lift1 (i := 3) rfl hK (V.ldQ hS h16 rfl Vdf.one36) rfl rfl rfl [] (by kernel_rfl) fun x28_12 h17 => ?_
    refine MV.step0 (i := 5) rfl (VAL.move rfl) rfl rfl rfl ?_
    refine MV.lift0 (i := 6) rfl (V.nc h17 rfl) rfl rfl rfl fun x31_13 h18 => ?_
    refine MV.lift0 (i := 7) rfl (V.fa h18 rfl Vdf.fo217_0) rfl rfl rfl fun x32_14 h19 => ?_
    refine MV.lift1 (i := 8) rfl hK (V.ldQ hS h19 rfl Vdf.one3) rfl rfl rfl [3] (by kernel_rfl) fun x33_15 h20 => ?_
    refine MV.force (i := 4) rfl ?_
    refine LV.call hS h20 (g128_ok _ _ _ _ ) hP rfl rfl rfl rfl fun x29_16 T6 n6 h21 ρ its hS => ?_
    obtain ⟨hK, h22⟩ := KeepS.step hR hS h21
    refine LV.nextM [8] (by kernel_rfl) (fun _ => hK) ?_
    refine MV.force (i := 9) rfl ?_
    refine LV.call hS h22 (g129_ok _ _ _ _ _ ) hP rfl rfl rfl rfl fun x34_17 T7 n7 h23 ρ its hS => ?_
    refine LV.nextM [] (by kernel_rfl) (fun z => absurd rfl z) ?_
    refine MV.force (i := 10) rfl ?_
    refine LV.stA hS h23 rfl rfl rfl Vdf.agg93 rfl rfl rfl fun T8 its h24 hS => ?_
    refine LV.nextM [] (by kernel_rfl) (fun z => absurd rfl z) ?_
    replace hS := hR.up hS
    replace hP := hP0
    refine mdn ?_
    refine CV.ret ?_
    refine PV.ldA (x := .tmp 2) (t := 93) hS h24 rfl Vdf.agg93 fun x2_18 h25 hVx2_18 => ?_
    cases h25
    exact PV.ret (by simp) Tryz.results99 hS (RS.cell hVx2_18 RS.nil) rfl
noncomputable def g69_k1 (ro : List HT) (y2 y3 y26 : AV) (T4 : HT) (n4 : Nat) : R :=
 condK 690023 y26
 (
  .bad 690024
 )
 (
  fldK 690026 T4 ro y3 1 fun x31_10 =>
  callK (g99 ro x31_10 T4 n4) fun x32_11 T5 n5 =>
  newK T5 n5 (.obj [.lit (.int .i64 0), .lit (.bool false), .lit (.int .i64 0), .lit (.bool false), .lit (.string ⟨#[]⟩)] 93) fun x5_12 T6 n6 =>
  stAK 690029 T6 x5_12 x32_11 5 fun T7 =>
  faK 690030 x5_12 0 fun x33_13 =>
  ldK 690031 T7 ro x33_13 fun x34_14 =>
  faK 690032 x5_12 1 fun x35_15 =>
  ldK 690033 T7 ro x35_15 fun x36_16 =>
  faK 690034 x5_12 2 fun x37_17 =>
  ldK 690035 T7 ro x37_17 fun x38_18 =>
  ncK 690037 y3 fun x40_19 =>
  faK 690038 x40_19 0 fun x41_20 =>
  ldK 690039 T7 ro x41_20 fun x42_21 =>
  optK 690040 (bld93 [(0, x34_14), (1, x36_16), (2, x38_18), (3, (.lit (.bool true))), (4, x42_21)]) fun x43_22 =>
  stAK 690041 T7 y2 x43_22 5 fun T8 =>
  ldAK 690042 T8 ro y2 5 fun x2_23 =>
  .ok (.val x2_23) T8 n6
 )
noncomputable def g69 (ro : List HT) (a0 : AV) (T : HT) (nx : Nat) : R :=
 newK T nx (.obj [.lit (.int .i64 0), .lit (.bool false), .lit (.int .i64 0), .lit (.bool false), .lit (.string ⟨#[]⟩)] 93) fun x2_1 T1 n1 =>
 bin0 Tryz.prog .eql 36 (.tmp 6) (.const (.nilIface)) 690003 a0 (.lit (.nilIface)) fun x7_2 =>
 condK 690004 x7_2
 (
  .bad 690005
 )
 (
  asK 690007 a0 199 (.tup [.lit (.pointer none), .lit (.bool false)]) fun x11_3 =>
  exK 690009 x11_3 0 fun x12_4 =>
  exK 690010 x11_3 1 fun x13_5 =>
  notK 690014 x13_5 fun x15_6 =>
  condK 690015 x15_6
  (
   callK (g99 ro a0 T1 n1) fun x17_7 T2 n2 =>
   stAK 690018 T2 x2_1 x17_7 5 fun T3 =>
   ldAK 690019 T3 ro x2_1 5 fun x2_8 =>
   .ok (.val x2_8) T3 n2
  )
  (
   bin0 Tryz.prog .eql 199 (.tmp 18) (.const (.pointer none)) 690021 x12_4 (.lit (.pointer none)) fun x19_9 =>
   condK 690043 x19_9
   (
    g69_k1 ro x2_1 x12_4 (.lit (.bool true)) T1 n1
   )
   (
    ncK 690046 x12_4 fun x22_24 =>
    faK 690047 x22_24 1 fun x23_25 =>
    ldK 690048 T1 ro x23_25 fun x24_26 =>
    bin0 Tryz.prog .eql 36 (.tmp 24) (.const (.nilIface)) 690049 x24_26 (.lit (.nilIface)) fun x25_27 =>
    g69_k1 ro x2_1 x12_4 x25_27 T1 n1
   )
  )
 )
theorem g69_ok (ro : List HT) (a0 : AV) (T : HT) (nx : Nat) : GOk Tryz.prog envE 69 [a0] ro T nx (g69 ro a0 T nx) := by
 refine GOk.of_body Tryz.func69 rfl Tryz.ntmps69 (by kernel_rfl) rfl fun r T' n' h1 w0 base ρ0 its hS hP => ?_
 have X : CtxW envE ρ0 ro r T' n' := trivial
 unfold g69 at h1
 refine sr ?_
 refine LV.alloc hS h1 rfl Vdf.zr93 rfl rfl rfl fun x2_1 T1 n1 h2 ρ its hS hdr => ?_
 refine dn ?_
 refine CV.seq ?_
 refine sr ?_
 refine mv ?_
 refine vy (V.bin0 h2 rfl rfl) fun x7_2 h3 => ?_
 refine dn ?_
 refine CV.cond h3 rfl (fun e h4 => ?_) (fun e h4 => ?_)
 ·
  clear h1 h2 h3
  subst e
  cases h4
 ·
  clear h1 h2 h3
  subst e
  refine CV.skip ?_
  refine PV.thenN ?_
  refine sr ?_
  refine mv ?_
  refine vy (V.as h4 rfl Vdf.ni199 Vdf.za199) fun x11_3 h5 => ?_
  refine mv ?_
  refine vy (V.ex h5 rfl) fun x12_4 h6 => ?_
  refine vy (V.ex h6 rfl) fun x13_5 h7 => ?_
  refine as_ ?_
  refine as_ ?_
  refine dn ?_
  refine CV.seq ?_
  refine sr ?_
  refine mv ?_
  refine vy (V.not h7 rfl) fun x15_6 h8 => ?_
  refine dn ?_
  refine CV.cond h8 rfl (fun e h9 => ?_) (fun e h9 => ?_)
  ·
   clear h4 h5 h6 h7 h8
   subst e
   refine sr ?_
   refine mv ?_
   refine LV.call hS h9 (g99_ok _ _ _ _ ) hP rfl rfl rfl rfl fun x17_7 T2 n2 h10 ρ its hS => ?_
   refine LV.stA hS h10 rfl rfl rfl Vdf.agg93 rfl rfl rfl fun T3 its h11 hS => ?_
   refine dn ?_
   refine CV.ret ?_
   refine PV.thenR ?_
   refine PV.ldA (x := .tmp 2) (t := 93) hS h11 rfl Vdf.agg93 fun x2_8 h12 hVx2_8 => ?_
   cases h12
   exact PV.ret (by simp) Tryz.results69 hS (RS.cell hVx2_8 RS.nil) rfl
  ·
   clear h4 h5 h6 h7 h8
   subst e
   refine CV.skip ?_
   refine PV.thenN ?_
   refine CV.seq ?_
   refine sr ?_
   refine mv ?_
   refine vy (V.bin0 h9 rfl rfl) fun x19_9 h13 => ?_
   refine mv ?_
   refine ls3 X 2 3 26 [] (g69_k1 ro) 6 ?_ ?_
   ·
    rcases condK_inv h13 with ⟨e, h32⟩ | ⟨e, h32⟩
    ·
     clear h9 h13
     subst e
     refine sk ?_
     refine sk ?_
     refine sk ?_
     refine sk ?_
     refine sk ?_
     refine pu ?_
     exact la3 hS h32 ⟨rfl, rfl, rfl, trivial⟩
    ·
     clear h9 h13
     subst e
     refine mv ?_
     refine vy (V.nc h32 rfl) fun x22_24 h33 => ?_
     refine vy (V.fa h33 rfl Vdf.fo202_1) fun x23_25 h34 => ?_
     refine vy (V.ld hS h34 rfl Vdf.one36) fun x24_26 h35 => ?_
     refine vy (V.bin0 h35 rfl rfl) fun x25_27 h36 => ?_
     refine pu ?_
     exact la3 hS h36 ⟨rfl, rfl, rfl, trivial⟩
   ·
    intro y2 y3 y26 T4 n4 ρ its hS h14
    unfold g69_k1 at h14
    clear h9 h13
    refine dn ?_
    refine CV.cond h14 rfl (fun e h15 => ?_) (fun e h15 => ?_)
    ·
     clear h14
     subst e
     cases h15
    ·
     clear h14
     subst e
     refine CV.skip ?_
     refine PV.thenN ?_
     refine sr ?_
     refine mv ?_
     refine fl hS h15 Vdf.fo202_1 Vdf.one36 fun x31_10 h16 => ?_
     refine LV.call hS h16 (g99_ok _ _ _ _ ) hP rfl rfl rfl rfl fun x32_11 T5 n5 h17 ρ its hS => ?_
     refine LV.alloc hS h17 rfl Vdf.zr93 rfl rfl rfl fun x5_12 T6 n6 h18 ρ its hS hdr => ?_
     refine LV.stA hS h18 rfl rfl rfl Vdf.agg93 rfl rfl rfl fun T7 its h19 hS => ?_
     refine dn ?_
     refine CV.seq ?_
     refine CV.regionM [(0, .anywhere), (1, .held), (2, .anywhere), (3, .held), (4, .anywhere), (5, .held), (6, .anywhere), (7, .anywhere), (8, .anywhere), (9, .held), (10, .held), (11, .alone)] rfl (fun c a a' w hd hq => PanicOk.root (P := Tryz.prog) (fn := Tryz.f69) (w0 := w0) (base := base) (E := envE) (ro := ro) (r := r) (T' := T') (n' := n') (ρ0 := ρ0) c a a' w hd hq) (by kernel_rfl) ?_
     refine MV.lift0 (i := 0) rfl (V.fa h19 rfl Vdf.fo93_0) rfl rfl rfl fun x33_13 h20 => ?_
     refine MV.lift1 (i := 1) rfl (fun _ z => z) (V.ld hS h20 rfl Vdf.one3) rfl rfl rfl [] (by kernel_rfl) fun x34_14 h21 => ?_
     refine MV.lift0 (i := 2) rfl (V.fa h21 rfl Vdf.fo93_1) rfl rfl rfl fun x35_15 h22 => ?_
     refine MV.lift1 (i := 3) rfl (fun _ z => z) (V.ld hS h22 rfl Vdf.one4) rfl rfl rfl [1] (by kernel_rfl) fun x36_16 h23 => ?_
     refine MV.lift0 (i := 4) rfl (V.fa h23 rfl Vdf.fo93_2) rfl rfl rfl fun x37_17 h24 => ?_
     refine MV.lift1 (i := 5) rfl (fun _ z => z) (V.ld hS h24 rfl Vdf.one3) rfl rfl rfl [3, 1] (by kernel_rfl) fun x38_18 h25 => ?_
     refine MV.step0 (i := 6) rfl (VAL.move rfl) rfl rfl rfl ?_
     refine MV.lift0 (i := 7) rfl (V.nc h25 rfl) rfl rfl rfl fun x40_19 h26 => ?_
     refine MV.lift0 (i := 8) rfl (V.fa h26 rfl Vdf.fo202_0) rfl rfl rfl fun x41_20 h27 => ?_
     refine MV.lift1 (i := 9) rfl (fun _ z => z) (V.ld hS h27 rfl Vdf.one9) rfl rfl rfl [5, 3, 1] (by kernel_rfl) fun x42_21 h28 => ?_
     refine MV.lift1 (i := 10) rfl (fun _ z => z) (V.bld h28 rfl) rfl rfl rfl [] (by kernel_rfl) fun x43_22 h29 => ?_
     refine MV.force (i := 11) rfl ?_
     refine LV.stA hS h29 rfl rfl rfl Vdf.agg93 rfl rfl rfl fun T8 its h30 hS => ?_
     refine LV.nextM [] (by kernel_rfl) (fun z => absurd rfl z) ?_
     refine mdn ?_
     refine CV.ret ?_
     refine PV.ldA (x := .tmp 2) (t := 93) hS h30 rfl Vdf.agg93 fun x2_23 h31 hVx2_23 => ?_
     cases h31
     exact PV.ret (by simp) Tryz.results69 hS (RS.cell hVx2_23 RS.nil) rfl
noncomputable def g36 (ro : List HT) (a0 a1 : AV) (T : HT) (nx : Nat) : R :=
 boxK 360001 T nx a1 93 fun x3_1 T1 n1 =>
 ldAQK 360004 T1 ro [(x3_1, 0, 5)] x3_1 5 fun x7_2 =>
 callK (g69 ro a0 T1 n1) fun x6_3 T2 n2 =>
 keepK 360006 T1 T2 [(x3_1, 0, 5)] <|
 callK (g68 ro x6_3 x7_2 T2 n2) fun x8_4 T3 n3 =>
 .ok (.val x8_4) T3 n3
theorem g36_ok (ro : List HT) (a0 a1 : AV) (T : HT) (nx : Nat) : GOk Tryz.prog envE 36 [a0, a1] ro T nx (g36 ro a0 a1 T nx) := by
 refine GOk.of_body Tryz.func36 rfl Tryz.ntmps36 (by kernel_rfl) rfl fun r T' n' h1 w0 base ρ0 its hS hP => ?_
 have X : CtxW envE ρ0 ro r T' n' := trivial
 unfold g36 at h1
 refine sr ?_
 refine LV.box hS h1 rfl rfl rfl rfl rfl fun x3_1 T1 n1 h2 ρ its hS hdr => ?_
 refine as_ ?_
 refine dn ?_
 refine CV.seq ?_
 refine CV.regionMS hS [(x3_1, 0, 5)] [(0, .anywhere), (2, .held), (1, .alone), (3, .alone), (4, .alone)] rfl (fun c a a' w hd hq => PanicOk.root (P := Tryz.prog) (fn := Tryz.f36) (w0 := w0) (base := base) (E := envE) (ro := ro) (r := r) (T' := T') (n' := n') (ρ0 := ρ0) c a a' w hd hq) (by kernel_rfl) ?_
 have hK := KeepS.start [(x3_1, 0, 5)] hS
 have hR := hS
 have hP0 := hP
 replace hP := PK.up hR hP
 replace hS := hR.root
 refine MV.step0 (i := 0) rfl (VAL.move rfl) rfl rfl rfl ?_
 refine MV.lift1 (i := 2) rfl hK (V.ldAQ hS h2 rfl Vdf.agg93) rfl rfl rfl [] (by kernel_rfl) fun x7_2 h3 => ?_
 refine MV.force (i := 1) rfl ?_
 refine LV.call hS h3 (g69_ok _ _ _ _ ) hP rfl rfl rfl rfl fun x6_3 T2 n2 h4 ρ its hS => ?_
 obtain ⟨hK, h5⟩ := KeepS.step hR hS h4
 refine LV.nextM [2] (by kernel_rfl) (fun _ => hK) ?_
 refine MV.force (i := 3) rfl ?_
 refine LV.call hS h5 (g68_ok _ _ _ _ _ ) hP rfl rfl rfl rfl fun x8_4 T3 n3 h6 ρ its hS => ?_
 refine LV.nextM [] (by kernel_rfl) (fun z => absurd rfl z) ?_
 refine MV.force (i := 4) rfl ?_
 refine as_ ?_
 refine LV.nextM [] (by kernel_rfl) (fun z => absurd rfl z) ?_
 replace hS := hR.up hS
 replace hP := hP0
 refine mdn ?_
 refine CV.ret ?_
 cases h6
 exact PV.ret (by simp) Tryz.results36 hS (RS.tmp rfl RS.nil) rfl
noncomputable def g15 (ro : List HT) (a0 a1 : AV) (T : HT) (nx : Nat) : R :=
 callK (g37 ro a1 T nx) fun x7_1 T1 n1 =>
 callK (g36 ro a0 x7_1 T1 n1) fun x8_2 T2 n2 =>
 .ok (.val x8_2) T2 n2
theorem g15_ok (ro : List HT) (a0 a1 : AV) (T : HT) (nx : Nat) : GOk Tryz.prog envE 15 [a0, a1] ro T nx (g15 ro a0 a1 T nx) := by
 refine GOk.of_body Tryz.func15 rfl Tryz.ntmps15 (by kernel_rfl) rfl fun r T' n' h1 w0 base ρ0 its hS hP => ?_
 have X : CtxW envE ρ0 ro r T' n' := trivial
 unfold g15 at h1
 refine sr ?_
 refine as_ ?_
 refine dn ?_
 refine sr ?_
 refine mv ?_
 refine mv ?_
 refine LV.call hS h1 (g37_ok _ _ _ _ ) hP rfl rfl rfl rfl fun x7_1 T1 n1 h2 ρ its hS => ?_
 refine LV.call hS h2 (g36_ok _ _ _ _ _ ) hP rfl rfl rfl rfl fun x8_2 T2 n2 h3 ρ its hS => ?_
 refine as_ ?_
 refine dn ?_
 refine CV.ret ?_
 cases h3
 exact PV.ret (by simp) Tryz.results15 hS (RS.tmp rfl RS.nil) rfl
noncomputable def g19 (ro : List HT) (a0 : AV) (T : HT) (nx : Nat) : R :=
 .ok (.val (.iface 104 a0)) T nx
theorem g19_ok (ro : List HT) (a0 : AV) (T : HT) (nx : Nat) : GOk Tryz.prog envE 19 [a0] ro T nx (g19 ro a0 T nx) := by
 refine GOk.of_body Tryz.func19 rfl Tryz.ntmps19 (by kernel_rfl) rfl fun r T' n' h1 w0 base ρ0 its hS hP => ?_
 have X : CtxW envE ρ0 ro r T' n' := trivial
 unfold g19 at h1
 refine sr ?_
 refine as_ ?_
 refine dn ?_
 refine sr ?_
 refine mv ?_
 refine sv (VAL.mkI rfl Vdf.ni104) ?_
 refine as_ ?_
 refine dn ?_
 refine CV.ret ?_
 cases h1
 exact PV.ret (by simp) Tryz.results19 hS (RS.tmp rfl RS.nil) rfl
noncomputable def g103 (ro : List HT) (a0 a1 a2 a3 a4 : AV) (T : HT) (nx : Nat) : R :=
 fldK 1030004 T ro a0 2 fun x15_1 =>
 optK 1030009 (bld172 [(0, a1), (2, a2), (3, a3), (4, a4)]) fun x20_2 =>
 bsK 1030010 T nx 1 172 5 [(0, x20_2)] fun x21_3 T1 n1 =>
 shrK 1030012 T1 x15_1 fun T2 =>
 appEK 1030011 T2 ro n1 172 5 64 x15_1 x21_3 fun x22_4 T3 n3 =>
 faK 1030013 a0 2 fun x24_5 =>
 stK 1030014 T3 x24_5 x22_4 fun T4 =>
 fldK 1030016 T4 ro a0 2 fun x28_6 =>
 lenSK 1030017 x28_6 fun x29_7 =>
 subK Tryz.prog 3 (.tmp 29) (.const (.int .i64 (.ofNat 1))) 1030018 x29_7 (.lit (.int .i64 (.ofNat 1))) fun x30_8 =>
 .ok (.val x30_8) T4 n3
theorem g103_ok (ro : List HT) (a0 a1 a2 a3 a4 : AV) (T : HT) (nx : Nat) : GOk Tryz.prog envE 103 [a0, a1, a2, a3, a4] ro T nx (g103 ro a0 a1 a2 a3 a4 T nx) := by
 refine GOk.of_body Tryz.func103 rfl Tryz.ntmps103 (by kernel_rfl) rfl fun r T' n' h1 w0 base ρ0 its hS hP => ?_
 have X : CtxW envE ρ0 ro r T' n' := trivial
 unfold g103 at h1
 refine sr ?_
 refine as_ ?_
 refine dn ?_
 refine sr ?_
 refine mv ?_
 refine mv ?_
 refine fl hS h1 Vdf.fo185_2 Vdf.one109 fun x15_1 h2 => ?_
 refine mv ?_
 refine mv ?_
 refine mv ?_
 refine mv ?_
 refine vy (V.bld h2 rfl) fun x20_2 h3 => ?_
 refine LV.bslice hS h3 rfl rfl Vdf.el109 rfl rfl rfl rfl fun x21_3 T1 n1 h4 ρ its hS hdr => ?_
 obtain ⟨T2, its1, h5, hS, hW⟩ := shrK_inv hS h4
 refine LV.world hW ?_
 refine LV.appE hS h5 rfl rfl rfl rfl Vdf.el109 rfl rfl rfl fun x22_4 T3 n3 h6 ρ its hS => ?_
 refine fa2 h6 Vdf.fo185_2 fun x24_5 h7 => ?_
 refine LV.st hS h7 rfl rfl rfl Vdf.siz109 rfl rfl fun T4 its h8 hS => ?_
 refine dn ?_
 refine sr ?_
 refine mv ?_
 refine fl hS h8 Vdf.fo185_2 Vdf.one109 fun x28_6 h9 => ?_
 refine vy (V.lenS h9 rfl Vdf.ls109) fun x29_7 h10 => ?_
 refine vy (V.sub h10 rfl rfl) fun x30_8 h11 => ?_
 refine as_ ?_
 refine dn ?_
 refine CV.ret ?_
 cases h11
 exact PV.ret (by simp) Tryz.results103 hS (RS.tmp rfl RS.nil) rfl
noncomputable def g152 (ro : List HT) (a0 : AV) (T : HT) (nx : Nat) : R :=
 ncK 1520003 a0 fun x4_1 =>
 faK 1520004 x4_1 0 fun x5_2 =>
 ldK 1520005 T ro x5_2 fun x6_3 =>
 ncK 1520007 a0 fun x8_4 =>
 faK 1520008 x8_4 1 fun x9_5 =>
 ldK 1520009 T ro x9_5 fun x10_6 =>
 iaK 1520010 x6_3 x10_6 3 fun x11_7 =>
 faK 1520011 x11_7 2 fun x12_8 =>
 ldK 1520012 T ro x12_8 fun x13_9 =>
 .ok (.val x13_9) T nx
theorem g152_ok (ro : List HT) (a0 : AV) (T : HT) (nx : Nat) : GOk Tryz.prog envE 152 [a0] ro T nx (g152 ro a0 T nx) := by
 refine GOk.of_body Tryz.func152 rfl Tryz.ntmps152 (by kernel_rfl) rfl fun r T' n' h1 w0 base ρ0 its hS hP => ?_
 have X : CtxW envE ρ0 ro r T' n' := trivial
 unfold g152 at h1
 refine sr ?_
 refine as_ ?_
 refine dn ?_
 refine CV.seq ?_
 refine CV.regionM [(0, .anywhere), (1, .anywhere), (2, .anywhere), (3, .held), (4, .anywhere), (5, .anywhere), (6, .anywhere), (7, .held), (8, .held), (9, .held), (10, .held), (11, .held)] rfl (fun c a a' w hd hq => PanicOk.root (P := Tryz.prog) (fn := Tryz.f152) (w0 := w0) (base := base) (E := envE) (ro := ro) (r := r) (T' := T') (n' := n') (ρ0 := ρ0) c a a' w hd hq) (by kernel_rfl) ?_
 refine MV.step0 (i := 0) rfl (VAL.move rfl) rfl rfl rfl ?_
 refine MV.lift0 (i := 1) rfl (V.nc h1 rfl) rfl rfl rfl fun x4_1 h2 => ?_
 refine MV.lift0 (i := 2) rfl (V.fa h2 rfl Vdf.fo185_0) rfl rfl rfl fun x5_2 h3 => ?_
 refine MV.lift1 (i := 3) rfl (fun _ z => z) (V.ld hS h3 rfl Vdf.one183) rfl rfl rfl [] (by kernel_rfl) fun x6_3 h4 => ?_
 refine MV.step0 (i := 4) rfl (VAL.move rfl) rfl rfl rfl ?_
 refine MV.lift0 (i := 5) rfl (V.nc h4 rfl) rfl rfl rfl fun x8_4 h5 => ?_
 refine MV.lift0 (i := 6) rfl (V.fa h5 rfl Vdf.fo185_1) rfl rfl rfl fun x9_5 h6 => ?_
 refine MV.lift1 (i := 7) rfl (fun _ z => z) (V.ld hS h6 rfl Vdf.one3) rfl rfl rfl [3] (by kernel_rfl) fun x10_6 h7 => ?_
 refine MV.lift1 (i := 8) rfl (fun _ z => z) (V.ia h7 rfl rfl Vdf.el183) rfl rfl rfl [] (by kernel_rfl) fun x11_7 h8 => ?_
 refine MV.lift1 (i := 9) rfl (fun _ z => z) (V.fa h8 rfl Vdf.fo233_2) rfl rfl rfl [] (by kernel_rfl) fun x12_8 h9 => ?_
 refine MV.lift1 (i := 10) rfl (fun _ z => z) (V.ld hS h9 rfl Vdf.one3) rfl rfl rfl [] (by kernel_rfl) fun x13_9 h10 => ?_
 refine MV.step1 (i := 11) rfl (fun _ z => z) (VAL.assign rfl) rfl rfl rfl [] (by kernel_rfl) ?_
 refine mdn ?_
 refine CV.ret ?_
 cases h10
 exact PV.ret (by simp) Tryz.results152 hS (RS.tmp rfl RS.nil) rfl
noncomputable def g86 (ro : List HT) (a0 : AV) (T : HT) (nx : Nat) : R :=
 ncK 860003 a0 fun x4_1 =>
 faK 860004 x4_1 0 fun x5_2 =>
 ldK 860005 T ro x5_2 fun x6_3 =>
 ncK 860007 a0 fun x8_4 =>
 faK 860008 x8_4 1 fun x9_5 =>
 ldK 860009 T ro x9_5 fun x10_6 =>
 iaK 860010 x6_3 x10_6 3 fun x11_7 =>
 faK 860011 x11_7 0 fun x12_8 =>
 ldK 860012 T ro x12_8 fun x13_9 =>
 .ok (.val x13_9) T nx
theorem g86_ok (ro : List HT) (a0 : AV) (T : HT) (nx : Nat) : GOk Tryz.prog envE 86 [a0] ro T nx (g86 ro a0 T nx) := by
 refine GOk.of_body Tryz.func86 rfl Tryz.ntmps86 (by kernel_rfl) rfl fun r T' n' h1 w0 base ρ0 its hS hP => ?_
 have X : CtxW envE ρ0 ro r T' n' := trivial
 unfold g86 at h1
 refine sr ?_
 refine as_ ?_
 refine dn ?_
 refine CV.seq ?_
 refine CV.regionM [(0, .anywhere), (1, .anywhere), (2, .anywhere), (3, .held), (4, .anywhere), (5, .anywhere), (6, .anywhere), (7, .held), (8, .held), (9, .held), (10, .held), (11, .held)] rfl (fun c a a' w hd hq => PanicOk.root (P := Tryz.prog) (fn := Tryz.f86) (w0 := w0) (base := base) (E := envE) (ro := ro) (r := r) (T' := T') (n' := n') (ρ0 := ρ0) c a a' w hd hq) (by kernel_rfl) ?_
 refine MV.step0 (i := 0) rfl (VAL.move rfl) rfl rfl rfl ?_
 refine MV.lift0 (i := 1) rfl (V.nc h1 rfl) rfl rfl rfl fun x4_1 h2 => ?_
 refine MV.lift0 (i := 2) rfl (V.fa h2 rfl Vdf.fo185_0) rfl rfl rfl fun x5_2 h3 => ?_
 refine MV.lift1 (i := 3) rfl (fun _ z => z) (V.ld hS h3 rfl Vdf.one183) rfl rfl rfl [] (by kernel_rfl) fun x6_3 h4 => ?_
 refine MV.step0 (i := 4) rfl (VAL.move rfl) rfl rfl rfl ?_
 refine MV.lift0 (i := 5) rfl (V.nc h4 rfl) rfl rfl rfl fun x8_4 h5 => ?_
 refine MV.lift0 (i := 6) rfl (V.fa h5 rfl Vdf.fo185_1) rfl rfl rfl fun x9_5 h6 => ?_
 refine MV.lift1 (i := 7) rfl (fun _ z => z) (V.ld hS h6 rfl Vdf.one3) rfl rfl rfl [3] (by kernel_rfl) fun x10_6 h7 => ?_
 refine MV.lift1 (i := 8) rfl (fun _ z => z) (V.ia h7 rfl rfl Vdf.el183) rfl rfl rfl [] (by kernel_rfl) fun x11_7 h8 => ?_
 refine MV.lift1 (i := 9) rfl (fun _ z => z) (V.fa h8 rfl Vdf.fo233_0) rfl rfl rfl [] (by kernel_rfl) fun x12_8 h9 => ?_
 refine MV.lift1 (i := 10) rfl (fun _ z => z) (V.ld hS h9 rfl Vdf.one3) rfl rfl rfl [] (by kernel_rfl) fun x13_9 h10 => ?_
 refine MV.step1 (i := 11) rfl (fun _ z => z) (VAL.assign rfl) rfl rfl rfl [] (by kernel_rfl) ?_
 refine mdn ?_
 refine CV.ret ?_
 cases h10
 exact PV.ret (by simp) Tryz.results86 hS (RS.tmp rfl RS.nil) rfl
noncomputable def g150_b1 (ro : List HT) (lp1 : AV → AV → AV → AV → AV → HT → Nat → R) (y0 y1 y4 y7 y8 : AV) (T1 : HT) (n1 : Nat) : R :=
 ltK Tryz.prog 3 (.tmp 8) (.tmp 7) 1500006 y8 y7 fun x9_2 =>
 condK 1500007 x9_2
 (
  iaK 1500013 y0 y8 1 fun x14_3 =>
  ldK 1500014 T1 ro x14_3 fun x15_4 =>
  eqSK Tryz.prog 9 (.tmp 11) (.tmp 15) 1500015 y1 x15_4 fun x16_5 =>
  condK 1500016 x16_5
  (
   .ok (.val y8) T1 n1
  )
  (
   addK Tryz.prog 3 (.tmp 8) (.const (.int .i64 (.ofNat 1))) 1500019 y8 (.lit (.int .i64 (.ofNat 1))) fun x18_6 =>
   lp1 y0 y1 y4 y7 x18_6 T1 n1
  )
 )
 (
  .ok (.val (.lit (.int .i64 (.negSucc 0)))) T1 n1
 )
noncomputable def g150 (ro : List HT) (a0 a1 : AV) (T : HT) (nx : Nat) : R :=
 lenSK 1500003 a0 fun x7_1 =>
 lpf5 1500005 (g150_b1 ro) 100000 a0 a1 (.lit (.int .i64 (.ofNat 0))) x7_1 (.lit (.int .i64 (.ofNat 0))) T nx
theorem g150_ok (ro : List HT) (a0 a1 : AV) (T : HT) (nx : Nat) : GOk Tryz.prog envE 150 [a0, a1] ro T nx (g150 ro a0 a1 T nx) := by
 refine GOk.of_body Tryz.func150 rfl Tryz.ntmps150 (by kernel_rfl) rfl fun r T' n' h1 w0 base ρ0 its hS hP => ?_
 have X : CtxW envE ρ0 ro r T' n' := trivial
 unfold g150 at h1
 refine sr ?_
 refine as_ ?_
 refine dn ?_
 refine CV.seq ?_
 refine sr ?_
 refine mv ?_
 refine vy (V.lenS h1 rfl Vdf.ls54) fun x7_1 h2 => ?_
 refine mv ?_
 refine dn ?_
 refine CV.block ?_
 refine cl5 X 0 1 4 7 8 [] hS h2 ⟨rfl, rfl, rfl, rfl, rfl, trivial⟩ ?_
 intro f1 y0 y1 y4 y7 y8 T1 n1 ρ its hS h3
 unfold g150_b1 at h3
 clear h1 h2
 refine sr ?_
 refine vy (V.lt h3 rfl rfl) fun x9_2 h4 => ?_
 refine dn ?_
 refine CV.seq ?_
 refine CV.cond h4 rfl (fun e h5 => ?_) (fun e h5 => ?_)
 ·
  clear h3 h4
  subst e
  refine CV.skip ?_
  refine PV.thenN ?_
  refine CV.seq ?_
  refine CV.block ?_
  refine sr ?_
  refine mv ?_
  refine as_ ?_
  refine dn ?_
  refine sr ?_
  refine mv ?_
  refine mv ?_
  refine mv ?_
  refine vy (V.ia h5 rfl rfl Vdf.el54) fun x14_3 h6 => ?_
  refine vy (V.ld hS h6 rfl Vdf.one9) fun x15_4 h7 => ?_
  refine vy (V.eqS h7 rfl rfl) fun x16_5 h8 => ?_
  refine dn ?_
  refine CV.cond h8 rfl (fun e h9 => ?_) (fun e h9 => ?_)
  ·
   clear h5 h6 h7 h8
   subst e
   refine sr ?_
   refine mv ?_
   refine as_ ?_
   refine dn ?_
   refine CV.ret ?_
   refine PV.blockR ?_
   refine PV.thenR ?_
   refine PV.thenR ?_
   refine PV.blockR ?_
   refine PV.thenR ?_
   cases h9
   exact PV.ret (by simp) Tryz.results150 hS (RS.tmp rfl RS.nil) rfl
  ·
   clear h5 h6 h7 h8
   subst e
   refine CV.skip ?_
   refine PV.blockN ?_
   refine PV.thenN ?_
   refine CV.region ?_
   refine vy (V.add h9 rfl rfl) fun x18_6 h10 => ?_
   refine mv ?_
   refine LV.done ?_
   exact pb5 hS h10 ⟨rfl, rfl, rfl, rfl, rfl, trivial⟩
 ·
  clear h3 h4
  subst e
  refine CV.exit ?_
  refine PV.thenE ?_
  refine PV.thenE ?_
  refine PV.blockE ?_
  refine PV.thenN ?_
  refine sr ?_
  refine as_ ?_
  refine dn ?_
  refine CV.ret ?_
  cases h5
  exact PV.ret (by simp) Tryz.results150 hS (RS.tmp rfl RS.nil) rfl
noncomputable def g142 (ro : List HT) (a0 a1 : AV) (T : HT) (nx : Nat) : R :=
 callK (g150 ro a0 a1 T nx) fun x7_1 T1 n1 =>
 geK Tryz.prog 3 (.tmp 7) (.const (.int .i64 (.ofNat 0))) 1420005 x7_1 (.lit (.int .i64 (.ofNat 0))) fun x8_2 =>
 .ok (.val x8_2) T1 n1
theorem g142_ok (ro : List HT) (a0 a1 : AV) (T : HT) (nx : Nat) : GOk Tryz.prog envE 142 [a0, a1] ro T nx (g142 ro a0 a1 T nx) := by
 refine GOk.of_body Tryz.func142 rfl Tryz.ntmps142 (by kernel_rfl) rfl fun r T' n' h1 w0 base ρ0 its hS hP => ?_
 have X : CtxW envE ρ0 ro r T' n' := trivial
 unfold g142 at h1
 refine sr ?_
 refine as_ ?_
 refine dn ?_
 refine sr ?_
 refine mv ?_
 refine mv ?_
 refine LV.call hS h1 (g150_ok _ _ _ _ _ ) hP rfl rfl rfl rfl fun x7_1 T1 n1 h2 ρ its hS => ?_
 refine vy (V.ge h2 rfl rfl) fun x8_2 h3 => ?_
 refine as_ ?_
 refine dn ?_
 refine CV.ret ?_
 cases h3
 exact PV.ret (by simp) Tryz.results142 hS (RS.tmp rfl RS.nil) rfl
noncomputable def g134 (ro : List HT) (a0 a1 : AV) (T : HT) (nx : Nat) : R :=
 callQ 1340003 (g86 (T :: ro) a0 .nil nx) fun x6_1 =>
 eqK Tryz.prog 3 (.tmp 6) (.const (.int .i64 (.ofNat 4))) 1340004 x6_1 (.lit (.int .i64 (.ofNat 4))) fun x7_2 =>
 condK 1340006 x7_2
 (
  ncK 1340009 a0 fun x11_3 =>
  faK 1340010 x11_3 0 fun x12_4 =>
  ldK 1340011 T ro x12_4 fun x13_5 =>
  ncK 1340013 a0 fun x15_6 =>
  faK 1340014 x15_6 1 fun x16_7 =>
  ldK 1340015 T ro x16_7 fun x17_8 =>
  iaK 1340016 x13_5 x17_8 3 fun x18_9 =>
  faK 1340017 x18_9 1 fun x19_10 =>
  ldK 1340018 T ro x19_10 fun x20_11 =>
  callQ 1340019 (g142 (T :: ro) a1 x20_11 .nil nx) fun x21_12 =>
  .ok (.val x21_12) T nx
 )
 (
  .ok (.val (.lit (.bool false))) T nx
 )
theorem g134_ok (ro : List HT) (a0 a1 : AV) (T : HT) (nx : Nat) : GOk Tryz.prog envE 134 [a0, a1] ro T nx (g134 ro a0 a1 T nx) := by
 refine GOk.of_body Tryz.func134 rfl Tryz.ntmps134 (by kernel_rfl) rfl fun r T' n' h1 w0 base ρ0 its hS hP => ?_
 have X : CtxW envE ρ0 ro r T' n' := trivial
 unfold g134 at h1
 refine sr ?_
 refine as_ ?_
 refine dn ?_
 refine CV.seq ?_
 refine CV.regionM [(0, .anywhere), (1, .alone), (2, .anywhere), (3, .anywhere), (4, .anywhere), (5, .anywhere), (6, .anywhere), (7, .anywhere), (8, .held), (9, .anywhere), (10, .anywhere), (11, .anywhere), (12, .held), (13, .held), (14, .held), (15, .held), (16, .alone), (17, .anywhere), (18, .anywhere)] rfl (fun c a a' w hd hq => PanicOk.root (P := Tryz.prog) (fn := Tryz.f134) (w0 := w0) (base := base) (E := envE) (ro := ro) (r := r) (T' := T') (n' := n') (ρ0 := ρ0) c a a' w hd hq) (by kernel_rfl) ?_
 refine MV.step0 (i := 0) rfl (VAL.move rfl) rfl rfl rfl ?_
 refine MV.force (i := 1) rfl ?_
 refine LV.callQ hS h1 (g86_ok _ _ _ _ ) rfl rfl rfl rfl fun x6_1 h2 => ?_
 refine LV.nextM [] (by kernel_rfl) (fun z => absurd rfl z) ?_
 refine MV.lift0 (i := 2) rfl (V.eq h2 rfl rfl) rfl rfl rfl fun x7_2 h3 => ?_
 refine MV.step0 (i := 3) rfl (VAL.move rfl) rfl rfl rfl ?_
 rcases condK_inv h3 with ⟨e, h4⟩ | ⟨e, h4⟩
 ·
  clear h1 h2 h3
  subst e
  refine MV.step0 (i := 4) rfl (VAL.move rfl) rfl rfl rfl ?_
  refine MV.step0 (i := 5) rfl (VAL.move rfl) rfl rfl rfl ?_
  refine MV.lift0 (i := 6) rfl (V.nc h4 rfl) rfl rfl rfl fun x11_3 h5 => ?_
  refine MV.lift0 (i := 7) rfl (V.fa h5 rfl Vdf.fo185_0) rfl rfl rfl fun x12_4 h6 => ?_
  refine MV.lift1 (i := 8) rfl (fun _ z => z) (V.ld hS h6 rfl Vdf.one183) rfl rfl rfl [] (by kernel_rfl) fun x13_5 h7 => ?_
  refine MV.step0 (i := 9) rfl (VAL.move rfl) rfl rfl rfl ?_
  refine MV.lift0 (i := 10) rfl (V.nc h7 rfl) rfl rfl rfl fun x15_6 h8 => ?_
  refine MV.lift0 (i := 11) rfl (V.fa h8 rfl Vdf.fo185_1) rfl rfl rfl fun x16_7 h9 => ?_
  refine MV.lift1 (i := 12) rfl (fun _ z => z) (V.ld hS h9 rfl Vdf.one3) rfl rfl rfl [8] (by kernel_rfl) fun x17_8 h10 => ?_
  refine MV.lift1 (i := 13) rfl (fun _ z => z) (V.ia h10 rfl rfl Vdf.el183) rfl rfl rfl [] (by kernel_rfl) fun x18_9 h11 => ?_
  refine MV.lift1 (i := 14) rfl (fun _ z => z) (V.fa h11 rfl Vdf.fo233_1) rfl rfl rfl [] (by kernel_rfl) fun x19_10 h12 => ?_
  refine MV.lift1 (i := 15) rfl (fun _ z => z) (V.ld hS h12 rfl Vdf.one9) rfl rfl rfl [] (by kernel_rfl) fun x20_11 h13 => ?_
  refine MV.force (i := 16) rfl ?_
  refine LV.callQ hS h13 (g142_ok _ _ _ _ _ ) rfl rfl rfl rfl fun x21_12 h14 => ?_
  refine LV.nextM [] (by kernel_rfl) (fun z => absurd rfl z) ?_
  refine MV.step0 (i := 17) rfl (VAL.pure rfl) rfl rfl rfl ?_
  refine MV.step0 (i := 18) rfl (VAL.assign rfl) rfl rfl rfl ?_
  refine mdn ?_
  refine CV.ret ?_
  cases h14
  exact PV.ret (by simp) Tryz.results134 hS (RS.tmp rfl RS.nil) rfl
 ·
  clear h1 h2 h3
  subst e
  refine MV.skip0 (i := 4) rfl rfl rfl rfl ?_
  refine MV.skip0 (i := 5) rfl rfl rfl rfl ?_
  refine MV.skip0 (i := 6) rfl rfl rfl rfl ?_
  refine MV.skip0 (i := 7) rfl rfl rfl rfl ?_
  refine MV.skip1 (i := 8) rfl (fun _ z => z) rfl rfl rfl [] (by kernel_rfl) ?_
  refine MV.skip0 (i := 9) rfl rfl rfl rfl ?_
  refine MV.skip0 (i := 10) rfl rfl rfl rfl ?_
  refine MV.skip0 (i := 11) rfl rfl rfl rfl ?_
  refine MV.skip1 (i := 12) rfl (fun _ z => z) rfl rfl rfl [8] (by kernel_rfl) ?_
  refine MV.skip1 (i := 13) rfl (fun _ z => z) rfl rfl rfl [] (by kernel_rfl) ?_
  refine MV.skip1 (i := 14) rfl (fun _ z => z) rfl rfl rfl [] (by kernel_rfl) ?_
  refine MV.skip1 (i := 15) rfl (fun _ z => z) rfl rfl rfl [] (by kernel_rfl) ?_
  refine MV.force (i := 16) rfl ?_
  refine sk ?_
  refine LV.nextM [] (by kernel_rfl) (fun z => absurd rfl z) ?_
  refine MV.step0 (i := 17) rfl (VAL.pure rfl) rfl rfl rfl ?_
  refine MV.step0 (i := 18) rfl (VAL.assign rfl) rfl rfl rfl ?_
  refine mdn ?_
  refine CV.ret ?_
  cases h4
  exact PV.ret (by simp) Tryz.results134 hS (RS.tmp rfl RS.nil) rfl
noncomputable def g179 (ro : List HT) (a0 a1 : AV) (T : HT) (nx : Nat) : R :=
 fldK 1790002 T ro a0 3 fun x7_1 =>
 geK Tryz.prog 3 (.tmp 7) (.const (.int .i64 (.ofNat 60))) 1790003 x7_1 (.lit (.int .i64 (.ofNat 60))) fun x8_2 =>
 condK 1790004 x8_2
 (
  .bad 1790005
 )
 (
  fldK 1790007 T ro a0 3 fun x15_3 =>
  addK Tryz.prog 3 (.tmp 15) (.const (.int .i64 (.ofNat 1))) 1790008 x15_3 (.lit (.int .i64 (.ofNat 1))) fun x16_4 =>
  faK 1790009 a0 3 fun x18_5 =>
  stK 1790010 T x18_5 x16_4 fun T1 =>
  .ok (.val (.tup [])) T1 nx
 )
theorem g179_ok (ro : List HT) (a0 a1 : AV) (T : HT) (nx : Nat) : GOk Tryz.prog envE 179 [a0, a1] ro T nx (g179 ro a0 a1 T nx) := by
 refine GOk.of_body Tryz.func179 rfl Tryz.ntmps179 (by kernel_rfl) rfl fun r T' n' h1 w0 base ρ0 its hS hP => ?_
 have X : CtxW envE ρ0 ro r T' n' := trivial
 unfold g179 at h1
 refine CV.seq ?_
 refine sr ?_
 refine mv ?_
 refine fl hS h1 Vdf.fo185_3 Vdf.one3 fun x7_1 h2 => ?_
 refine vy (V.ge h2 rfl rfl) fun x8_2 h3 => ?_
 refine dn ?_
 refine CV.cond h3 rfl (fun e h4 => ?_) (fun e h4 => ?_)
 ·
  clear h1 h2 h3
  subst e
  cases h4
 ·
  clear h1 h2 h3
  subst e
  refine CV.skip ?_
  refine PV.thenN ?_
  refine CV.region ?_
  refine mv ?_
  refine fl hS h4 Vdf.fo185_3 Vdf.one3 fun x15_3 h5 => ?_
  refine vy (V.add h5 rfl rfl) fun x16_4 h6 => ?_
  refine fa2 h6 Vdf.fo185_3 fun x18_5 h7 => ?_
  refine LV.st hS h7 rfl rfl rfl Vdf.siz3 rfl rfl fun T1 its h8 hS => ?_
  refine LV.done ?_
  cases h8
  exact PV.ret (by simp) Tryz.results179 hS RS.nil rfl
noncomputable def g154 (ro : List HT) (a0 a1 : AV) (T : HT) (nx : Nat) : R :=
 bsK 1540004 T nx 1 9 1 [(0, a1)] fun x7_1 T1 n1 =>
 callK (g134 ro a0 x7_1 T1 n1) fun x8_2 T2 n2 =>
 notK 1540006 x8_2 fun x9_3 =>
 condK 1540007 x9_3
 (
  .ok (.val (.lit (.bool false))) T2 n2
 )
 (
  fldK 1540010 T2 ro a0 1 fun x13_4 =>
  addK Tryz.prog 3 (.tmp 13) (.const (.int .i64 (.ofNat 1))) 1540011 x13_4 (.lit (.int .i64 (.ofNat 1))) fun x14_5 =>
  faK 1540012 a0 1 fun x16_6 =>
  stK 1540013 T2 x16_6 x14_5 fun T3 =>
  .ok (.val (.lit (.bool true))) T3 n2
 )
theorem g154_ok (ro : List HT) (a0 a1 : AV) (T : HT) (nx : Nat) : GOk Tryz.prog envE 154 [a0, a1] ro T nx (g154 ro a0 a1 T nx) := by
 refine GOk.of_body Tryz.func154 rfl Tryz.ntmps154 (by kernel_rfl) rfl fun r T' n' h1 w0 base ρ0 its hS hP => ?_
 have X : CtxW envE ρ0 ro r T' n' := trivial
 unfold g154 at h1
 refine sr ?_
 refine as_ ?_
 refine dn ?_
 refine CV.seq ?_
 refine sr ?_
 refine mv ?_
 refine mv ?_
 refine LV.bslice hS h1 rfl rfl Vdf.el54 rfl rfl rfl rfl fun x7_1 T1 n1 h2 ρ its hS hdr => ?_
 refine LV.call hS h2 (g134_ok _ _ _ _ _ ) hP rfl rfl rfl rfl fun x8_2 T2 n2 h3 ρ its hS => ?_
 refine vy (V.not h3 rfl) fun x9_3 h4 => ?_
 refine dn ?_
 refine CV.cond h4 rfl (fun e h5 => ?_) (fun e h5 => ?_)
 ·
  clear h1 h2 h3 h4
  subst e
  refine sr ?_
  refine as_ ?_
  refine dn ?_
  refine CV.ret ?_
  refine PV.thenR ?_
  cases h5
  exact PV.ret (by simp) Tryz.results154 hS (RS.tmp rfl RS.nil) rfl
 ·
  clear h1 h2 h3 h4
  subst e
  refine CV.skip ?_
  refine PV.thenN ?_
  refine sr ?_
  refine mv ?_
  refine fl hS h5 Vdf.fo185_1 Vdf.one3 fun x13_4 h6 => ?_
  refine vy (V.add h6 rfl rfl) fun x14_5 h7 => ?_
  refine fa2 h7 Vdf.fo185_1 fun x16_6 h8 => ?_
  refine LV.st hS h8 rfl rfl rfl Vdf.siz3 rfl rfl fun T3 its h9 hS => ?_
  refine dn ?_
  refine sr ?_
  refine as_ ?_
  refine dn ?_
  refine CV.ret ?_
  cases h9
  exact PV.ret (by simp) Tryz.results154 hS (RS.tmp rfl RS.nil) rfl
noncomputable def g180 (ro : List HT) (a0 a1 : AV) (T : HT) (nx : Nat) : R :=
 callK (g152 ro a0 T nx) fun x7_1 T1 n1 =>
 callK (g154 ro a0 a1 T1 n1) fun x10_2 T2 n2 =>
 notK 1800008 x10_2 fun x11_3 =>
 condK 1800009 x11_3
 (
  .bad 1800010
 )
 (
  .ok (.val x7_1) T2 n2
 )
theorem g180_ok (ro : List HT) (a0 a1 : AV) (T : HT) (nx : Nat) : GOk Tryz.prog envE 180 [a0, a1] ro T nx (g180 ro a0 a1 T nx) := by
 refine GOk.of_body Tryz.func180 rfl Tryz.ntmps180 (by kernel_rfl) rfl fun r T' n' h1 w0 base ρ0 its hS hP => ?_
 have X : CtxW envE ρ0 ro r T' n' := trivial
 unfold g180 at h1
 refine sr ?_
 refine as_ ?_
 refine dn ?_
 refine sr ?_
 refine mv ?_
 refine LV.call hS h1 (g152_ok _ _ _ _ ) hP rfl rfl rfl rfl fun x7_1 T1 n1 h2 ρ its hS => ?_
 refine as_ ?_
 refine dn ?_
 refine CV.seq ?_
 refine sr ?_
 refine mv ?_
 refine mv ?_
 refine LV.call hS h2 (g154_ok _ _ _ _ _ ) hP rfl rfl rfl rfl fun x10_2 T2 n2 h3 ρ its hS => ?_
 refine vy (V.not h3 rfl) fun x11_3 h4 => ?_
 refine dn ?_
 refine CV.cond h4 rfl (fun e h5 => ?_) (fun e h5 => ?_)
 ·
  clear h1 h2 h3 h4
  subst e
  cases h5
 ·
  clear h1 h2 h3 h4
  subst e
  refine CV.skip ?_
  refine PV.thenN ?_
  refine sr ?_
  refine mv ?_
  refine as_ ?_
  refine dn ?_
  refine CV.ret ?_
  cases h5
  exact PV.ret (by simp) Tryz.results180 hS (RS.tmp rfl RS.nil) rfl
noncomputable def g279 (ro : List HT) (T : HT) (nx : Nat) : R :=
 bsK 2790003 T nx 14 9 1 [(0, (.lit (.string ⟨⟨[111, 114]⟩⟩))), (1, (.lit (.string ⟨⟨[97, 110, 100]⟩⟩))), (2, (.lit (.string ⟨⟨[61, 61]⟩⟩))), (3, (.lit (.string ⟨⟨[33, 61]⟩⟩))), (4, (.lit (.string ⟨⟨[60]⟩⟩))), (5, (.lit (.string ⟨⟨[60, 61]⟩⟩))), (6, (.lit (.string ⟨⟨[62]⟩⟩))), (7, (.lit (.string ⟨⟨[62, 61]⟩⟩))), (8, (.lit (.string ⟨⟨[105, 110]⟩⟩))), (9, (.lit (.string ⟨⟨[43]⟩⟩))), (10, (.lit (.string ⟨⟨[45]⟩⟩))), (11, (.lit (.string ⟨⟨[42]⟩⟩))), (12, (.lit (.string ⟨⟨[47, 47]⟩⟩))), (13, (.lit (.string ⟨⟨[37]⟩⟩)))] fun x2_1 T1 n1 =>
 bsK 2790004 T1 n1 14 3 1 [(0, (.lit (.int .i64 (.ofNat 19)))), (1, (.lit (.int .i64 (.ofNat 18)))), (2, (.lit (.int .i64 (.ofNat 26)))), (3, (.lit (.int .i64 (.ofNat 27)))), (4, (.lit (.int .i64 (.ofNat 28)))), (5, (.lit (.int .i64 (.ofNat 29)))), (6, (.lit (.int .i64 (.ofNat 30)))), (7, (.lit (.int .i64 (.ofNat 31)))), (8, (.lit (.int .i64 (.ofNat 32)))), (9, (.lit (.int .i64 (.ofNat 21)))), (10, (.lit (.int .i64 (.ofNat 22)))), (11, (.lit (.int .i64 (.ofNat 23)))), (12, (.lit (.int .i64 (.ofNat 24)))), (13, (.lit (.int .i64 (.ofNat 25))))] fun x3_2 T2 n2 =>
 .ok (.val (.tup [x2_1, x3_2])) T2 n2
theorem g279_ok (ro : List HT) (T : HT) (nx : Nat) : GOk Tryz.prog envE 279 [] ro T nx (g279 ro T nx) := by
 refine GOk.of_body Tryz.func279 rfl Tryz.ntmps279 (by kernel_rfl) rfl fun r T' n' h1 w0 base ρ0 its hS hP => ?_
 have X : CtxW envE ρ0 ro r T' n' := trivial
 unfold g279 at h1
 refine sr ?_
 refine as_ ?_
 refine as_ ?_
 refine dn ?_
 refine sr ?_
 refine LV.bslice hS h1 rfl rfl Vdf.el54 rfl rfl rfl rfl fun x2_1 T1 n1 h2 ρ its hS hdr => ?_
 refine LV.bslice hS h2 rfl rfl Vdf.el170 rfl rfl rfl rfl fun x3_2 T2 n2 h3 ρ its hS hdr => ?_
 refine as_ ?_
 refine as_ ?_
 refine dn ?_
 refine CV.ret ?_
 cases h3
 exact PV.ret (by simp) Tryz.results279 hS (RS.tmp rfl (RS.tmp rfl RS.nil)) rfl
noncomputable def g274 (ro : List HT) (a0 : AV) (T : HT) (nx : Nat) : R :=
 callK (g279 ro T nx) fun x6_1 T1 n1 =>
 exK 2740004 x6_1 0 fun x7_2 =>
 exK 2740005 x6_1 1 fun x8_3 =>
 callK (g150 ro x7_2 a0 T1 n1) fun x12_4 T2 n2 =>
 iaK 2740012 x8_3 x12_4 1 fun x13_5 =>
 ldK 2740013 T2 ro x13_5 fun x14_6 =>
 .ok (.val x14_6) T2 n2
theorem g274_ok (ro : List HT) (a0 : AV) (T : HT) (nx : Nat) : GOk Tryz.prog envE 274 [a0] ro T nx (g274 ro a0 T nx) := by
 refine GOk.of_body Tryz.func274 rfl Tryz.ntmps274 (by kernel_rfl) rfl fun r T' n' h1 w0 base ρ0 its hS hP => ?_
 have X : CtxW envE ρ0 ro r T' n' := trivial
 unfold g274 at h1
 refine sr ?_
 refine as_ ?_
 refine dn ?_
 refine sr ?_
 refine LV.call hS h1 (g279_ok _ _ _ ) hP rfl rfl rfl rfl fun x6_1 T1 n1 h2 ρ its hS => ?_
 refine mv ?_
 refine vy (V.ex h2 rfl) fun x7_2 h3 => ?_
 refine vy (V.ex h3 rfl) fun x8_3 h4 => ?_
 refine as_ ?_
 refine as_ ?_
 refine dn ?_
 refine sr ?_
 refine mv ?_
 refine mv ?_
 refine mv ?_
 refine LV.call hS h4 (g150_ok _ _ _ _ _ ) hP rfl rfl rfl rfl fun x12_4 T2 n2 h5 ρ its hS => ?_
 refine vy (V.ia h5 rfl rfl Vdf.el170) fun x13_5 h6 => ?_
 refine vy (V.ld hS h6 rfl Vdf.one3) fun x14_6 h7 => ?_
 refine as_ ?_
 refine dn ?_
 refine CV.ret ?_
 cases h7
 exact PV.ret (by simp) Tryz.results274 hS (RS.tmp rfl RS.nil) rfl
noncomputable def g155_k2 (ro : List HT) (y15 : AV) (T3 : HT) (n3 : Nat) : R :=
 .ok (.val y15) T3 n3
noncomputable def g155_k1 (ro : List HT) (y0 y10 : AV) (T2 : HT) (n2 : Nat) : R :=
 condK 1550008 y10
 (
  g155_k2 ro (.lit (.bool true)) T2 n2
 )
 (
  bsK 1550011 T2 n2 6 9 1 [(0, (.lit (.string ⟨⟨[41]⟩⟩))), (1, (.lit (.string ⟨⟨[93]⟩⟩))), (2, (.lit (.string ⟨⟨[125]⟩⟩))), (3, (.lit (.string ⟨⟨[61]⟩⟩))), (4, (.lit (.string ⟨⟨[43, 61]⟩⟩))), (5, (.lit (.string ⟨⟨[58]⟩⟩)))] fun x13_3 T4 n4 =>
  callK (g134 ro y0 x13_3 T4 n4) fun x14_4 T5 n5 =>
  g155_k2 ro x14_4 T5 n5
 )
noncomputable def g155 (ro : List HT) (a0 : AV) (T : HT) (nx : Nat) : R :=
 callK (g86 ro a0 T nx) fun x4_1 T1 n1 =>
 eqK Tryz.prog 3 (.tmp 4) (.const (.int .i64 (.ofNat 5))) 1550004 x4_1 (.lit (.int .i64 (.ofNat 5))) fun x5_2 =>
 condK 1550014 x5_2
 (
  g155_k1 ro a0 (.lit (.bool true)) T1 n1
 )
 (
  callK (g86 ro a0 T1 n1) fun x8_5 T6 n6 =>
  eqK Tryz.prog 3 (.tmp 8) (.const (.int .i64 (.ofNat 8))) 1550018 x8_5 (.lit (.int .i64 (.ofNat 8))) fun x9_6 =>
  g155_k1 ro a0 x9_6 T6 n6
 )
theorem g155_ok (ro : List HT) (a0 : AV) (T : HT) (nx : Nat) : GOk Tryz.prog envE 155 [a0] ro T nx (g155 ro a0 T nx) := by
 refine GOk.of_body Tryz.func155 rfl Tryz.ntmps155 (by kernel_rfl) rfl fun r T' n' h1 w0 base ρ0 its hS hP => ?_
 have X : CtxW envE ρ0 ro r T' n' := trivial
 unfold g155 at h1
 refine sr ?_
 refine as_ ?_
 refine dn ?_
 refine sr ?_
 refine mv ?_
 refine LV.call hS h1 (g86_ok _ _ _ _ ) hP rfl rfl rfl rfl fun x4_1 T1 n1 h2 ρ its hS => ?_
 refine vy (V.eq h2 rfl rfl) fun x5_2 h3 => ?_
 refine mv ?_
 refine ls2 X 0 10 [(2, (.lit (.bool false)))] (g155_k1 ro) 4 ?_ ?_
 ·
  rcases condK_inv h3 with ⟨e, h9⟩ | ⟨e, h9⟩
  ·
   clear h1 h2 h3
   subst e
   refine sk ?_
   refine sk ?_
   refine sk ?_
   refine pu ?_
   exact la2 hS h9 ⟨rfl, rfl, rfl, trivial⟩
  ·
   clear h1 h2 h3
   subst e
   refine mv ?_
   refine LV.call hS h9 (g86_ok _ _ _ _ ) hP rfl rfl rfl rfl fun x8_5 T6 n6 h10 ρ its hS => ?_
   refine vy (V.eq h10 rfl rfl) fun x9_6 h11 => ?_
   refine pu ?_
   exact la2 hS h11 ⟨rfl, rfl, rfl, trivial⟩
 ·
  intro y0 y10 T2 n2 ρ its hS h4
  unfold g155_k1 at h4
  clear h1 h2 h3
  refine mv ?_
  refine ls1 X 15 [(2, (.lit (.bool false)))] (g155_k2 ro) 4 ?_ ?_
  ·
   rcases condK_inv h4 with ⟨e, h6⟩ | ⟨e, h6⟩
   ·
    clear h4
    subst e
    refine sk ?_
    refine sk ?_
    refine sk ?_
    refine pu ?_
    exact la1 hS h6 ⟨rfl, rfl, trivial⟩
   ·
    clear h4
    subst e
    refine mv ?_
    refine LV.bslice hS h6 rfl rfl Vdf.el54 rfl rfl rfl rfl fun x13_3 T4 n4 h7 ρ its hS hdr => ?_
    refine LV.call hS h7 (g134_ok _ _ _ _ _ ) hP rfl rfl rfl rfl fun x14_4 T5 n5 h8 ρ its hS => ?_
    refine pu ?_
    exact la1 hS h8 ⟨rfl, rfl, trivial⟩
  ·
   intro y15 T3 n3 ρ its hS h5
   unfold g155_k2 at h5
   clear h4
   refine as_ ?_
   refine dn ?_
   refine CV.ret ?_
   cases h5
   exact PV.ret (by simp) Tryz.results155 hS (RS.tmp rfl RS.nil) rfl
noncomputable def g87 (ro : List HT) (a0 a1 : AV) (T : HT) (nx : Nat) : R :=
 callK (g86 ro a0 T nx) fun x8_1 T1 n1 =>
 neK Tryz.prog 3 (.tmp 8) (.tmp 9) 870006 x8_1 a1 fun x10_2 =>
 condK 870007 x10_2
 (
  .bad 870008
 )
 (
  ncK 870010 a0 fun x14_3 =>
  faK 870011 x14_3 0 fun x15_4 =>
  ldK 870012 T1 ro x15_4 fun x16_5 =>
  ncK 870014 a0 fun x18_6 =>
  faK 870015 x18_6 1 fun x19_7 =>
  ldK 870016 T1 ro x19_7 fun x20_8 =>
  iaK 870017 x16_5 x20_8 3 fun x21_9 =>
  ldAK 870018 T1 ro x21_9 3 fun x22_10 =>
  newK T1 n1 (.obj [.lit (.int .i64 0), .lit (.string ⟨#[]⟩), .lit (.int .i64 0)] 233) fun x6_11 T2 n2 =>
  stAK 870020 T2 x6_11 x22_10 3 fun T3 =>
  neK Tryz.prog 3 (.tmp 23) (.const (.int .i64 (.ofNat 8))) 870022 a1 (.lit (.int .i64 (.ofNat 8))) fun x24_12 =>
  condK 870023 x24_12
  (
   .bad 870024
  )
  (
   faK 870025 x6_11 1 fun x32_13 =>
   ldK 870026 T3 ro x32_13 fun x33_14 =>
   faK 870027 x6_11 2 fun x34_15 =>
   ldK 870028 T3 ro x34_15 fun x35_16 =>
   .ok (.val (.tup [x33_14, x35_16])) T3 n2
  )
 )
theorem g87_ok (ro : List HT) (a0 a1 : AV) (T : HT) (nx : Nat) : GOk Tryz.prog envE 87 [a0, a1] ro T nx (g87 ro a0 a1 T nx) := by
 refine GOk.of_body Tryz.func87 rfl Tryz.ntmps87 (by kernel_rfl) rfl fun r T' n' h1 w0 base ρ0 its hS hP => ?_
 have X : CtxW envE ρ0 ro r T' n' := trivial
 unfold g87 at h1
 refine sr ?_
 refine as_ ?_
 refine as_ ?_
 refine dn ?_
 refine CV.seq ?_
 refine sr ?_
 refine mv ?_
 refine LV.call hS h1 (g86_ok _ _ _ _ ) hP rfl rfl rfl rfl fun x8_1 T1 n1 h2 ρ its hS => ?_
 refine mv ?_
 refine vy (V.ne h2 rfl rfl) fun x10_2 h3 => ?_
 refine dn ?_
 refine CV.cond h3 rfl (fun e h4 => ?_) (fun e h4 => ?_)
 ·
  clear h1 h2 h3
  subst e
  cases h4
 ·
  clear h1 h2 h3
  subst e
  refine CV.skip ?_
  refine PV.thenN ?_
  refine CV.seq ?_
  refine CV.regionM [(0, .anywhere), (1, .anywhere), (2, .anywhere), (3, .held), (4, .anywhere), (5, .anywhere), (6, .anywhere), (7, .held), (8, .held), (9, .held), (10, .alone), (11, .alone)] rfl (fun c a a' w hd hq => PanicOk.root (P := Tryz.prog) (fn := Tryz.f87) (w0 := w0) (base := base) (E := envE) (ro := ro) (r := r) (T' := T') (n' := n') (ρ0 := ρ0) c a a' w hd hq) (by kernel_rfl) ?_
  refine MV.step0 (i := 0) rfl (VAL.move rfl) rfl rfl rfl ?_
  refine MV.lift0 (i := 1) rfl (V.nc h4 rfl) rfl rfl rfl fun x14_3 h5 => ?_
  refine MV.lift0 (i := 2) rfl (V.fa h5 rfl Vdf.fo185_0) rfl rfl rfl fun x15_4 h6 => ?_
  refine MV.lift1 (i := 3) rfl (fun _ z => z) (V.ld hS h6 rfl Vdf.one183) rfl rfl rfl [] (by kernel_rfl) fun x16_5 h7 => ?_
  refine MV.step0 (i := 4) rfl (VAL.move rfl) rfl rfl rfl ?_
  refine MV.lift0 (i := 5) rfl (V.nc h7 rfl) rfl rfl rfl fun x18_6 h8 => ?_
  refine MV.lift0 (i := 6) rfl (V.fa h8 rfl Vdf.fo185_1) rfl rfl rfl fun x19_7 h9 => ?_
  refine MV.lift1 (i := 7) rfl (fun _ z => z) (V.ld hS h9 rfl Vdf.one3) rfl rfl rfl [3] (by kernel_rfl) fun x20_8 h10 => ?_
  refine MV.lift1 (i := 8) rfl (fun _ z => z) (V.ia h10 rfl rfl Vdf.el183) rfl rfl rfl [] (by kernel_rfl) fun x21_9 h11 => ?_
  refine MV.lift1 (i := 9) rfl (fun _ z => z) (V.ldA hS h11 rfl Vdf.agg233) rfl rfl rfl [] (by kernel_rfl) fun x22_10 h12 => ?_
  refine MV.force (i := 10) rfl ?_
  refine LV.alloc hS h12 rfl Vdf.zr233 rfl rfl rfl fun x6_11 T2 n2 h13 ρ its hS hdr => ?_
  refine LV.nextM [9] (by kernel_rfl) (fun _ => hdr) ?_
  refine MV.force (i := 11) rfl ?_
  refine LV.stA hS h13 rfl rfl rfl Vdf.agg233 rfl rfl rfl fun T3 its h14 hS => ?_
  refine LV.nextM [] (by kernel_rfl) (fun z => absurd rfl z) ?_
  refine mdn ?_
  refine CV.seq ?_
  refine sr ?_
  refine mv ?_
  refine vy (V.ne h14 rfl rfl) fun x24_12 h15 => ?_
  refine dn ?_
  refine CV.cond h15 rfl (fun e h16 => ?_) (fun e h16 => ?_)
  ·
   clear h4 h5 h6 h7 h8 h9 h10 h11 h12 h13 h14 h15
   subst e
   cases h16
  ·
   clear h4 h5 h6 h7 h8 h9 h10 h11 h12 h13 h14 h15
   subst e
   refine CV.skip ?_
   refine PV.thenN ?_
   refine CV.seq ?_
   refine CV.regionM [(0, .anywhere), (1, .held), (2, .anywhere), (3, .held), (4, .held), (5, .held)] rfl (fun c a a' w hd hq => PanicOk.root (P := Tryz.prog) (fn := Tryz.f87) (w0 := w0) (base := base) (E := envE) (ro := ro) (r := r) (T' := T') (n' := n') (ρ0 := ρ0) c a a' w hd hq) (by kernel_rfl) ?_
   refine MV.lift0 (i := 0) rfl (V.fa h16 rfl Vdf.fo233_1) rfl rfl rfl fun x32_13 h17 => ?_
   refine MV.lift1 (i := 1) rfl (fun _ z => z) (V.ld hS h17 rfl Vdf.one9) rfl rfl rfl [] (by kernel_rfl) fun x33_14 h18 => ?_
   refine MV.lift0 (i := 2) rfl (V.fa h18 rfl Vdf.fo233_2) rfl rfl rfl fun x34_15 h19 => ?_
   refine MV.lift1 (i := 3) rfl (fun _ z => z) (V.ld hS h19 rfl Vdf.one3) rfl rfl rfl [1] (by kernel_rfl) fun x35_16 h20 => ?_
   refine MV.step1 (i := 4) rfl (fun _ z => z) (VAL.assign rfl) rfl rfl rfl [3] (by kernel_rfl) ?_
   refine MV.step1 (i := 5) rfl (fun _ z => z) (VAL.assign rfl) rfl rfl rfl [] (by kernel_rfl) ?_
   refine mdn ?_
   refine CV.ret ?_
   cases h20
   exact PV.ret (by simp) Tryz.results87 hS (RS.tmp rfl (RS.tmp rfl RS.nil)) rfl
noncomputable def g222_k1 (ro : List HT) (y8 : AV) (T1 : HT) (n1 : Nat) : R :=
 .ok (.val y8) T1 n1
noncomputable def g222 (ro : List HT) (a0 : AV) (T : HT) (nx : Nat) : R :=
 geK Tryz.prog 3 (.tmp 3) (.const (.int .i64 (.ofNat 35))) 2220003 a0 (.lit (.int .i64 (.ofNat 35))) fun x4_1 =>
 condK 2220006 x4_1
 (
  leK Tryz.prog 3 (.tmp 6) (.const (.int .i64 (.ofNat 45))) 2220008 a0 (.lit (.int .i64 (.ofNat 45))) fun x7_2 =>
  g222_k1 ro x7_2 T nx
 )
 (
  g222_k1 ro (.lit (.bool false)) T nx
 )
theorem g222_ok (ro : List HT) (a0 : AV) (T : HT) (nx : Nat) : GOk Tryz.prog envE 222 [a0] ro T nx (g222 ro a0 T nx) := by
 refine GOk.of_body Tryz.func222 rfl Tryz.ntmps222 (by kernel_rfl) rfl fun r T' n' h1 w0 base ρ0 its hS hP => ?_
 have X : CtxW envE ρ0 ro r T' n' := trivial
 unfold g222 at h1
 refine sr ?_
 refine as_ ?_
 refine dn ?_
 refine sr ?_
 refine mv ?_
 refine vy (V.ge h1 rfl rfl) fun x4_1 h2 => ?_
 refine mv ?_
 refine ls1 X 8 [(2, (.lit (.bool false)))] (g222_k1 ro) 3 ?_ ?_
 ·
  rcases condK_inv h2 with ⟨e, h4⟩ | ⟨e, h4⟩
  ·
   clear h1 h2
   subst e
   refine mv ?_
   refine vy (V.le h4 rfl rfl) fun x7_2 h5 => ?_
   refine pu ?_
   exact la1 hS h5 ⟨rfl, rfl, trivial⟩
  ·
   clear h1 h2
   subst e
   refine sk ?_
   refine sk ?_
   refine pu ?_
   exact la1 hS h4 ⟨rfl, rfl, trivial⟩
 ·
  intro y8 T1 n1 ρ its hS h3
  unfold g222_k1 at h3
  clear h1 h2
  refine as_ ?_
  refine dn ?_
  refine CV.ret ?_
  cases h3
  exact PV.ret (by simp) Tryz.results222 hS (RS.tmp rfl RS.nil) rfl
noncomputable def g221 (ro : List HT) (a0 : AV) (T : HT) (nx : Nat) : R :=
 boxK 2210001 T nx a0 172 fun x1_1 T1 n1 =>
 faK 2210003 x1_1 0 fun x3_2 =>
 ldK 2210004 T1 ro x3_2 fun x4_3 =>
 callK (g222 ro x4_3 T1 n1) fun x5_4 T2 n2 =>
 .ok (.val x5_4) T2 n2
theorem g221_ok (ro : List HT) (a0 : AV) (T : HT) (nx : Nat) : GOk Tryz.prog envE 221 [a0] ro T nx (g221 ro a0 T nx) := by
 refine GOk.of_body Tryz.func221 rfl Tryz.ntmps221 (by kernel_rfl) rfl fun r T' n' h1 w0 base ρ0 its hS hP => ?_
 have X : CtxW envE ρ0 ro r T' n' := trivial
 unfold g221 at h1
 refine sr ?_
 refine LV.box hS h1 rfl rfl rfl rfl rfl fun x1_1 T1 n1 h2 ρ its hS hdr => ?_
 refine as_ ?_
 refine dn ?_
 refine sr ?_
 refine vy (V.fa h2 rfl Vdf.fo172_0) fun x3_2 h3 => ?_
 refine vy (V.ld hS h3 rfl Vdf.one3) fun x4_3 h4 => ?_
 refine LV.call hS h4 (g222_ok _ _ _ _ ) hP rfl rfl rfl rfl fun x5_4 T2 n2 h5 ρ its hS => ?_
 refine as_ ?_
 refine dn ?_
 refine CV.ret ?_
 cases h5
 exact PV.ret (by simp) Tryz.results221 hS (RS.tmp rfl RS.nil) rfl
noncomputable def g216_k3 (ro : List HT) (y16 : AV) (T3 : HT) (n3 : Nat) : R :=
 .ok (.val y16) T3 n3
noncomputable def g216_k2 (ro : List HT) (y0 y12 : AV) (T2 : HT) (n2 : Nat) : R :=
 condK 2160008 y12
 (
  neK Tryz.prog 3 (.tmp 14) (.const (.int .i64 (.ofNat 15))) 2160010 y0 (.lit (.int .i64 (.ofNat 15))) fun x15_2 =>
  g216_k3 ro x15_2 T2 n2
 )
 (
  g216_k3 ro (.lit (.bool false)) T2 n2
 )
noncomputable def g216_k1 (ro : List HT) (y0 y8 : AV) (T1 : HT) (n1 : Nat) : R :=
 condK 2160013 y8
 (
  neK Tryz.prog 3 (.tmp 10) (.const (.int .i64 (.ofNat 11))) 2160015 y0 (.lit (.int .i64 (.ofNat 11))) fun x11_3 =>
  g216_k2 ro y0 x11_3 T1 n1
 )
 (
  g216_k2 ro y0 (.lit (.bool false)) T1 n1
 )
noncomputable def g216 (ro : List HT) (a0 : AV) (T : HT) (nx : Nat) : R :=
 geK Tryz.prog 3 (.tmp 3) (.const (.int .i64 (.ofNat 1))) 2160003 a0 (.lit (.int .i64 (.ofNat 1))) fun x4_1 =>
 condK 2160018 x4_1
 (
  leK Tryz.prog 3 (.tmp 6) (.const (.int .i64 (.ofNat 34))) 2160020 a0 (.lit (.int .i64 (.ofNat 34))) fun x7_4 =>
  g216_k1 ro a0 x7_4 T nx
 )
 (
  g216_k1 ro a0 (.lit (.bool false)) T nx
 )
theorem g216_ok (ro : List HT) (a0 : AV) (T : HT) (nx : Nat) : GOk Tryz.prog envE 216 [a0] ro T nx (g216 ro a0 T nx) := by
 refine GOk.of_body Tryz.func216 rfl Tryz.ntmps216 (by kernel_rfl) rfl fun r T' n' h1 w0 base ρ0 its hS hP => ?_
 have X : CtxW envE ρ0 ro r T' n' := trivial
 unfold g216 at h1
 refine sr ?_
 refine as_ ?_
 refine dn ?_
 refine sr ?_
 refine mv ?_
 refine vy (V.ge h1 rfl rfl) fun x4_1 h2 => ?_
 refine mv ?_
 refine ls2 X 0 8 [(2, (.lit (.bool false)))] (g216_k1 ro) 3 ?_ ?_
 ·
  rcases condK_inv h2 with ⟨e, h10⟩ | ⟨e, h10⟩
  ·
   clear h1 h2
   subst e
   refine mv ?_
   refine vy (V.le h10 rfl rfl) fun x7_4 h11 => ?_
   refine pu ?_
   exact la2 hS h11 ⟨rfl, rfl, rfl, trivial⟩
  ·
   clear h1 h2
   subst e
   refine sk ?_
   refine sk ?_
   refine pu ?_
   exact la2 hS h10 ⟨rfl, rfl, rfl, trivial⟩
 ·
  intro y0 y8 T1 n1 ρ its hS h3
  unfold g216_k1 at h3
  clear h1 h2
  refine mv ?_
  refine ls2 X 0 12 [(2, (.lit (.bool false)))] (g216_k2 ro) 3 ?_ ?_
  ·
   rcases condK_inv h3 with ⟨e, h8⟩ | ⟨e, h8⟩
   ·
    clear h3
    subst e
    refine mv ?_
    refine vy (V.ne h8 rfl rfl) fun x11_3 h9 => ?_
    refine pu ?_
    exact la2 hS h9 ⟨rfl, rfl, rfl, trivial⟩
   ·
    clear h3
    subst e
    refine sk ?_
    refine sk ?_
    refine pu ?_
    exact la2 hS h8 ⟨rfl, rfl, rfl, trivial⟩
  ·
   intro y0 y12 T2 n2 ρ its hS h4
   unfold g216_k2 at h4
   clear h3
   refine mv ?_
   refine ls1 X 16 [(2, (.lit (.bool false)))] (g216_k3 ro) 3 ?_ ?_
   ·
    rcases condK_inv h4 with ⟨e, h6⟩ | ⟨e, h6⟩
    ·
     clear h4
     subst e
     refine mv ?_
     refine vy (V.ne h6 rfl rfl) fun x15_2 h7 => ?_
     refine pu ?_
     exact la1 hS h7 ⟨rfl, rfl, trivial⟩
    ·
     clear h4
     subst e
     refine sk ?_
     refine sk ?_
     refine pu ?_
     exact la1 hS h6 ⟨rfl, rfl, trivial⟩
   ·
    intro y16 T3 n3 ρ its hS h5
    unfold g216_k3 at h5
    clear h4
    refine as_ ?_
    refine dn ?_
    refine CV.ret ?_
    cases h5
    exact PV.ret (by simp) Tryz.results216 hS (RS.tmp rfl RS.nil) rfl
noncomputable def g258 (ro : List HT) (a0 : AV) (T : HT) (nx : Nat) : R :=
 boxK 2580001 T nx a0 172 fun x1_1 T1 n1 =>
 faK 2580003 x1_1 0 fun x3_2 =>
 ldK 2580004 T1 ro x3_2 fun x4_3 =>
 callK (g216 ro x4_3 T1 n1) fun x5_4 T2 n2 =>
 .ok (.val x5_4) T2 n2
theorem g258_ok (ro : List HT) (a0 : AV) (T : HT) (nx : Nat) : GOk Tryz.prog envE 258 [a0] ro T nx (g258 ro a0 T nx) := by
 refine GOk.of_body Tryz.func258 rfl Tryz.ntmps258 (by kernel_rfl) rfl fun r T' n' h1 w0 base ρ0 its hS hP => ?_
 have X : CtxW envE ρ0 ro r T' n' := trivial
 unfold g258 at h1
 refine sr ?_
 refine LV.box hS h1 rfl rfl rfl rfl rfl fun x1_1 T1 n1 h2 ρ its hS hdr => ?_
 refine as_ ?_
 refine dn ?_
 refine sr ?_
 refine vy (V.fa h2 rfl Vdf.fo172_0) fun x3_2 h3 => ?_
 refine vy (V.ld hS h3 rfl Vdf.one3) fun x4_3 h4 => ?_
 refine LV.call hS h4 (g216_ok _ _ _ _ ) hP rfl rfl rfl rfl fun x5_4 T2 n2 h5 ρ its hS => ?_
 refine as_ ?_
 refine dn ?_
 refine CV.ret ?_
 cases h5
 exact PV.ret (by simp) Tryz.results258 hS (RS.tmp rfl RS.nil) rfl
noncomputable def g156 (ro : List HT) (a0 a1 : AV) (T : HT) (nx : Nat) : R :=
 optK 1560003 (bld217 [(0, a0), (1, a1)]) fun x6_1 =>
 boxK 1560004 T nx x6_1 217 fun x7_2 T1 n1 =>
 optK 1560005 (bld207 [(0, x7_2)]) fun x8_3 =>
 panK 1560007 (.iface 207 x8_3) T1 n1
theorem g156_ok (ro : List HT) (a0 a1 : AV) (T : HT) (nx : Nat) : GOk Tryz.prog envE 156 [a0, a1] ro T nx (g156 ro a0 a1 T nx) := by
 refine GOk.of_body Tryz.func156 rfl Tryz.ntmps156 (by kernel_rfl) rfl fun r T' n' h1 w0 base ρ0 its hS hP => ?_
 have X : CtxW envE ρ0 ro r T' n' := trivial
 unfold g156 at h1
 refine CV.region ?_
 refine mv ?_
 refine mv ?_
 refine vy (V.bld h1 rfl) fun x6_1 h2 => ?_
 refine LV.box hS h2 rfl rfl rfl rfl rfl fun x7_2 T1 n1 h3 ρ its hS hdr => ?_
 refine vy (V.bld h3 rfl) fun x8_3 h4 => ?_
 refine sv (VAL.mkI rfl Vdf.ni207) ?_
 exact LV.panic hS h4 hP rfl rfl rfl
noncomputable def g116 (ro : List HT) (a0 : AV) (T : HT) (nx : Nat) : R :=
 callK (g152 ro a0 T nx) fun x3_1 T1 n1 =>
 keepK 1160004 T T1 [] <|
 callK (g156 ro x3_1 (.iface 347 (.opq 1)) T1 n1) fun x5_2 T2 n2 =>
 .ok (.val (.tup [])) T2 n2
theorem g116_ok (ro : List HT) (a0 : AV) (T : HT) (nx : Nat) : GOk Tryz.prog envE 116 [a0] ro T nx (g116 ro a0 T nx) := by
 refine GOk.of_body Tryz.func116 rfl Tryz.ntmps116 (by kernel_rfl) rfl fun r T' n' h1 w0 base ρ0 its hS hP => ?_
 have X : CtxW envE ρ0 ro r T' n' := trivial
 unfold g116 at h1
 refine CV.regionMS hS [] [(0, .anywhere), (2, .held), (1, .alone), (3, .alone)] rfl (fun c a a' w hd hq => PanicOk.root (P := Tryz.prog) (fn := Tryz.f116) (w0 := w0) (base := base) (E := envE) (ro := ro) (r := r) (T' := T') (n' := n') (ρ0 := ρ0) c a a' w hd hq) (by kernel_rfl) ?_
 have hK := KeepS.start [] hS
 have hR := hS
 have hP0 := hP
 replace hP := PK.up hR hP
 replace hS := hR.root
 refine MV.step0 (i := 0) rfl (VAL.move rfl) rfl rfl rfl ?_
 refine MV.step1 (i := 2) rfl hK (VAL.ldGQ hS (by rfl) Vdf.one36) rfl rfl rfl [] (by kernel_rfl) ?_
 refine MV.force (i := 1) rfl ?_
 refine LV.call hS h1 (g152_ok _ _ _ _ ) hP rfl rfl rfl rfl fun x3_1 T1 n1 h2 ρ its hS => ?_
 obtain ⟨hK, h3⟩ := KeepS.step hR hS h2
 refine LV.nextM [2] (by kernel_rfl) (fun _ => hK) ?_
 refine MV.force (i := 3) rfl ?_
 refine LV.call hS h3 (g156_ok _ _ _ _ _ ) hP rfl rfl rfl rfl fun x5_2 T2 n2 h4 ρ its hS => ?_
 refine LV.nextM [] (by kernel_rfl) (fun z => absurd rfl z) ?_
 replace hS := hR.up hS
 replace hP := hP0
 refine MV.done ?_
 cases h4
 exact PV.ret (by simp) Tryz.results116 hS RS.nil rfl
noncomputable def g84_k1 (ih : FuncId → List HT → List AV → HT → Nat → R) (ro : List HT) (y0 : AV) (T2 : HT) (n2 : Nat) : R :=
 callK (g87 ro y0 (.lit (.int .i64 (.ofNat 8))) T2 n2) fun x15_2 T3 n3 =>
 .ok (.val (.tup [])) T3 n3
noncomputable def g84 (ih : FuncId → List HT → List AV → HT → Nat → R) (ro : List HT) (a0 : AV) (T : HT) (nx : Nat) : R :=
 callK (ih 85 ro [a0] T nx) fun x3_1 T1 n1 =>
 callK (g86 ro a0 T1 n1) fun x5_3 T4 n4 =>
 eqK Tryz.prog 3 (.tmp 5) (.const (.int .i64 (.ofNat 5))) 840007 x5_3 (.lit (.int .i64 (.ofNat 5))) fun x6_4 =>
 condK 840008 x6_4
 (
  fldK 840010 T4 ro a0 1 fun x10_5 =>
  addK Tryz.prog 3 (.tmp 10) (.const (.int .i64 (.ofNat 1))) 840011 x10_5 (.lit (.int .i64 (.ofNat 1))) fun x11_6 =>
  faK 840012 a0 1 fun x13_7 =>
  stK 840013 T4 x13_7 x11_6 fun T5 =>
  g84_k1 ih ro a0 T5 n4
 )
 (
  g84_k1 ih ro a0 T4 n4
 )
theorem g84_ok (ih : FuncId → List HT → List AV → HT → Nat → R) (hI : ∀ f ro args T nx, GOk Tryz.prog envE f args ro T nx (ih f ro args T nx)) (ro : List HT) (a0 : AV) (T : HT) (nx : Nat) : GOk Tryz.prog envE 84 [a0] ro T nx (g84 ih ro a0 T nx) := by
 refine GOk.of_body Tryz.func84 rfl Tryz.ntmps84 (by kernel_rfl) rfl fun r T' n' h1 w0 base ρ0 its hS hP => ?_
 have X : CtxW envE ρ0 ro r T' n' := trivial
 unfold g84 at h1
 refine sr ?_
 refine mv ?_
 refine LV.call hS h1 (hI _ _ _ _ _) hP rfl rfl rfl rfl fun x3_1 T1 n1 h2 ρ its hS => ?_
 refine dn ?_
 refine cs1 X 0 [] (g84_k1 ih ro) ?_ ?_
 ·
  refine sr ?_
  refine mv ?_
  refine LV.call hS h2 (g86_ok _ _ _ _ ) hP rfl rfl rfl rfl fun x5_3 T4 n4 h5 ρ its hS => ?_
  refine vy (V.eq h5 rfl rfl) fun x6_4 h6 => ?_
  refine dn ?_
  refine CV.cond h6 rfl (fun e h7 => ?_) (fun e h7 => ?_)
  ·
   clear h1 h2 h5 h6
   subst e
   refine CV.region ?_
   refine mv ?_
   refine fl hS h7 Vdf.fo185_1 Vdf.one3 fun x10_5 h8 => ?_
   refine vy (V.add h8 rfl rfl) fun x11_6 h9 => ?_
   refine fa2 h9 Vdf.fo185_1 fun x13_7 h10 => ?_
   refine LV.st hS h10 rfl rfl rfl Vdf.siz3 rfl rfl fun T5 its h11 hS => ?_
   refine LV.done ?_
   exact pa1 hS h11 ⟨rfl, trivial⟩
  ·
   clear h1 h2 h5 h6
   subst e
   refine CV.skip ?_
   exact pa1 hS h7 ⟨rfl, trivial⟩
 ·
  intro y0 T2 n2 ρ its hS h3
  unfold g84_k1 at h3
  clear h1 h2
  refine CV.region ?_
  refine mv ?_
  refine LV.call hS h3 (g87_ok _ _ _ _ _ ) hP rfl rfl rfl rfl fun x15_2 T3 n3 h4 ρ its hS => ?_
  refine LV.done ?_
  cases h4
  exact PV.ret (by simp) Tryz.results84 hS RS.nil rfl
noncomputable def g85 (ih : FuncId → List HT → List AV → HT → Nat → R) (ro : List HT) (a0 : AV) (T : HT) (nx : Nat) : R :=
 callK (ih 115 ro [a0] T nx) fun x7_1 T1 n1 =>
 exK 850005 x7_1 0 fun x8_2 =>
 exK 850006 x7_1 1 fun x9_3 =>
 .ok (.val x8_2) T1 n1
theorem g85_ok (ih : FuncId → List HT → List AV → HT → Nat → R) (hI : ∀ f ro args T nx, GOk Tryz.prog envE f args ro T nx (ih f ro args T nx)) (ro : List HT) (a0 : AV) (T : HT) (nx : Nat) : GOk Tryz.prog envE 85 [a0] ro T nx (g85 ih ro a0 T nx) := by
 refine GOk.of_body Tryz.func85 rfl Tryz.ntmps85 (by kernel_rfl) rfl fun r T' n' h1 w0 base ρ0 its hS hP => ?_
 have X : CtxW envE ρ0 ro r T' n' := trivial
 unfold g85 at h1
 refine sr ?_
 refine as_ ?_
 refine dn ?_
 refine sr ?_
 refine mv ?_
 refine LV.call hS h1 (hI _ _ _ _ _) hP rfl rfl rfl rfl fun x7_1 T1 n1 h2 ρ its hS => ?_
 refine mv ?_
 refine vy (V.ex h2 rfl) fun x8_2 h3 => ?_
 refine vy (V.ex h3 rfl) fun x9_3 h4 => ?_
 refine as_ ?_
 refine as_ ?_
 refine dn ?_
 refine sr ?_
 refine mv ?_
 refine as_ ?_
 refine dn ?_
 refine CV.ret ?_
 cases h4
 exact PV.ret (by simp) Tryz.results85 hS (RS.tmp rfl RS.nil) rfl
noncomputable def g115_k1 (ih : FuncId → List HT → List AV → HT → Nat → R) (ro : List HT) (y0 y2 y3 y4 y5 y6 : AV) (T4 : HT) (n4 : Nat) : R :=
 notK 1150012 y6 fun x22_4 =>
 condK 1150013 x22_4
 (
  iaK 1150015 y5 (.lit (.int .i64 (.ofNat 0))) 1 fun x24_5 =>
  ldK 1150016 T4 ro x24_5 fun x25_6 =>
  .ok (.val (.tup [x25_6, (.lit (.bool false))])) T4 n4
 )
 (
  callK (g103 ro y0 (.lit (.int .i64 (.ofNat 8))) y4 (.lit (.string ⟨⟨[]⟩⟩)) y5 T4 n4) fun x29_7 T5 n5 =>
  .ok (.val (.tup [x29_7, (.lit (.bool true))])) T5 n5
 )
noncomputable def g115_b2 (ih : FuncId → List HT → List AV → HT → Nat → R) (ro : List HT) (lp2 : AV → AV → AV → AV → AV → AV → HT → Nat → R) (y0 y2 y3 y4 y5 y6 : AV) (T6 : HT) (n6 : Nat) : R :=
 callK (g154 ro y0 (.lit (.string ⟨⟨[44]⟩⟩)) T6 n6) fun x13_8 T7 n7 =>
 condK 1150028 x13_8
 (
  callK (g155 ro y0 T7 n7) fun x15_9 T8 n8 =>
  condK 1150032 x15_9
  (
   g115_k1 ih ro y0 y2 y3 y4 y5 (.lit (.bool true)) T8 n8
  )
  (
   callK (ih 153 ro [y0] T8 n8) fun x18_10 T9 n9 =>
   bsK 1150036 T9 n9 1 3 1 [(0, x18_10)] fun x19_11 T10 n10 =>
   shrK 1150038 T10 y5 fun T11 =>
   appEK 1150037 T11 ro n10 3 1 8 y5 x19_11 fun x20_12 T12 n12 =>
   lp2 y0 y2 y3 y4 x20_12 (.lit (.bool true)) T12 n12
  )
 )
 (
  g115_k1 ih ro y0 y2 y3 y4 y5 y6 T7 n7
 )
noncomputable def g115 (ih : FuncId → List HT → List AV → HT → Nat → R) (ro : List HT) (a0 : AV) (T : HT) (nx : Nat) : R :=
 callK (g152 ro a0 T nx) fun x8_1 T1 n1 =>
 callK (ih 153 ro [a0] T1 n1) fun x10_2 T2 n2 =>
 bsK 1150008 T2 n2 1 3 1 [(0, x10_2)] fun x11_3 T3 n3 =>
 lpf6 1150025 (g115_b2 ih ro) 100000 a0 (.lit (.int .i64 (.ofNat 0))) (.lit (.bool false)) x8_1 x11_3 (.lit (.bool false)) T3 n3
theorem g115_ok (ih : FuncId → List HT → List AV → HT → Nat → R) (hI : ∀ f ro args T nx, GOk Tryz.prog envE f args ro T nx (ih f ro args T nx)) (ro : List HT) (a0 : AV) (T : HT) (nx : Nat) : GOk Tryz.prog envE 115 [a0] ro T nx (g115 ih ro a0 T nx) := by
 refine GOk.of_body Tryz.func115 rfl Tryz.ntmps115 (by kernel_rfl) rfl fun r T' n' h1 w0 base ρ0 its hS hP => ?_
 have X : CtxW envE ρ0 ro r T' n' := trivial
 unfold g115 at h1
 refine sr ?_
 refine as_ ?_
 refine as_ ?_
 refine dn ?_
 refine sr ?_
 refine mv ?_
 refine LV.call hS h1 (g152_ok _ _ _ _ ) hP rfl rfl rfl rfl fun x8_1 T1 n1 h2 ρ its hS => ?_
 refine as_ ?_
 refine dn ?_
 refine sr ?_
 refine mv ?_
 refine LV.call hS h2 (hI _ _ _ _ _) hP rfl rfl rfl rfl fun x10_2 T2 n2 h3 ρ its hS => ?_
 refine LV.bslice hS h3 rfl rfl Vdf.el170 rfl rfl rfl rfl fun x11_3 T3 n3 h4 ρ its hS hdr => ?_
 refine as_ ?_
 refine dn ?_
 refine sr ?_
 refine as_ ?_
 refine dn ?_
 refine cs6 X 0 2 3 4 5 6 [] (g115_k1 ih ro) ?_ ?_
 ·
  refine CV.block ?_
  refine cl6 X 0 2 3 4 5 6 [] hS h4 ⟨rfl, rfl, rfl, rfl, rfl, rfl, trivial⟩ ?_
  intro f2 y0 y2 y3 y4 y5 y6 T6 n6 ρ its hS h11
  unfold g115_b2 at h11
  clear h1 h2 h3 h4
  refine CV.seq ?_
  refine sr ?_
  refine mv ?_
  refine LV.call hS h11 (g154_ok _ _ _ _ _ ) hP rfl rfl rfl rfl fun x13_8 T7 n7 h12 ρ its hS => ?_
  refine dn ?_
  refine CV.cond h12 rfl (fun e h13 => ?_) (fun e h13 => ?_)
  ·
   clear h11 h12
   subst e
   refine CV.skip ?_
   refine PV.thenN ?_
   refine CV.block ?_
   refine sr ?_
   refine as_ ?_
   refine dn ?_
   refine CV.seq ?_
   refine sr ?_
   refine mv ?_
   refine LV.call hS h13 (g155_ok _ _ _ _ ) hP rfl rfl rfl rfl fun x15_9 T8 n8 h14 ρ its hS => ?_
   refine dn ?_
   refine CV.cond h14 rfl (fun e h15 => ?_) (fun e h15 => ?_)
   ·
    clear h13 h14
    subst e
    refine CV.exit ?_
    refine PV.thenE ?_
    refine PV.blockO rfl ?_
    refine PV.thenE ?_
    refine PV.blockE ?_
    exact pa6 hS h15 ⟨rfl, rfl, rfl, rfl, rfl, rfl, trivial⟩
   ·
    clear h13 h14
    subst e
    refine CV.skip ?_
    refine PV.thenN ?_
    refine CV.region ?_
    refine mv ?_
    refine mv ?_
    refine LV.call hS h15 (hI _ _ _ _ _) hP rfl rfl rfl rfl fun x18_10 T9 n9 h16 ρ its hS => ?_
    refine LV.bslice hS h16 rfl rfl Vdf.el170 rfl rfl rfl rfl fun x19_11 T10 n10 h17 ρ its hS hdr => ?_
    obtain ⟨T11, its1, h18, hS, hW⟩ := shrK_inv hS h17
    refine LV.world hW ?_
    refine LV.appE hS h18 rfl rfl rfl rfl Vdf.el170 rfl rfl rfl fun x20_12 T12 n12 h19 ρ its hS => ?_
    refine as_ ?_
    refine LV.done ?_
    refine PV.blockN ?_
    exact pb6 hS h19 ⟨rfl, rfl, rfl, rfl, rfl, rfl, trivial⟩
  ·
   clear h11 h12
   subst e
   refine CV.exit ?_
   refine PV.thenE ?_
   refine PV.thenE ?_
   refine PV.blockE ?_
   exact pa6 hS h13 ⟨rfl, rfl, rfl, rfl, rfl, rfl, trivial⟩
 ·
  intro y0 y2 y3 y4 y5 y6 T4 n4 ρ its hS h5
  unfold g115_k1 at h5
  clear h1 h2 h3 h4
  refine CV.seq ?_
  refine sr ?_
  refine mv ?_
  refine vy (V.not h5 rfl) fun x22_4 h6 => ?_
  refine dn ?_
  refine CV.cond h6 rfl (fun e h7 => ?_) (fun e h7 => ?_)
  ·
   clear h5 h6
   subst e
   refine sr ?_
   refine mv ?_
   refine vy (V.ia h7 rfl rfl Vdf.el170) fun x24_5 h8 => ?_
   refine vy (V.ld hS h8 rfl Vdf.one3) fun x25_6 h9 => ?_
   refine as_ ?_
   refine as_ ?_
   refine dn ?_
   refine CV.ret ?_
   refine PV.thenR ?_
   cases h9
   exact PV.ret (by simp) Tryz.results115 hS (RS.tmp rfl (RS.tmp rfl RS.nil)) rfl
  ·
   clear h5 h6
   subst e
   refine CV.skip ?_
   refine PV.thenN ?_
   refine sr ?_
   refine mv ?_
   refine mv ?_
   refine mv ?_
   refine LV.call hS h7 (g103_ok _ _ _ _ _ _ _ _ ) hP rfl rfl rfl rfl fun x29_7 T5 n5 h10 ρ its hS => ?_
   refine as_ ?_
   refine as_ ?_
   refine dn ?_
   refine CV.ret ?_
   cases h10
   exact PV.ret (by simp) Tryz.results115 hS (RS.tmp rfl (RS.tmp rfl RS.nil)) rfl
noncomputable def g153 (ih : FuncId → List HT → List AV → HT → Nat → R) (ro : List HT) (a0 : AV) (T : HT) (nx : Nat) : R :=
 callK (ih 210 ro [a0] T nx) fun x8_1 T1 n1 =>
 bsK 1530006 T1 n1 1 9 1 [(0, (.lit (.string ⟨⟨[105, 102]⟩⟩)))] fun x10_2 T2 n2 =>
 callK (g134 ro a0 x10_2 T2 n2) fun x11_3 T3 n3 =>
 notK 1530008 x11_3 fun x12_4 =>
 condK 1530009 x12_4
 (
  .ok (.val x8_1) T3 n3
 )
 (
  callK (g180 ro a0 (.lit (.string ⟨⟨[105, 102]⟩⟩)) T3 n3) fun x15_5 T4 n4 =>
  callK (g179 ro a0 x15_5 T4 n4) fun x18_6 T5 n5 =>
  callK (ih 210 ro [a0] T5 n5) fun x20_7 T6 n6 =>
  callK (g180 ro a0 (.lit (.string ⟨⟨[101, 108, 115, 101]⟩⟩)) T6 n6) fun x22_8 T7 n7 =>
  callK (ih 153 ro [a0] T7 n7) fun x24_9 T8 n8 =>
  fldK 1530027 T8 ro a0 3 fun x28_10 =>
  subK Tryz.prog 3 (.tmp 28) (.const (.int .i64 (.ofNat 1))) 1530028 x28_10 (.lit (.int .i64 (.ofNat 1))) fun x29_11 =>
  faK 1530029 a0 3 fun x31_12 =>
  stK 1530030 T8 x31_12 x29_11 fun T9 =>
  bsK 1530036 T9 n8 3 3 1 [(0, x20_7), (1, x8_1), (2, x24_9)] fun x37_13 T10 n10 =>
  callK (g103 ro a0 (.lit (.int .i64 (.ofNat 20))) x15_5 (.lit (.string ⟨⟨[]⟩⟩)) x37_13 T10 n10) fun x38_14 T11 n11 =>
  .ok (.val x38_14) T11 n11
 )
theorem g153_ok (ih : FuncId → List HT → List AV → HT → Nat → R) (hI : ∀ f ro args T nx, GOk Tryz.prog envE f args ro T nx (ih f ro args T nx)) (ro : List HT) (a0 : AV) (T : HT) (nx : Nat) : GOk Tryz.prog envE 153 [a0] ro T nx (g153 ih ro a0 T nx) := by
 refine GOk.of_body Tryz.func153 rfl Tryz.ntmps153 (by kernel_rfl) rfl fun r T' n' h1 w0 base ρ0 its hS hP => ?_
 have X : CtxW envE ρ0 ro r T' n' := trivial
 unfold g153 at h1
 refine sr ?_
 refine as_ ?_
 refine dn ?_
 refine sr ?_
 refine mv ?_
 refine LV.call hS h1 (hI _ _ _ _ _) hP rfl rfl rfl rfl fun x8_1 T1 n1 h2 ρ its hS => ?_
 refine as_ ?_
 refine dn ?_
 refine CV.seq ?_
 refine sr ?_
 refine mv ?_
 refine LV.bslice hS h2 rfl rfl Vdf.el54 rfl rfl rfl rfl fun x10_2 T2 n2 h3 ρ its hS hdr => ?_
 refine LV.call hS h3 (g134_ok _ _ _ _ _ ) hP rfl rfl rfl rfl fun x11_3 T3 n3 h4 ρ its hS => ?_
 refine vy (V.not h4 rfl) fun x12_4 h5 => ?_
 refine dn ?_
 refine CV.cond h5 rfl (fun e h6 => ?_) (fun e h6 => ?_)
 ·
  clear h1 h2 h3 h4 h5
  subst e
  refine sr ?_
  refine mv ?_
  refine as_ ?_
  refine dn ?_
  refine CV.ret ?_
  refine PV.thenR ?_
  cases h6
  exact PV.ret (by simp) Tryz.results153 hS (RS.tmp rfl RS.nil) rfl
 ·
  clear h1 h2 h3 h4 h5
  subst e
  refine CV.skip ?_
  refine PV.thenN ?_
  refine sr ?_
  refine mv ?_
  refine LV.call hS h6 (g180_ok _ _ _ _ _ ) hP rfl rfl rfl rfl fun x15_5 T4 n4 h7 ρ its hS => ?_
  refine as_ ?_
  refine dn ?_
  refine sr ?_
  refine mv ?_
  refine mv ?_
  refine LV.call hS h7 (g179_ok _ _ _ _ _ ) hP rfl rfl rfl rfl fun x18_6 T5 n5 h8 ρ its hS => ?_
  refine dn ?_
  refine sr ?_
  refine mv ?_
  refine LV.call hS h8 (hI _ _ _ _ _) hP rfl rfl rfl rfl fun x20_7 T6 n6 h9 ρ its hS => ?_
  refine as_ ?_
  refine dn ?_
  refine sr ?_
  refine mv ?_
  refine LV.call hS h9 (g180_ok _ _ _ _ _ ) hP rfl rfl rfl rfl fun x22_8 T7 n7 h10 ρ its hS => ?_
  refine dn ?_
  refine sr ?_
  refine mv ?_
  refine LV.call hS h10 (hI _ _ _ _ _) hP rfl rfl rfl rfl fun x24_9 T8 n8 h11 ρ its hS => ?_
  refine as_ ?_
  refine dn ?_
  refine sr ?_
  refine mv ?_
  refine fl hS h11 Vdf.fo185_3 Vdf.one3 fun x28_10 h12 => ?_
  refine vy (V.sub h12 rfl rfl) fun x29_11 h13 => ?_
  refine fa2 h13 Vdf.fo185_3 fun x31_12 h14 => ?_
  refine LV.st hS h14 rfl rfl rfl Vdf.siz3 rfl rfl fun T9 its h15 hS => ?_
  refine dn ?_
  refine sr ?_
  refine mv ?_
  refine mv ?_
  refine mv ?_
  refine mv ?_
  refine mv ?_
  refine LV.bslice hS h15 rfl rfl Vdf.el170 rfl rfl rfl rfl fun x37_13 T10 n10 h16 ρ its hS hdr => ?_
  refine LV.call hS h16 (g103_ok _ _ _ _ _ _ _ _ ) hP rfl rfl rfl rfl fun x38_14 T11 n11 h17 ρ its hS => ?_
  refine as_ ?_
  refine dn ?_
  refine CV.ret ?_
  cases h17
  exact PV.ret (by simp) Tryz.results153 hS (RS.tmp rfl RS.nil) rfl
noncomputable def g210 (ih : FuncId → List HT → List AV → HT → Nat → R) (ro : List HT) (a0 : AV) (T : HT) (nx : Nat) : R :=
 bsK 2100005 T nx 1 9 1 [(0, (.lit (.string ⟨⟨[111, 114]⟩⟩)))] fun x6_1 T1 n1 =>
 callK (ih 256 ro [a0, (.fn (.func 257) [a0] []), x6_1] T1 n1) fun x7_2 T2 n2 =>
 .ok (.val x7_2) T2 n2
theorem g210_ok (ih : FuncId → List HT → List AV → HT → Nat → R) (hI : ∀ f ro args T nx, GOk Tryz.prog envE f args ro T nx (ih f ro args T nx)) (ro : List HT) (a0 : AV) (T : HT) (nx : Nat) : GOk Tryz.prog envE 210 [a0] ro T nx (g210 ih ro a0 T nx) := by
 refine GOk.of_body Tryz.func210 rfl Tryz.ntmps210 (by kernel_rfl) rfl fun r T' n' h1 w0 base ρ0 its hS hP => ?_
 have X : CtxW envE ρ0 ro r T' n' := trivial
 unfold g210 at h1
 refine sr ?_
 refine as_ ?_
 refine dn ?_
 refine sr ?_
 refine mv ?_
 refine mv ?_
 refine pu ?_
 refine LV.bslice hS h1 rfl rfl Vdf.el54 rfl rfl rfl rfl fun x6_1 T1 n1 h2 ρ its hS hdr => ?_
 refine LV.call hS h2 (hI _ _ _ _ _) hP rfl rfl rfl rfl fun x7_2 T2 n2 h3 ρ its hS => ?_
 refine as_ ?_
 refine dn ?_
 refine CV.ret ?_
 cases h3
 exact PV.ret (by simp) Tryz.results210 hS (RS.tmp rfl RS.nil) rfl
noncomputable def g256_b1 (ih : FuncId → List HT → List AV → HT → Nat → R) (ro : List HT) (lp1 : AV → AV → AV → AV → AV → HT → Nat → R) (y0 y1 y2 y6 y7 : AV) (T2 : HT) (n2 : Nat) : R :=
 callK (g134 ro y0 y2 T2 n2) fun x13_2 T3 n3 =>
 condK 2560009 x13_2
 (
  ncK 2560011 y0 fun x15_3 =>
  faK 2560012 x15_3 0 fun x16_4 =>
  ldK 2560013 T3 ro x16_4 fun x17_5 =>
  ncK 2560015 y0 fun x19_6 =>
  faK 2560016 x19_6 1 fun x20_7 =>
  ldK 2560017 T3 ro x20_7 fun x21_8 =>
  iaK 2560018 x17_5 x21_8 3 fun x22_9 =>
  ldAK 2560019 T3 ro x22_9 3 fun x23_10 =>
  newK T3 n3 (.obj [.lit (.int .i64 0), .lit (.string ⟨#[]⟩), .lit (.int .i64 0)] 233) fun x8_11 T4 n4 =>
  stAK 2560021 T4 x8_11 x23_10 3 fun T5 =>
  fldK 2560023 T5 ro y0 1 fun x27_12 =>
  addK Tryz.prog 3 (.tmp 27) (.const (.int .i64 (.ofNat 1))) 2560024 x27_12 (.lit (.int .i64 (.ofNat 1))) fun x28_13 =>
  faK 2560025 y0 1 fun x30_14 =>
  stK 2560026 T5 x30_14 x28_13 fun T6 =>
  faK 2560028 x8_11 1 fun x32_15 =>
  ldQK 2560029 T6 ro [(x8_11, 1, 1), (x8_11, 2, 1)] x32_15 fun x33_16 =>
  faK 2560030 x8_11 2 fun x35_17 =>
  ldQK 2560031 T6 ro [(x8_11, 1, 1), (x8_11, 2, 1)] x35_17 fun x36_18 =>
  callK (g274 ro x33_16 T6 n4) fun x34_19 T7 n7 =>
  keepK 2560035 T6 T7 [(x8_11, 1, 1), (x8_11, 2, 1)] <|
  dynK 2560036 y1 fun f p q => callK (ih f ro (p ++ ([] ++ q)) T7 n7) fun x39_20 T8 n8 =>
  keepK 2560037 T6 T8 [(x8_11, 1, 1), (x8_11, 2, 1)] <|
  bsK 2560038 T8 n8 2 3 1 [(0, y7), (1, x39_20)] fun x40_21 T9 n9 =>
  keepK 2560039 T6 T9 [(x8_11, 1, 1), (x8_11, 2, 1)] <|
  callK (g103 ro y0 x34_19 x36_18 (.lit (.string ⟨⟨[]⟩⟩)) x40_21 T9 n9) fun x41_22 T10 n10 =>
  lp1 y0 y1 y2 y6 x41_22 T10 n10
 )
 (
  .ok (.val y7) T3 n3
 )
noncomputable def g256 (ih : FuncId → List HT → List AV → HT → Nat → R) (ro : List HT) (a0 a1 a2 : AV) (T : HT) (nx : Nat) : R :=
 dynK 2560003 a1 fun f p q => callK (ih f ro (p ++ ([] ++ q)) T nx) fun x10_1 T1 n1 =>
 lpf5 2560005 (g256_b1 ih ro) 100000 a0 a1 a2 (.lit (.int .i64 (.ofNat 0))) x10_1 T1 n1
theorem g256_ok (ih : FuncId → List HT → List AV → HT → Nat → R) (hI : ∀ f ro args T nx, GOk Tryz.prog envE f args ro T nx (ih f ro args T nx)) (ro : List HT) (a0 a1 a2 : AV) (T : HT) (nx : Nat) : GOk Tryz.prog envE 256 [a0, a1, a2] ro T nx (g256 ih ro a0 a1 a2 T nx) := by
 refine GOk.of_body Tryz.func256 rfl Tryz.ntmps256 (by kernel_rfl) rfl fun r T' n' h1 w0 base ρ0 its hS hP => ?_
 have X : CtxW envE ρ0 ro r T' n' := trivial
 unfold g256 at h1
 refine sr ?_
 refine as_ ?_
 refine dn ?_
 refine sr ?_
 refine mv ?_
 refine LV.callD (G := fun f gs => ih f ro gs T nx) (qs := []) hS h1 (fun f gs => hI _ _ _ _ _) hP rfl rfl rfl rfl rfl rfl rfl fun x10_1 T1 n1 h2 ρ its hS => ?_
 refine as_ ?_
 refine dn ?_
 refine CV.seq ?_
 refine CV.block ?_
 refine cl5 X 0 1 2 6 7 [] hS h2 ⟨rfl, rfl, rfl, rfl, rfl, trivial⟩ ?_
 intro f1 y0 y1 y2 y6 y7 T2 n2 ρ its hS h3
 unfold g256_b1 at h3
 clear h1 h2
 refine CV.seq ?_
 refine sr ?_
 refine mv ?_
 refine mv ?_
 refine LV.call hS h3 (g134_ok _ _ _ _ _ ) hP rfl rfl rfl rfl fun x13_2 T3 n3 h4 ρ its hS => ?_
 refine dn ?_
 refine CV.cond h4 rfl (fun e h5 => ?_) (fun e h5 => ?_)
 ·
  clear h3 h4
  subst e
  refine CV.skip ?_
  refine PV.thenN ?_
  refine CV.block ?_
  refine CV.seq ?_
  refine CV.regionM [(0, .anywhere), (1, .anywhere), (2, .anywhere), (3, .held), (4, .anywhere), (5, .anywhere), (6, .anywhere), (7, .held), (8, .held), (9, .held), (10, .alone), (11, .alone)] rfl (fun c a a' w hd hq => PanicOk.root (P := Tryz.prog) (fn := Tryz.f256) (w0 := w0) (base := base) (E := envE) (ro := ro) (r := r) (T' := T') (n' := n') (ρ0 := ρ0) c a a' w hd hq) (by kernel_rfl) ?_
  refine MV.step0 (i := 0) rfl (VAL.move rfl) rfl rfl rfl ?_
  refine MV.lift0 (i := 1) rfl (V.nc h5 rfl) rfl rfl rfl fun x15_3 h6 => ?_
  refine MV.lift0 (i := 2) rfl (V.fa h6 rfl Vdf.fo185_0) rfl rfl rfl fun x16_4 h7 => ?_
  refine MV.lift1 (i := 3) rfl (fun _ z => z) (V.ld hS h7 rfl Vdf.one183) rfl rfl rfl [] (by kernel_rfl) fun x17_5 h8 => ?_
  refine MV.step0 (i := 4) rfl (VAL.move rfl) rfl rfl rfl ?_
  refine MV.lift0 (i := 5) rfl (V.nc h8 rfl) rfl rfl rfl fun x19_6 h9 => ?_
  refine MV.lift0 (i := 6) rfl (V.fa h9 rfl Vdf.fo185_1) rfl rfl rfl fun x20_7 h10 => ?_
  refine MV.lift1 (i := 7) rfl (fun _ z => z) (V.ld hS h10 rfl Vdf.one3) rfl rfl rfl [3] (by kernel_rfl) fun x21_8 h11 => ?_
  refine MV.lift1 (i := 8) rfl (fun _ z => z) (V.ia h11 rfl rfl Vdf.el183) rfl rfl rfl [] (by kernel_rfl) fun x22_9 h12 => ?_
  refine MV.lift1 (i := 9) rfl (fun _ z => z) (V.ldA hS h12 rfl Vdf.agg233) rfl rfl rfl [] (by kernel_rfl) fun x23_10 h13 => ?_
  refine MV.force (i := 10) rfl ?_
  refine LV.alloc hS h13 rfl Vdf.zr233 rfl rfl rfl fun x8_11 T4 n4 h14 ρ its hS hdr => ?_
  refine LV.nextM [9] (by kernel_rfl) (fun _ => hdr) ?_
  refine MV.force (i := 11) rfl ?_
  refine LV.stA hS h14 rfl rfl rfl Vdf.agg233 rfl rfl rfl fun T5 its h15 hS => ?_
  refine LV.nextM [] (by kernel_rfl) (fun z => absurd rfl z) ?_
  refine mdn ?_
  refine sr ?_
  refine mv ?_
  refine fl hS h15 Vdf.fo185_1 Vdf.one3 fun x27_12 h16 => ?_
  refine vy (V.add h16 rfl rfl) fun x28_13 h17 => ?_
  refine fa2 h17 Vdf.fo185_1 fun x30_14 h18 => ?_
  refine LV.st hS h18 rfl rfl rfl Vdf.siz3 rfl rfl fun T6 its h19 hS => ?_
  refine dn ?_
  refine CV.regionMS hS [(x8_11, 1, 1), (x8_11, 2, 1)] [(0, .anywhere), (1, .anywhere), (2, .held), (4, .anywhere), (5, .held), (6, .anywhere), (7, .anywhere), (3, .alone), (8, .alone), (9, .alone), (10, .alone), (11, .alone)] rfl (fun c a a' w hd hq => PanicOk.root (P := Tryz.prog) (fn := Tryz.f256) (w0 := w0) (base := base) (E := envE) (ro := ro) (r := r) (T' := T') (n' := n') (ρ0 := ρ0) c a a' w hd hq) (by kernel_rfl) ?_
  have hK := KeepS.start [(x8_11, 1, 1), (x8_11, 2, 1)] hS
  have hR := hS
  have hP0 := hP
  replace hP := PK.up hR hP
  replace hS := hR.root
  refine MV.step0 (i := 0) rfl (VAL.move rfl) rfl rfl rfl ?_
  refine MV.lift0 (i := 1) rfl (V.fa h19 rfl Vdf.fo233_1) rfl rfl rfl fun x32_15 h20 => ?_
  refine MV.lift1 (i := 2) rfl hK (V.ldQ hS h20 rfl Vdf.one9) rfl rfl rfl [] (by kernel_rfl) fun x33_16 h21 => ?_
  refine MV.lift0 (i := 4) rfl (V.fa h21 rfl Vdf.fo233_2) rfl rfl rfl fun x35_17 h22 => ?_
  refine MV.lift1 (i := 5) rfl hK (V.ldQ hS h22 rfl Vdf.one3) rfl rfl rfl [2] (by kernel_rfl) fun x36_18 h23 => ?_
  refine MV.step0 (i := 6) rfl (VAL.move rfl) rfl rfl rfl ?_
  refine MV.step0 (i := 7) rfl (VAL.move rfl) rfl rfl rfl ?_
  refine MV.force (i := 3) rfl ?_
  refine LV.call hS h23 (g274_ok _ _ _ _ ) hP rfl rfl rfl rfl fun x34_19 T7 n7 h24 ρ its hS => ?_
  obtain ⟨hK, h25⟩ := KeepS.step hR hS h24
  refine LV.nextM [5] (by kernel_rfl) (fun _ => hK) ?_
  refine MV.force (i := 8) rfl ?_
  refine LV.callD (G := fun f gs => ih f ro gs T7 n7) (qs := []) hS h25 (fun f gs => hI _ _ _ _ _) hP rfl rfl rfl rfl rfl rfl rfl fun x39_20 T8 n8 h26 ρ its hS => ?_
  obtain ⟨hK, h27⟩ := KeepS.step hR hS h26
  refine LV.nextM [5] (by kernel_rfl) (fun _ => hK) ?_
  refine MV.force (i := 9) rfl ?_
  refine LV.bslice hS h27 rfl rfl Vdf.el170 rfl rfl rfl rfl fun x40_21 T9 n9 h28 ρ its hS hdr => ?_
  obtain ⟨hK, h29⟩ := KeepS.step hR hS h28
  refine LV.nextM [5] (by kernel_rfl) (fun _ => hK) ?_
  refine MV.force (i := 10) rfl ?_
  refine LV.call hS h29 (g103_ok _ _ _ _ _ _ _ _ ) hP rfl rfl rfl rfl fun x41_22 T10 n10 h30 ρ its hS => ?_
  refine LV.nextM [] (by kernel_rfl) (fun z => absurd rfl z) ?_
  refine MV.force (i := 11) rfl ?_
  refine as_ ?_
  refine LV.nextM [] (by kernel_rfl) (fun z => absurd rfl z) ?_
  replace hS := hR.up hS
  replace hP := hP0
  refine MV.done ?_
  refine PV.blockN ?_
  exact pb5 hS h30 ⟨rfl, rfl, rfl, rfl, rfl, trivial⟩
 ·
  clear h3 h4
  subst e
  refine CV.exit ?_
  refine PV.thenE ?_
  refine PV.thenE ?_
  refine PV.blockE ?_
  refine PV.thenN ?_
  refine sr ?_
  refine mv ?_
  refine as_ ?_
  refine dn ?_
  refine CV.ret ?_
  cases h5
  exact PV.ret (by simp) Tryz.results256 hS (RS.tmp rfl RS.nil) rfl
noncomputable def g257 (ih : FuncId → List HT → List AV → HT → Nat → R) (ro : List HT) (a0 : AV) (T : HT) (nx : Nat) : R :=
 bsK 2570005 T nx 1 9 1 [(0, (.lit (.string ⟨⟨[97, 110, 100]⟩⟩)))] fun x6_1 T1 n1 =>
 callK (ih 256 ro [a0, (.fn (.func 275) [a0] []), x6_1] T1 n1) fun x7_2 T2 n2 =>
 .ok (.val x7_2) T2 n2
theorem g257_ok (ih : FuncId → List HT → List AV → HT → Nat → R) (hI : ∀ f ro args T nx, GOk Tryz.prog envE f args ro T nx (ih f ro args T nx)) (ro : List HT) (a0 : AV) (T : HT) (nx : Nat) : GOk Tryz.prog envE 257 [a0] ro T nx (g257 ih ro a0 T nx) := by
 refine GOk.of_body Tryz.func257 rfl Tryz.ntmps257 (by kernel_rfl) rfl fun r T' n' h1 w0 base ρ0 its hS hP => ?_
 have X : CtxW envE ρ0 ro r T' n' := trivial
 unfold g257 at h1
 refine sr ?_
 refine as_ ?_
 refine dn ?_
 refine sr ?_
 refine mv ?_
 refine mv ?_
 refine pu ?_
 refine LV.bslice hS h1 rfl rfl Vdf.el54 rfl rfl rfl rfl fun x6_1 T1 n1 h2 ρ its hS hdr => ?_
 refine LV.call hS h2 (hI _ _ _ _ _) hP rfl rfl rfl rfl fun x7_2 T2 n2 h3 ρ its hS => ?_
 refine as_ ?_
 refine dn ?_
 refine CV.ret ?_
 cases h3
 exact PV.ret (by simp) Tryz.results257 hS (RS.tmp rfl RS.nil) rfl
noncomputable def g275 (ih : FuncId → List HT → List AV → HT → Nat → R) (ro : List HT) (a0 : AV) (T : HT) (nx : Nat) : R :=
 bsK 2750003 T nx 1 9 1 [(0, (.lit (.string ⟨⟨[110, 111, 116]⟩⟩)))] fun x6_1 T1 n1 =>
 callK (g134 ro a0 x6_1 T1 n1) fun x7_2 T2 n2 =>
 notK 2750005 x7_2 fun x8_3 =>
 condK 2750006 x8_3
 (
  callK (ih 280 ro [a0] T2 n2) fun x10_4 T3 n3 =>
  .ok (.val x10_4) T3 n3
 )
 (
  callK (g180 ro a0 (.lit (.string ⟨⟨[110, 111, 116]⟩⟩)) T2 n2) fun x12_5 T4 n4 =>
  callK (g179 ro a0 x12_5 T4 n4) fun x15_6 T5 n5 =>
  callK (ih 275 ro [a0] T5 n5) fun x17_7 T6 n6 =>
  fldK 2750020 T6 ro a0 3 fun x21_8 =>
  subK Tryz.prog 3 (.tmp 21) (.const (.int .i64 (.ofNat 1))) 2750021 x21_8 (.lit (.int .i64 (.ofNat 1))) fun x22_9 =>
  faK 2750022 a0 3 fun x24_10 =>
  stK 2750023 T6 x24_10 x22_9 fun T7 =>
  bsK 2750027 T7 n6 1 3 1 [(0, x17_7)] fun x28_11 T8 n8 =>
  callK (g103 ro a0 (.lit (.int .i64 (.ofNat 17))) x12_5 (.lit (.string ⟨⟨[]⟩⟩)) x28_11 T8 n8) fun x29_12 T9 n9 =>
  .ok (.val x29_12) T9 n9
 )
theorem g275_ok (ih : FuncId → List HT → List AV → HT → Nat → R) (hI : ∀ f ro args T nx, GOk Tryz.prog envE f args ro T nx (ih f ro args T nx)) (ro : List HT) (a0 : AV) (T : HT) (nx : Nat) : GOk Tryz.prog envE 275 [a0] ro T nx (g275 ih ro a0 T nx) := by
 refine GOk.of_body Tryz.func275 rfl Tryz.ntmps275 (by kernel_rfl) rfl fun r T' n' h1 w0 base ρ0 its hS hP => ?_
 have X : CtxW envE ρ0 ro r T' n' := trivial
 unfold g275 at h1
 refine sr ?_
 refine as_ ?_
 refine dn ?_
 refine CV.seq ?_
 refine sr ?_
 refine mv ?_
 refine LV.bslice hS h1 rfl rfl Vdf.el54 rfl rfl rfl rfl fun x6_1 T1 n1 h2 ρ its hS hdr => ?_
 refine LV.call hS h2 (g134_ok _ _ _ _ _ ) hP rfl rfl rfl rfl fun x7_2 T2 n2 h3 ρ its hS => ?_
 refine vy (V.not h3 rfl) fun x8_3 h4 => ?_
 refine dn ?_
 refine CV.cond h4 rfl (fun e h5 => ?_) (fun e h5 => ?_)
 ·
  clear h1 h2 h3 h4
  subst e
  refine sr ?_
  refine mv ?_
  refine LV.call hS h5 (hI _ _ _ _ _) hP rfl rfl rfl rfl fun x10_4 T3 n3 h6 ρ its hS => ?_
  refine as_ ?_
  refine dn ?_
  refine CV.ret ?_
  refine PV.thenR ?_
  cases h6
  exact PV.ret (by simp) Tryz.results275 hS (RS.tmp rfl RS.nil) rfl
 ·
  clear h1 h2 h3 h4
  subst e
  refine CV.skip ?_
  refine PV.thenN ?_
  refine sr ?_
  refine mv ?_
  refine LV.call hS h5 (g180_ok _ _ _ _ _ ) hP rfl rfl rfl rfl fun x12_5 T4 n4 h7 ρ its hS => ?_
  refine as_ ?_
  refine dn ?_
  refine sr ?_
  refine mv ?_
  refine mv ?_
  refine LV.call hS h7 (g179_ok _ _ _ _ _ ) hP rfl rfl rfl rfl fun x15_6 T5 n5 h8 ρ its hS => ?_
  refine dn ?_
  refine sr ?_
  refine mv ?_
  refine LV.call hS h8 (hI _ _ _ _ _) hP rfl rfl rfl rfl fun x17_7 T6 n6 h9 ρ its hS => ?_
  refine as_ ?_
  refine dn ?_
  refine sr ?_
  refine mv ?_
  refine fl hS h9 Vdf.fo185_3 Vdf.one3 fun x21_8 h10 => ?_
  refine vy (V.sub h10 rfl rfl) fun x22_9 h11 => ?_
  refine fa2 h11 Vdf.fo185_3 fun x24_10 h12 => ?_
  refine LV.st hS h12 rfl rfl rfl Vdf.siz3 rfl rfl fun T7 its h13 hS => ?_
  refine dn ?_
  refine sr ?_
  refine mv ?_
  refine mv ?_
  refine mv ?_
  refine LV.bslice hS h13 rfl rfl Vdf.el170 rfl rfl rfl rfl fun x28_11 T8 n8 h14 ρ its hS hdr => ?_
  refine LV.call hS h14 (g103_ok _ _ _ _ _ _ _ _ ) hP rfl rfl rfl rfl fun x29_12 T9 n9 h15 ρ its hS => ?_
  refine as_ ?_
  refine dn ?_
  refine CV.ret ?_
  cases h15
  exact PV.ret (by simp) Tryz.results275 hS (RS.tmp rfl RS.nil) rfl
noncomputable def g277_b1 (ih : FuncId → List HT → List AV → HT → Nat → R) (ro : List HT) (lp1 : AV → AV → AV → HT → Nat → R) (y0 y2 y3 : AV) (T2 : HT) (n2 : Nat) : R :=
 callK (g152 ro y0 T2 n2) fun x10_2 T3 n3 =>
 callK (g154 ro y0 (.lit (.string ⟨⟨[46]⟩⟩)) T3 n3) fun x14_3 T4 n4 =>
 condK 2770012 x14_3
 (
  .bad 2770013
 )
 (
  bsK 2770015 T4 n4 1 9 1 [(0, (.lit (.string ⟨⟨[40]⟩⟩)))] fun x28_4 T5 n5 =>
  callK (g134 ro y0 x28_4 T5 n5) fun x29_5 T6 n6 =>
  condK 2770018 x29_5
  (
   .bad 2770019
  )
  (
   bsK 2770021 T6 n6 1 9 1 [(0, (.lit (.string ⟨⟨[91]⟩⟩)))] fun x35_6 T7 n7 =>
   callK (g134 ro y0 x35_6 T7 n7) fun x36_7 T8 n8 =>
   condK 2770024 x36_7
   (
    .bad 2770025
   )
   (
    .ok (.val y3) T8 n8
   )
  )
 )
noncomputable def g277 (ih : FuncId → List HT → List AV → HT → Nat → R) (ro : List HT) (a0 : AV) (T : HT) (nx : Nat) : R :=
 callK (ih 281 ro [a0] T nx) fun x8_1 T1 n1 =>
 lpf3 2770005 (g277_b1 ih ro) 100000 a0 (.lit (.int .i64 (.ofNat 0))) x8_1 T1 n1
theorem g277_ok (ih : FuncId → List HT → List AV → HT → Nat → R) (hI : ∀ f ro args T nx, GOk Tryz.prog envE f args ro T nx (ih f ro args T nx)) (ro : List HT) (a0 : AV) (T : HT) (nx : Nat) : GOk Tryz.prog envE 277 [a0] ro T nx (g277 ih ro a0 T nx) := by
 refine GOk.of_body Tryz.func277 rfl Tryz.ntmps277 (by kernel_rfl) rfl fun r T' n' h1 w0 base ρ0 its hS hP => ?_
 have X : CtxW envE ρ0 ro r T' n' := trivial
 unfold g277 at h1
 refine sr ?_
 refine as_ ?_
 refine dn ?_
 refine sr ?_
 refine mv ?_
 refine LV.call hS h1 (hI _ _ _ _ _) hP rfl rfl rfl rfl fun x8_1 T1 n1 h2 ρ its hS => ?_
 refine as_ ?_
 refine dn ?_
 refine CV.block ?_
 refine cl3 X 0 2 3 [] hS h2 ⟨rfl, rfl, rfl, trivial⟩ ?_
 intro f1 y0 y2 y3 T2 n2 ρ its hS h3
 unfold g277_b1 at h3
 clear h1 h2
 refine CV.block ?_
 refine sr ?_
 refine mv ?_
 refine LV.call hS h3 (g152_ok _ _ _ _ ) hP rfl rfl rfl rfl fun x10_2 T3 n3 h4 ρ its hS => ?_
 refine as_ ?_
 refine dn ?_
 refine CV.block ?_
 refine sr ?_
 refine mv ?_
 refine LV.call hS h4 (g154_ok _ _ _ _ _ ) hP rfl rfl rfl rfl fun x14_3 T4 n4 h5 ρ its hS => ?_
 refine as_ ?_
 refine dn ?_
 refine CV.cond h5 rfl (fun e h6 => ?_) (fun e h6 => ?_)
 ·
  clear h3 h4 h5
  subst e
  cases h6
 ·
  clear h3 h4 h5
  subst e
  refine sr ?_
  refine mv ?_
  refine LV.bslice hS h6 rfl rfl Vdf.el54 rfl rfl rfl rfl fun x28_4 T5 n5 h7 ρ its hS hdr => ?_
  refine LV.call hS h7 (g134_ok _ _ _ _ _ ) hP rfl rfl rfl rfl fun x29_5 T6 n6 h8 ρ its hS => ?_
  refine as_ ?_
  refine dn ?_
  refine CV.cond h8 rfl (fun e h9 => ?_) (fun e h9 => ?_)
  ·
   clear h6 h7 h8
   subst e
   cases h9
  ·
   clear h6 h7 h8
   subst e
   refine sr ?_
   refine mv ?_
   refine LV.bslice hS h9 rfl rfl Vdf.el54 rfl rfl rfl rfl fun x35_6 T7 n7 h10 ρ its hS hdr => ?_
   refine LV.call hS h10 (g134_ok _ _ _ _ _ ) hP rfl rfl rfl rfl fun x36_7 T8 n8 h11 ρ its hS => ?_
   refine as_ ?_
   refine dn ?_
   refine CV.cond h11 rfl (fun e h12 => ?_) (fun e h12 => ?_)
   ·
    clear h9 h10 h11
    subst e
    cases h12
   ·
    clear h9 h10 h11
    subst e
    refine sr ?_
    refine mv ?_
    refine as_ ?_
    refine dn ?_
    refine CV.ret ?_
    refine PV.blockR ?_
    refine PV.blockR ?_
    refine PV.thenR ?_
    refine PV.blockR ?_
    cases h12
    exact PV.ret (by simp) Tryz.results277 hS (RS.tmp rfl RS.nil) rfl
noncomputable def g280 (ih : FuncId → List HT → List AV → HT → Nat → R) (ro : List HT) (a0 : AV) (T : HT) (nx : Nat) : R :=
 callK (ih 284 ro [a0] T nx) fun x7_1 T1 n1 =>
 callK (g152 ro a0 T1 n1) fun x9_2 T2 n2 =>
 bsK 2800009 T2 n2 1 9 1 [(0, (.lit (.string ⟨⟨[110, 111, 116]⟩⟩)))] fun x12_3 T3 n3 =>
 callK (g134 ro a0 x12_3 T3 n3) fun x13_4 T4 n4 =>
 condK 2800012 x13_4
 (
  .bad 2800013
 )
 (
  bsK 2800015 T4 n4 7 9 1 [(0, (.lit (.string ⟨⟨[61, 61]⟩⟩))), (1, (.lit (.string ⟨⟨[33, 61]⟩⟩))), (2, (.lit (.string ⟨⟨[60]⟩⟩))), (3, (.lit (.string ⟨⟨[60, 61]⟩⟩))), (4, (.lit (.string ⟨⟨[62]⟩⟩))), (5, (.lit (.string ⟨⟨[62, 61]⟩⟩))), (6, (.lit (.string ⟨⟨[105, 110]⟩⟩)))] fun x32_5 T5 n5 =>
  callK (g134 ro a0 x32_5 T5 n5) fun x33_6 T6 n6 =>
  condK 2800018 x33_6
  (
   .bad 2800019
  )
  (
   .ok (.val x7_1) T6 n6
  )
 )
theorem g280_ok (ih : FuncId → List HT → List AV → HT → Nat → R) (hI : ∀ f ro args T nx, GOk Tryz.prog envE f args ro T nx (ih f ro args T nx)) (ro : List HT) (a0 : AV) (T : HT) (nx : Nat) : GOk Tryz.prog envE 280 [a0] ro T nx (g280 ih ro a0 T nx) := by
 refine GOk.of_body Tryz.func280 rfl Tryz.ntmps280 (by kernel_rfl) rfl fun r T' n' h1 w0 base ρ0 its hS hP => ?_
 have X : CtxW envE ρ0 ro r T' n' := trivial
 unfold g280 at h1
 refine sr ?_
 refine as_ ?_
 refine dn ?_
 refine sr ?_
 refine mv ?_
 refine LV.call hS h1 (hI _ _ _ _ _) hP rfl rfl rfl rfl fun x7_1 T1 n1 h2 ρ its hS => ?_
 refine as_ ?_
 refine dn ?_
 refine sr ?_
 refine mv ?_
 refine LV.call hS h2 (g152_ok _ _ _ _ ) hP rfl rfl rfl rfl fun x9_2 T2 n2 h3 ρ its hS => ?_
 refine as_ ?_
 refine dn ?_
 refine CV.seq ?_
 refine CV.block ?_
 refine sr ?_
 refine mv ?_
 refine LV.bslice hS h3 rfl rfl Vdf.el54 rfl rfl rfl rfl fun x12_3 T3 n3 h4 ρ its hS hdr => ?_
 refine LV.call hS h4 (g134_ok _ _ _ _ _ ) hP rfl rfl rfl rfl fun x13_4 T4 n4 h5 ρ its hS => ?_
 refine as_ ?_
 refine dn ?_
 refine CV.cond h5 rfl (fun e h6 => ?_) (fun e h6 => ?_)
 ·
  clear h1 h2 h3 h4 h5
  subst e
  cases h6
 ·
  clear h1 h2 h3 h4 h5
  subst e
  refine sr ?_
  refine mv ?_
  refine LV.bslice hS h6 rfl rfl Vdf.el54 rfl rfl rfl rfl fun x32_5 T5 n5 h7 ρ its hS hdr => ?_
  refine LV.call hS h7 (g134_ok _ _ _ _ _ ) hP rfl rfl rfl rfl fun x33_6 T6 n6 h8 ρ its hS => ?_
  refine as_ ?_
  refine dn ?_
  refine CV.cond h8 rfl (fun e h9 => ?_) (fun e h9 => ?_)
  ·
   clear h6 h7 h8
   subst e
   cases h9
  ·
   clear h6 h7 h8
   subst e
   refine CV.skip ?_
   refine PV.blockN ?_
   refine PV.thenN ?_
   refine sr ?_
   refine mv ?_
   refine as_ ?_
   refine dn ?_
   refine CV.ret ?_
   cases h9
   exact PV.ret (by simp) Tryz.results280 hS (RS.tmp rfl RS.nil) rfl

end Go.Proofs.YtlljgagoboapaaaGreatDoor.Vd
