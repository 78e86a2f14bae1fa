/-
  Proved here: plain functions that do what the program's functions do, each with its proof.
-/
import Derived.Test.YtdepmlcnllofiaaGreatDoorRng
namespace Go.Proofs.YtdepmlcnllofiaaGreatDoor.Rn
open Go.EY Go.EX Go.SX Go.RowKit
noncomputable def g160_k9 (ro : List HT) (lp5 : AV → AV → AV → AV → AV → AV → AV → HT → Nat → R) (lp8 : AV → AV → AV → AV → AV → AV → AV → HT → Nat → R) (y0 y1 y4 y10 y11 y12 y13 y139 : AV) (T13 : HT) (n13 : Nat) : R :=
 condK 1600069 y139
 (
  subK Tryz.prog 3 (.tmp 140) (.const (.int .i64 (.ofNat 1))) 1600071 y13 (.lit (.int .i64 (.ofNat 1))) fun x141_21 =>
  lp8 y0 y1 y4 y10 y11 y12 x141_21 T13 n13
 )
 (
  gtK Tryz.prog 3 (.tmp 142) (.tmp 143) 1600075 y12 y13 fun x144_22 =>
  condK 1600076 x144_22
  (
   iaK 1600083 y0 y1 3 fun x169_23 =>
   ldAK 1600084 T13 ro x169_23 3 fun x170_24 =>
   iaK 1600087 y0 y13 3 fun x173_25 =>
   ldAK 1600088 T13 ro x173_25 3 fun x174_26 =>
   iaK 1600089 y0 y13 3 fun x175_27 =>
   stAK 1600090 T13 x175_27 x170_24 3 fun T14 =>
   iaK 1600091 y0 y1 3 fun x176_28 =>
   stAK 1600092 T14 x176_28 x174_26 3 fun T15 =>
   .ok (.val (.tup [y13, (.lit (.bool false))])) T15 n13
  )
  (
   iaK 1600102 y0 y13 3 fun x151_29 =>
   ldAK 1600103 T13 ro x151_29 3 fun x152_30 =>
   iaK 1600106 y0 y12 3 fun x155_31 =>
   ldAK 1600107 T13 ro x155_31 3 fun x156_32 =>
   iaK 1600108 y0 y12 3 fun x157_33 =>
   stAK 1600109 T13 x157_33 x152_30 3 fun T16 =>
   iaK 1600110 y0 y13 3 fun x158_34 =>
   stAK 1600111 T16 x158_34 x156_32 3 fun T17 =>
   addK Tryz.prog 3 (.tmp 159) (.const (.int .i64 (.ofNat 1))) 1600113 y12 (.lit (.int .i64 (.ofNat 1))) fun x160_35 =>
   subK Tryz.prog 3 (.tmp 161) (.const (.int .i64 (.ofNat 1))) 1600116 y13 (.lit (.int .i64 (.ofNat 1))) fun x162_36 =>
   lp5 y0 y1 y4 y10 y11 x160_35 x162_36 T17 n13
  )
 )
noncomputable def g160_b8 (ro : List HT) (lp5 : AV → AV → AV → AV → AV → AV → AV → HT → Nat → R) (lp8 : AV → AV → AV → AV → AV → AV → AV → HT → Nat → R) (y0 y1 y4 y10 y11 y12 y13 : AV) (T12 : HT) (n12 : Nat) : R :=
 leK Tryz.prog 3 (.tmp 123) (.tmp 124) 1600120 y12 y13 fun x125_37 =>
 condK 1600122 x125_37
 (
  iaK 1600126 y0 y13 3 fun x130_38 =>
  ldAK 1600127 T12 ro x130_38 3 fun x131_39 =>
  iaK 1600130 y0 y1 3 fun x134_40 =>
  ldAK 1600131 T12 ro x134_40 3 fun x135_41 =>
  dynK 1600132 y4 fun f p q => callK (scc3 4000 f ro (p ++ ([x131_39, x135_41] ++ q)) T12 n12) fun x136_42 T18 n18 =>
  ltK Tryz.prog 3 (.tmp 136) (.const (.int .i64 (.ofNat 0))) 1600133 x136_42 (.lit (.int .i64 (.ofNat 0))) fun x137_43 =>
  notK 1600134 x137_43 fun x138_44 =>
  g160_k9 ro lp5 lp8 y0 y1 y4 y10 y11 y12 y13 x138_44 T18 n18
 )
 (
  g160_k9 ro lp5 lp8 y0 y1 y4 y10 y11 y12 y13 (.lit (.bool false)) T12 n12
 )
noncomputable def g160_k7 (ro : List HT) (lp5 : AV → AV → AV → AV → AV → AV → AV → HT → Nat → R) (lp6 : AV → AV → AV → AV → AV → AV → AV → HT → Nat → R) (y0 y1 y4 y10 y11 y12 y13 y120 : AV) (T11 : HT) (n11 : Nat) : R :=
 condK 1600064 y120
 (
  addK Tryz.prog 3 (.tmp 121) (.const (.int .i64 (.ofNat 1))) 1600066 y12 (.lit (.int .i64 (.ofNat 1))) fun x122_20 =>
  lp6 y0 y1 y4 y10 y11 x122_20 y13 T11 n11
 )
 (
  lpf7 1600068 (g160_b8 ro lp5) 100000 y0 y1 y4 y10 y11 y12 y13 T11 n11
 )
noncomputable def g160_b6 (ro : List HT) (lp5 : AV → AV → AV → AV → AV → AV → AV → HT → Nat → R) (lp6 : AV → AV → AV → AV → AV → AV → AV → HT → Nat → R) (y0 y1 y4 y10 y11 y12 y13 : AV) (T10 : HT) (n10 : Nat) : R :=
 leK Tryz.prog 3 (.tmp 105) (.tmp 106) 1600139 y12 y13 fun x107_45 =>
 condK 1600141 x107_45
 (
  iaK 1600145 y0 y12 3 fun x112_46 =>
  ldAK 1600146 T10 ro x112_46 3 fun x113_47 =>
  iaK 1600149 y0 y1 3 fun x116_48 =>
  ldAK 1600150 T10 ro x116_48 3 fun x117_49 =>
  dynK 1600151 y4 fun f p q => callK (scc3 4000 f ro (p ++ ([x113_47, x117_49] ++ q)) T10 n10) fun x118_50 T19 n19 =>
  ltK Tryz.prog 3 (.tmp 118) (.const (.int .i64 (.ofNat 0))) 1600152 x118_50 (.lit (.int .i64 (.ofNat 0))) fun x119_51 =>
  g160_k7 ro lp5 lp6 y0 y1 y4 y10 y11 y12 y13 x119_51 T19 n19
 )
 (
  g160_k7 ro lp5 lp6 y0 y1 y4 y10 y11 y12 y13 (.lit (.bool false)) T10 n10
 )
noncomputable def g160_b5 (ro : List HT) (lp5 : AV → AV → AV → AV → AV → AV → AV → HT → Nat → R) (y0 y1 y4 y10 y11 y12 y13 : AV) (T9 : HT) (n9 : Nat) : R :=
 lpf7 1600063 (g160_b6 ro lp5) 100000 y0 y1 y4 y10 y11 y12 y13 T9 n9
noncomputable def g160_k4 (ro : List HT) (lp3 : AV → AV → AV → AV → AV → AV → AV → HT → Nat → R) (y0 y1 y4 y10 y11 y12 y13 y66 : AV) (T6 : HT) (n6 : Nat) : R :=
 condK 1600031 y66
 (
  subK Tryz.prog 3 (.tmp 67) (.const (.int .i64 (.ofNat 1))) 1600033 y13 (.lit (.int .i64 (.ofNat 1))) fun x68_10 =>
  lp3 y0 y1 y4 y10 y11 y12 x68_10 T6 n6
 )
 (
  gtK Tryz.prog 3 (.tmp 69) (.tmp 70) 1600037 y12 y13 fun x71_11 =>
  condK 1600038 x71_11
  (
   .bad 1600039
  )
  (
   iaK 1600046 y0 y13 3 fun x93_12 =>
   ldAK 1600047 T6 ro x93_12 3 fun x94_13 =>
   iaK 1600050 y0 y12 3 fun x97_14 =>
   ldAK 1600051 T6 ro x97_14 3 fun x98_15 =>
   iaK 1600052 y0 y12 3 fun x99_16 =>
   stAK 1600053 T6 x99_16 x94_13 3 fun T7 =>
   iaK 1600054 y0 y13 3 fun x100_17 =>
   stAK 1600055 T7 x100_17 x98_15 3 fun T8 =>
   addK Tryz.prog 3 (.tmp 101) (.const (.int .i64 (.ofNat 1))) 1600057 y12 (.lit (.int .i64 (.ofNat 1))) fun x102_18 =>
   subK Tryz.prog 3 (.tmp 103) (.const (.int .i64 (.ofNat 1))) 1600060 y13 (.lit (.int .i64 (.ofNat 1))) fun x104_19 =>
   lpf7 1600062 (g160_b5 ro) 100000 y0 y1 y4 y10 y11 x102_18 x104_19 T8 n6
  )
 )
noncomputable def g160_b3 (ro : List HT) (lp3 : AV → AV → AV → AV → AV → AV → AV → HT → Nat → R) (y0 y1 y4 y10 y11 y12 y13 : AV) (T5 : HT) (n5 : Nat) : R :=
 leK Tryz.prog 3 (.tmp 50) (.tmp 51) 1600157 y12 y13 fun x52_52 =>
 condK 1600159 x52_52
 (
  iaK 1600163 y0 y13 3 fun x57_53 =>
  ldAK 1600164 T5 ro x57_53 3 fun x58_54 =>
  iaK 1600167 y0 y1 3 fun x61_55 =>
  ldAK 1600168 T5 ro x61_55 3 fun x62_56 =>
  dynK 1600169 y4 fun f p q => callK (scc3 4000 f ro (p ++ ([x58_54, x62_56] ++ q)) T5 n5) fun x63_57 T20 n20 =>
  ltK Tryz.prog 3 (.tmp 63) (.const (.int .i64 (.ofNat 0))) 1600170 x63_57 (.lit (.int .i64 (.ofNat 0))) fun x64_58 =>
  notK 1600171 x64_58 fun x65_59 =>
  g160_k4 ro lp3 y0 y1 y4 y10 y11 y12 y13 x65_59 T20 n20
 )
 (
  g160_k4 ro lp3 y0 y1 y4 y10 y11 y12 y13 (.lit (.bool false)) T5 n5
 )
noncomputable def g160_k2 (ro : List HT) (lp1 : AV → AV → AV → AV → AV → AV → AV → HT → Nat → R) (y0 y1 y4 y10 y11 y12 y13 y47 : AV) (T4 : HT) (n4 : Nat) : R :=
 condK 1600026 y47
 (
  addK Tryz.prog 3 (.tmp 48) (.const (.int .i64 (.ofNat 1))) 1600028 y12 (.lit (.int .i64 (.ofNat 1))) fun x49_9 =>
  lp1 y0 y1 y4 y10 y11 x49_9 y13 T4 n4
 )
 (
  lpf7 1600030 (g160_b3 ro) 100000 y0 y1 y4 y10 y11 y12 y13 T4 n4
 )
noncomputable def g160_b1 (ro : List HT) (lp1 : AV → AV → AV → AV → AV → AV → AV → HT → Nat → R) (y0 y1 y4 y10 y11 y12 y13 : AV) (T3 : HT) (n3 : Nat) : R :=
 leK Tryz.prog 3 (.tmp 32) (.tmp 33) 1600176 y12 y13 fun x34_60 =>
 condK 1600178 x34_60
 (
  iaK 1600182 y0 y12 3 fun x39_61 =>
  ldAK 1600183 T3 ro x39_61 3 fun x40_62 =>
  iaK 1600186 y0 y1 3 fun x43_63 =>
  ldAK 1600187 T3 ro x43_63 3 fun x44_64 =>
  dynK 1600188 y4 fun f p q => callK (scc3 4000 f ro (p ++ ([x40_62, x44_64] ++ q)) T3 n3) fun x45_65 T21 n21 =>
  ltK Tryz.prog 3 (.tmp 45) (.const (.int .i64 (.ofNat 0))) 1600189 x45_65 (.lit (.int .i64 (.ofNat 0))) fun x46_66 =>
  g160_k2 ro lp1 y0 y1 y4 y10 y11 y12 y13 x46_66 T21 n21
 )
 (
  g160_k2 ro lp1 y0 y1 y4 y10 y11 y12 y13 (.lit (.bool false)) T3 n3
 )
noncomputable def g160 (ro : List HT) (a0 a1 a2 a3 a4 : AV) (T : HT) (nx : Nat) : R :=
 iaK 1600009 a0 a3 3 fun x20_1 =>
 ldAK 1600010 T ro x20_1 3 fun x21_2 =>
 iaK 1600013 a0 a1 3 fun x24_3 =>
 ldAK 1600014 T ro x24_3 3 fun x25_4 =>
 iaK 1600015 a0 a1 3 fun x26_5 =>
 stAK 1600016 T x26_5 x21_2 3 fun T1 =>
 iaK 1600017 a0 a3 3 fun x27_6 =>
 stAK 1600018 T1 x27_6 x25_4 3 fun T2 =>
 addK Tryz.prog 3 (.tmp 28) (.const (.int .i64 (.ofNat 1))) 1600020 a1 (.lit (.int .i64 (.ofNat 1))) fun x29_7 =>
 subK Tryz.prog 3 (.tmp 30) (.const (.int .i64 (.ofNat 1))) 1600022 a2 (.lit (.int .i64 (.ofNat 1))) fun x31_8 =>
 lpf7 1600025 (g160_b1 ro) 100000 a0 a1 a4 (.lit (.int .i64 (.ofNat 0))) (.lit (.bool false)) x29_7 x31_8 T2 nx
theorem g160_ok (ro : List HT) (a0 a1 a2 a3 a4 : AV) (T : HT) (nx : Nat) : GOk Tryz.prog envE 160 [a0, a1, a2, a3, a4] ro T nx (g160 ro a0 a1 a2 a3 a4 T nx) := by
 refine GOk.of_body Tryz.func160 rfl Tryz.ntmps160 (by kernel_rfl) rfl fun r T' n' h1 w0 base ρ0 its hS hP => ?_
 have X : CtxW envE ρ0 ro r T' n' := trivial
 unfold g160 at h1
 refine sr ?_
 refine as_ ?_
 refine as_ ?_
 refine dn ?_
 refine CV.seq ?_
 refine CV.regionM [(0, .anywhere), (1, .anywhere), (2, .anywhere), (3, .anywhere), (4, .anywhere), (5, .anywhere), (6, .anywhere), (7, .held), (8, .anywhere), (9, .anywhere), (10, .anywhere), (11, .held), (12, .held), (13, .alone), (14, .alone), (15, .alone)] rfl (fun c a a' w hd hq => PanicOk.root (P := Tryz.prog) (fn := Tryz.f160) (w0 := w0) (base := base) (E := envE) (ro := ro) (r := r) (T' := T') (n' := n') (ρ0 := ρ0) c a a' w hd hq) (by kernel_rfl) ?_
 refine MV.step0 (i := 0) rfl (VAL.move rfl) rfl rfl rfl ?_
 refine MV.step0 (i := 1) rfl (VAL.move rfl) rfl rfl rfl ?_
 refine MV.step0 (i := 2) rfl (VAL.move rfl) rfl rfl rfl ?_
 refine MV.step0 (i := 3) rfl (VAL.move rfl) rfl rfl rfl ?_
 refine MV.step0 (i := 4) rfl (VAL.move rfl) rfl rfl rfl ?_
 refine MV.step0 (i := 5) rfl (VAL.move rfl) rfl rfl rfl ?_
 refine MV.lift0 (i := 6) rfl (V.ia h1 rfl rfl Rnf.el50) rfl rfl rfl fun x20_1 h2 => ?_
 refine MV.lift1 (i := 7) rfl (fun _ z => z) (V.ldA hS h2 rfl Rnf.agg58) rfl rfl rfl [] (by kernel_rfl) fun x21_2 h3 => ?_
 refine MV.step0 (i := 8) rfl (VAL.move rfl) rfl rfl rfl ?_
 refine MV.step0 (i := 9) rfl (VAL.move rfl) rfl rfl rfl ?_
 refine MV.lift0 (i := 10) rfl (V.ia h3 rfl rfl Rnf.el50) rfl rfl rfl fun x24_3 h4 => ?_
 refine MV.lift1 (i := 11) rfl (fun _ z => z) (V.ldA hS h4 rfl Rnf.agg58) rfl rfl rfl [7] (by kernel_rfl) fun x25_4 h5 => ?_
 refine MV.lift1 (i := 12) rfl (fun _ z => z) (V.ia h5 rfl rfl Rnf.el50) rfl rfl rfl [] (by kernel_rfl) fun x26_5 h6 => ?_
 refine MV.force (i := 13) rfl ?_
 refine LV.stA hS h6 rfl rfl rfl Rnf.agg58 rfl rfl rfl fun T1 its h7 hS => ?_
 refine LV.nextM [] (by kernel_rfl) (fun z => absurd rfl z) ?_
 refine MV.force (i := 14) rfl ?_
 refine vy (V.ia h7 rfl rfl Rnf.el50) fun x27_6 h8 => ?_
 refine LV.nextM [] (by kernel_rfl) (fun z => absurd rfl z) ?_
 refine MV.force (i := 15) rfl ?_
 refine LV.stA hS h8 rfl rfl rfl Rnf.agg58 rfl rfl rfl fun T2 its h9 hS => ?_
 refine LV.nextM [] (by kernel_rfl) (fun z => absurd rfl z) ?_
 refine mdn ?_
 refine sr ?_
 refine mv ?_
 refine vy (V.add h9 rfl rfl) fun x29_7 h10 => ?_
 refine mv ?_
 refine vy (V.sub h10 rfl rfl) fun x31_8 h11 => ?_
 refine as_ ?_
 refine as_ ?_
 refine dn ?_
 refine CV.seq ?_
 refine CV.block ?_
 refine cl7 X 0 1 4 10 11 12 13 [] hS h11 ⟨rfl, rfl, rfl, rfl, rfl, rfl, rfl, trivial⟩ ?_
 intro f1 y0 y1 y4 y10 y11 y12 y13 T3 n3 ρ its hS h12
 unfold g160_b1 at h12
 clear h1 h2 h3 h4 h5 h6 h7 h8 h9 h10 h11
 refine CV.seq ?_
 refine cs8 X 0 1 4 10 11 12 13 47 [] (g160_k2 ro (lpf7 1600025 (g160_b1 ro) f1)) ?_ ?_
 ·
  refine CV.regionM [(0, .anywhere), (1, .anywhere), (2, .anywhere), (3, .anywhere), (4, .anywhere), (5, .anywhere), (6, .anywhere), (7, .anywhere), (8, .held), (9, .anywhere), (10, .anywhere), (11, .anywhere), (12, .held), (13, .alone), (14, .alone), (15, .alone)] rfl (fun c a a' w hd hq => PanicOk.root (P := Tryz.prog) (fn := Tryz.f160) (w0 := w0) (base := base) (E := envE) (ro := ro) (r := r) (T' := T') (n' := n') (ρ0 := ρ0) c a a' w hd hq) (by kernel_rfl) ?_
  refine MV.step0 (i := 0) rfl (VAL.move rfl) rfl rfl rfl ?_
  refine MV.step0 (i := 1) rfl (VAL.move rfl) rfl rfl rfl ?_
  refine MV.lift0 (i := 2) rfl (V.le h12 rfl rfl) rfl rfl rfl fun x34_60 h87 => ?_
  refine MV.step0 (i := 3) rfl (VAL.move rfl) rfl rfl rfl ?_
  rcases condK_inv h87 with ⟨e, h88⟩ | ⟨e, h88⟩
  ·
   clear h12 h87
   subst e
   refine MV.step0 (i := 4) rfl (VAL.move rfl) rfl rfl rfl ?_
   refine MV.step0 (i := 5) rfl (VAL.move rfl) rfl rfl rfl ?_
   refine MV.step0 (i := 6) rfl (VAL.move rfl) rfl rfl rfl ?_
   refine MV.lift0 (i := 7) rfl (V.ia h88 rfl rfl Rnf.el50) rfl rfl rfl fun x39_61 h89 => ?_
   refine MV.lift1 (i := 8) rfl (fun _ z => z) (V.ldA hS h89 rfl Rnf.agg58) rfl rfl rfl [] (by kernel_rfl) fun x40_62 h90 => ?_
   refine MV.step0 (i := 9) rfl (VAL.move rfl) rfl rfl rfl ?_
   refine MV.step0 (i := 10) rfl (VAL.move rfl) rfl rfl rfl ?_
   refine MV.lift0 (i := 11) rfl (V.ia h90 rfl rfl Rnf.el50) rfl rfl rfl fun x43_63 h91 => ?_
   refine MV.lift1 (i := 12) rfl (fun _ z => z) (V.ldA hS h91 rfl Rnf.agg58) rfl rfl rfl [8] (by kernel_rfl) fun x44_64 h92 => ?_
   refine MV.force (i := 13) rfl ?_
   refine LV.callD (G := fun f gs => scc3 4000 f ro gs T3 n3) (qs := [x40_62, x44_64]) hS h92 (fun f gs => scc3_ok _ _ _ _ _ _) hP rfl rfl rfl rfl rfl rfl rfl fun x45_65 T21 n21 h93 ρ its hS => ?_
   refine LV.nextM [] (by kernel_rfl) (fun z => absurd rfl z) ?_
   refine MV.force (i := 14) rfl ?_
   refine vy (V.lt h93 rfl rfl) fun x46_66 h94 => ?_
   refine LV.nextM [] (by kernel_rfl) (fun z => absurd rfl z) ?_
   refine MV.force (i := 15) rfl ?_
   refine pu ?_
   refine LV.nextM [] (by kernel_rfl) (fun z => absurd rfl z) ?_
   refine MV.done ?_
   exact pa8 hS h94 ⟨rfl, rfl, rfl, rfl, rfl, rfl, rfl, rfl, trivial⟩
  ·
   clear h12 h87
   subst e
   refine MV.skip0 (i := 4) rfl rfl rfl rfl ?_
   refine MV.skip0 (i := 5) rfl rfl rfl rfl ?_
   refine MV.skip0 (i := 6) rfl rfl rfl rfl ?_
   refine MV.skip0 (i := 7) rfl rfl rfl rfl ?_
   refine MV.skip1 (i := 8) rfl (fun _ z => z) rfl rfl rfl [] (by kernel_rfl) ?_
   refine MV.skip0 (i := 9) rfl rfl rfl rfl ?_
   refine MV.skip0 (i := 10) rfl rfl rfl rfl ?_
   refine MV.skip0 (i := 11) rfl rfl rfl rfl ?_
   refine MV.skip1 (i := 12) rfl (fun _ z => z) rfl rfl rfl [8] (by kernel_rfl) ?_
   refine MV.force (i := 13) rfl ?_
   refine sk ?_
   refine LV.nextM [] (by kernel_rfl) (fun z => absurd rfl z) ?_
   refine MV.force (i := 14) rfl ?_
   refine sk ?_
   refine LV.nextM [] (by kernel_rfl) (fun z => absurd rfl z) ?_
   refine MV.force (i := 15) rfl ?_
   refine pu ?_
   refine LV.nextM [] (by kernel_rfl) (fun z => absurd rfl z) ?_
   refine MV.done ?_
   exact pa8 hS h88 ⟨rfl, rfl, rfl, rfl, rfl, rfl, rfl, rfl, trivial⟩
 ·
  intro y0 y1 y4 y10 y11 y12 y13 y47 T4 n4 ρ its hS h13
  unfold g160_k2 at h13
  clear h12
  refine CV.cond h13 rfl (fun e h14 => ?_) (fun e h14 => ?_)
  ·
   clear h13
   subst e
   refine CV.skip ?_
   refine PV.thenN ?_
   refine CV.block ?_
   refine CV.region ?_
   refine mv ?_
   refine vy (V.add h14 rfl rfl) fun x49_9 h15 => ?_
   refine as_ ?_
   refine LV.done ?_
   refine PV.blockN ?_
   exact pb7 hS h15 ⟨rfl, rfl, rfl, rfl, rfl, rfl, rfl, trivial⟩
  ·
   clear h13
   subst e
   refine CV.exit ?_
   refine PV.thenE ?_
   refine PV.thenE ?_
   refine PV.blockE ?_
   refine PV.thenN ?_
   refine CV.seq ?_
   refine CV.block ?_
   refine cl7 X 0 1 4 10 11 12 13 [] hS h14 ⟨rfl, rfl, rfl, rfl, rfl, rfl, rfl, trivial⟩ ?_
   intro f3 y0 y1 y4 y10 y11 y12 y13 T5 n5 ρ its hS h16
   unfold g160_b3 at h16
   clear h14
   refine CV.seq ?_
   refine cs8 X 0 1 4 10 11 12 13 66 [] (g160_k4 ro (lpf7 1600030 (g160_b3 ro) f3)) ?_ ?_
   ·
    refine CV.regionM [(0, .anywhere), (1, .anywhere), (2, .anywhere), (3, .anywhere), (4, .anywhere), (5, .anywhere), (6, .anywhere), (7, .anywhere), (8, .held), (9, .anywhere), (10, .anywhere), (11, .anywhere), (12, .held), (13, .alone), (14, .alone), (15, .alone), (16, .alone)] rfl (fun c a a' w hd hq => PanicOk.root (P := Tryz.prog) (fn := Tryz.f160) (w0 := w0) (base := base) (E := envE) (ro := ro) (r := r) (T' := T') (n' := n') (ρ0 := ρ0) c a a' w hd hq) (by kernel_rfl) ?_
    refine MV.step0 (i := 0) rfl (VAL.move rfl) rfl rfl rfl ?_
    refine MV.step0 (i := 1) rfl (VAL.move rfl) rfl rfl rfl ?_
    refine MV.lift0 (i := 2) rfl (V.le h16 rfl rfl) rfl rfl rfl fun x52_52 h78 => ?_
    refine MV.step0 (i := 3) rfl (VAL.move rfl) rfl rfl rfl ?_
    rcases condK_inv h78 with ⟨e, h79⟩ | ⟨e, h79⟩
    ·
     clear h16 h78
     subst e
     refine MV.step0 (i := 4) rfl (VAL.move rfl) rfl rfl rfl ?_
     refine MV.step0 (i := 5) rfl (VAL.move rfl) rfl rfl rfl ?_
     refine MV.step0 (i := 6) rfl (VAL.move rfl) rfl rfl rfl ?_
     refine MV.lift0 (i := 7) rfl (V.ia h79 rfl rfl Rnf.el50) rfl rfl rfl fun x57_53 h80 => ?_
     refine MV.lift1 (i := 8) rfl (fun _ z => z) (V.ldA hS h80 rfl Rnf.agg58) rfl rfl rfl [] (by kernel_rfl) fun x58_54 h81 => ?_
     refine MV.step0 (i := 9) rfl (VAL.move rfl) rfl rfl rfl ?_
     refine MV.step0 (i := 10) rfl (VAL.move rfl) rfl rfl rfl ?_
     refine MV.lift0 (i := 11) rfl (V.ia h81 rfl rfl Rnf.el50) rfl rfl rfl fun x61_55 h82 => ?_
     refine MV.lift1 (i := 12) rfl (fun _ z => z) (V.ldA hS h82 rfl Rnf.agg58) rfl rfl rfl [8] (by kernel_rfl) fun x62_56 h83 => ?_
     refine MV.force (i := 13) rfl ?_
     refine LV.callD (G := fun f gs => scc3 4000 f ro gs T5 n5) (qs := [x58_54, x62_56]) hS h83 (fun f gs => scc3_ok _ _ _ _ _ _) hP rfl rfl rfl rfl rfl rfl rfl fun x63_57 T20 n20 h84 ρ its hS => ?_
     refine LV.nextM [] (by kernel_rfl) (fun z => absurd rfl z) ?_
     refine MV.force (i := 14) rfl ?_
     refine vy (V.lt h84 rfl rfl) fun x64_58 h85 => ?_
     refine LV.nextM [] (by kernel_rfl) (fun z => absurd rfl z) ?_
     refine MV.force (i := 15) rfl ?_
     refine vy (V.not h85 rfl) fun x65_59 h86 => ?_
     refine LV.nextM [] (by kernel_rfl) (fun z => absurd rfl z) ?_
     refine MV.force (i := 16) rfl ?_
     refine pu ?_
     refine LV.nextM [] (by kernel_rfl) (fun z => absurd rfl z) ?_
     refine MV.done ?_
     exact pa8 hS h86 ⟨rfl, rfl, rfl, rfl, rfl, rfl, rfl, rfl, trivial⟩
    ·
     clear h16 h78
     subst e
     refine MV.skip0 (i := 4) rfl rfl rfl rfl ?_
     refine MV.skip0 (i := 5) rfl rfl rfl rfl ?_
     refine MV.skip0 (i := 6) rfl rfl rfl rfl ?_
     refine MV.skip0 (i := 7) rfl rfl rfl rfl ?_
     refine MV.skip1 (i := 8) rfl (fun _ z => z) rfl rfl rfl [] (by kernel_rfl) ?_
     refine MV.skip0 (i := 9) rfl rfl rfl rfl ?_
     refine MV.skip0 (i := 10) rfl rfl rfl rfl ?_
     refine MV.skip0 (i := 11) rfl rfl rfl rfl ?_
     refine MV.skip1 (i := 12) rfl (fun _ z => z) rfl rfl rfl [8] (by kernel_rfl) ?_
     refine MV.force (i := 13) rfl ?_
     refine sk ?_
     refine LV.nextM [] (by kernel_rfl) (fun z => absurd rfl z) ?_
     refine MV.force (i := 14) rfl ?_
     refine sk ?_
     refine LV.nextM [] (by kernel_rfl) (fun z => absurd rfl z) ?_
     refine MV.force (i := 15) rfl ?_
     refine sk ?_
     refine LV.nextM [] (by kernel_rfl) (fun z => absurd rfl z) ?_
     refine MV.force (i := 16) rfl ?_
     refine pu ?_
     refine LV.nextM [] (by kernel_rfl) (fun z => absurd rfl z) ?_
     refine MV.done ?_
     exact pa8 hS h79 ⟨rfl, rfl, rfl, rfl, rfl, rfl, rfl, rfl, trivial⟩
   ·
    intro y0 y1 y4 y10 y11 y12 y13 y66 T6 n6 ρ its hS h17
    unfold g160_k4 at h17
    clear h16
    refine CV.cond h17 rfl (fun e h18 => ?_) (fun e h18 => ?_)
    ·
     clear h17
     subst e
     refine CV.skip ?_
     refine PV.thenN ?_
     refine CV.block ?_
     refine CV.region ?_
     refine mv ?_
     refine vy (V.sub h18 rfl rfl) fun x68_10 h19 => ?_
     refine as_ ?_
     refine LV.done ?_
     refine PV.blockN ?_
     exact pb7 hS h19 ⟨rfl, rfl, rfl, rfl, rfl, rfl, rfl, trivial⟩
    ·
     clear h17
     subst e
     refine CV.exit ?_
     refine PV.thenE ?_
     refine PV.thenE ?_
     refine PV.blockE ?_
     refine PV.thenN ?_
     refine CV.seq ?_
     refine sr ?_
     refine mv ?_
     refine mv ?_
     refine vy (V.gt h18 rfl rfl) fun x71_11 h20 => ?_
     refine dn ?_
     refine CV.cond h20 rfl (fun e h21 => ?_) (fun e h21 => ?_)
     ·
      clear h18 h20
      subst e
      cases h21
     ·
      clear h18 h20
      subst e
      refine CV.skip ?_
      refine PV.thenN ?_
      refine CV.seq ?_
      refine CV.regionM [(0, .anywhere), (1, .anywhere), (2, .anywhere), (3, .anywhere), (4, .anywhere), (5, .anywhere), (6, .anywhere), (7, .held), (8, .anywhere), (9, .anywhere), (10, .anywhere), (11, .held), (12, .held), (13, .alone), (14, .alone), (15, .alone)] rfl (fun c a a' w hd hq => PanicOk.root (P := Tryz.prog) (fn := Tryz.f160) (w0 := w0) (base := base) (E := envE) (ro := ro) (r := r) (T' := T') (n' := n') (ρ0 := ρ0) c a a' w hd hq) (by kernel_rfl) ?_
      refine MV.step0 (i := 0) rfl (VAL.move rfl) rfl rfl rfl ?_
      refine MV.step0 (i := 1) rfl (VAL.move rfl) rfl rfl rfl ?_
      refine MV.step0 (i := 2) rfl (VAL.move rfl) rfl rfl rfl ?_
      refine MV.step0 (i := 3) rfl (VAL.move rfl) rfl rfl rfl ?_
      refine MV.step0 (i := 4) rfl (VAL.move rfl) rfl rfl rfl ?_
      refine MV.step0 (i := 5) rfl (VAL.move rfl) rfl rfl rfl ?_
      refine MV.lift0 (i := 6) rfl (V.ia h21 rfl rfl Rnf.el50) rfl rfl rfl fun x93_12 h22 => ?_
      refine MV.lift1 (i := 7) rfl (fun _ z => z) (V.ldA hS h22 rfl Rnf.agg58) rfl rfl rfl [] (by kernel_rfl) fun x94_13 h23 => ?_
      refine MV.step0 (i := 8) rfl (VAL.move rfl) rfl rfl rfl ?_
      refine MV.step0 (i := 9) rfl (VAL.move rfl) rfl rfl rfl ?_
      refine MV.lift0 (i := 10) rfl (V.ia h23 rfl rfl Rnf.el50) rfl rfl rfl fun x97_14 h24 => ?_
      refine MV.lift1 (i := 11) rfl (fun _ z => z) (V.ldA hS h24 rfl Rnf.agg58) rfl rfl rfl [7] (by kernel_rfl) fun x98_15 h25 => ?_
      refine MV.lift1 (i := 12) rfl (fun _ z => z) (V.ia h25 rfl rfl Rnf.el50) rfl rfl rfl [] (by kernel_rfl) fun x99_16 h26 => ?_
      refine MV.force (i := 13) rfl ?_
      refine LV.stA hS h26 rfl rfl rfl Rnf.agg58 rfl rfl rfl fun T7 its h27 hS => ?_
      refine LV.nextM [] (by kernel_rfl) (fun z => absurd rfl z) ?_
      refine MV.force (i := 14) rfl ?_
      refine vy (V.ia h27 rfl rfl Rnf.el50) fun x100_17 h28 => ?_
      refine LV.nextM [] (by kernel_rfl) (fun z => absurd rfl z) ?_
      refine MV.force (i := 15) rfl ?_
      refine LV.stA hS h28 rfl rfl rfl Rnf.agg58 rfl rfl rfl fun T8 its h29 hS => ?_
      refine LV.nextM [] (by kernel_rfl) (fun z => absurd rfl z) ?_
      refine mdn ?_
      refine sr ?_
      refine mv ?_
      refine vy (V.add h29 rfl rfl) fun x102_18 h30 => ?_
      refine as_ ?_
      refine dn ?_
      refine sr ?_
      refine mv ?_
      refine vy (V.sub h30 rfl rfl) fun x104_19 h31 => ?_
      refine as_ ?_
      refine dn ?_
      refine CV.seq ?_
      refine CV.block ?_
      refine cl7 X 0 1 4 10 11 12 13 [] hS h31 ⟨rfl, rfl, rfl, rfl, rfl, rfl, rfl, trivial⟩ ?_
      intro f5 y0 y1 y4 y10 y11 y12 y13 T9 n9 ρ its hS h32
      unfold g160_b5 at h32
      clear h21 h22 h23 h24 h25 h26 h27 h28 h29 h30 h31
      refine CV.block ?_
      refine CV.seq ?_
      refine CV.block ?_
      refine cl7 X 0 1 4 10 11 12 13 [] hS h32 ⟨rfl, rfl, rfl, rfl, rfl, rfl, rfl, trivial⟩ ?_
      intro f6 y0 y1 y4 y10 y11 y12 y13 T10 n10 ρ its hS h33
      unfold g160_b6 at h33
      clear h32
      refine CV.seq ?_
      refine cs8 X 0 1 4 10 11 12 13 120 [] (g160_k7 ro (lpf7 1600062 (g160_b5 ro) f5) (lpf7 1600063 (g160_b6 ro (lpf7 1600062 (g160_b5 ro) f5)) f6)) ?_ ?_
      ·
       refine CV.regionM [(0, .anywhere), (1, .anywhere), (2, .anywhere), (3, .anywhere), (4, .anywhere), (5, .anywhere), (6, .anywhere), (7, .anywhere), (8, .held), (9, .anywhere), (10, .anywhere), (11, .anywhere), (12, .held), (13, .alone), (14, .alone), (15, .alone)] rfl (fun c a a' w hd hq => PanicOk.root (P := Tryz.prog) (fn := Tryz.f160) (w0 := w0) (base := base) (E := envE) (ro := ro) (r := r) (T' := T') (n' := n') (ρ0 := ρ0) c a a' w hd hq) (by kernel_rfl) ?_
       refine MV.step0 (i := 0) rfl (VAL.move rfl) rfl rfl rfl ?_
       refine MV.step0 (i := 1) rfl (VAL.move rfl) rfl rfl rfl ?_
       refine MV.lift0 (i := 2) rfl (V.le h33 rfl rfl) rfl rfl rfl fun x107_45 h70 => ?_
       refine MV.step0 (i := 3) rfl (VAL.move rfl) rfl rfl rfl ?_
       rcases condK_inv h70 with ⟨e, h71⟩ | ⟨e, h71⟩
       ·
        clear h33 h70
        subst e
        refine MV.step0 (i := 4) rfl (VAL.move rfl) rfl rfl rfl ?_
        refine MV.step0 (i := 5) rfl (VAL.move rfl) rfl rfl rfl ?_
        refine MV.step0 (i := 6) rfl (VAL.move rfl) rfl rfl rfl ?_
        refine MV.lift0 (i := 7) rfl (V.ia h71 rfl rfl Rnf.el50) rfl rfl rfl fun x112_46 h72 => ?_
        refine MV.lift1 (i := 8) rfl (fun _ z => z) (V.ldA hS h72 rfl Rnf.agg58) rfl rfl rfl [] (by kernel_rfl) fun x113_47 h73 => ?_
        refine MV.step0 (i := 9) rfl (VAL.move rfl) rfl rfl rfl ?_
        refine MV.step0 (i := 10) rfl (VAL.move rfl) rfl rfl rfl ?_
        refine MV.lift0 (i := 11) rfl (V.ia h73 rfl rfl Rnf.el50) rfl rfl rfl fun x116_48 h74 => ?_
        refine MV.lift1 (i := 12) rfl (fun _ z => z) (V.ldA hS h74 rfl Rnf.agg58) rfl rfl rfl [8] (by kernel_rfl) fun x117_49 h75 => ?_
        refine MV.force (i := 13) rfl ?_
        refine LV.callD (G := fun f gs => scc3 4000 f ro gs T10 n10) (qs := [x113_47, x117_49]) hS h75 (fun f gs => scc3_ok _ _ _ _ _ _) hP rfl rfl rfl rfl rfl rfl rfl fun x118_50 T19 n19 h76 ρ its hS => ?_
        refine LV.nextM [] (by kernel_rfl) (fun z => absurd rfl z) ?_
        refine MV.force (i := 14) rfl ?_
        refine vy (V.lt h76 rfl rfl) fun x119_51 h77 => ?_
        refine LV.nextM [] (by kernel_rfl) (fun z => absurd rfl z) ?_
        refine MV.force (i := 15) rfl ?_
        refine pu ?_
        refine LV.nextM [] (by kernel_rfl) (fun z => absurd rfl z) ?_
        refine MV.done ?_
        exact pa8 hS h77 ⟨rfl, rfl, rfl, rfl, rfl, rfl, rfl, rfl, trivial⟩
       ·
        clear h33 h70
        subst e
        refine MV.skip0 (i := 4) rfl rfl rfl rfl ?_
        refine MV.skip0 (i := 5) rfl rfl rfl rfl ?_
        refine MV.skip0 (i := 6) rfl rfl rfl rfl ?_
        refine MV.skip0 (i := 7) rfl rfl rfl rfl ?_
        refine MV.skip1 (i := 8) rfl (fun _ z => z) rfl rfl rfl [] (by kernel_rfl) ?_
        refine MV.skip0 (i := 9) rfl rfl rfl rfl ?_
        refine MV.skip0 (i := 10) rfl rfl rfl rfl ?_
        refine MV.skip0 (i := 11) rfl rfl rfl rfl ?_
        refine MV.skip1 (i := 12) rfl (fun _ z => z) rfl rfl rfl [8] (by kernel_rfl) ?_
        refine MV.force (i := 13) rfl ?_
        refine sk ?_
        refine LV.nextM [] (by kernel_rfl) (fun z => absurd rfl z) ?_
        refine MV.force (i := 14) rfl ?_
        refine sk ?_
        refine LV.nextM [] (by kernel_rfl) (fun z => absurd rfl z) ?_
        refine MV.force (i := 15) rfl ?_
        refine pu ?_
        refine LV.nextM [] (by kernel_rfl) (fun z => absurd rfl z) ?_
        refine MV.done ?_
        exact pa8 hS h71 ⟨rfl, rfl, rfl, rfl, rfl, rfl, rfl, rfl, trivial⟩
      ·
       intro y0 y1 y4 y10 y11 y12 y13 y120 T11 n11 ρ its hS h34
       unfold g160_k7 at h34
       clear h33
       refine CV.cond h34 rfl (fun e h35 => ?_) (fun e h35 => ?_)
       ·
        clear h34
        subst e
        refine CV.skip ?_
        refine PV.thenN ?_
        refine CV.block ?_
        refine CV.region ?_
        refine mv ?_
        refine vy (V.add h35 rfl rfl) fun x122_20 h36 => ?_
        refine as_ ?_
        refine LV.done ?_
        refine PV.blockN ?_
        exact pb7 hS h36 ⟨rfl, rfl, rfl, rfl, rfl, rfl, rfl, trivial⟩
       ·
        clear h34
        subst e
        refine CV.exit ?_
        refine PV.thenE ?_
        refine PV.thenE ?_
        refine PV.blockE ?_
        refine PV.thenN ?_
        refine CV.seq ?_
        refine CV.block ?_
        refine cl7 X 0 1 4 10 11 12 13 [] hS h35 ⟨rfl, rfl, rfl, rfl, rfl, rfl, rfl, trivial⟩ ?_
        intro f8 y0 y1 y4 y10 y11 y12 y13 T12 n12 ρ its hS h37
        unfold g160_b8 at h37
        clear h35
        refine CV.seq ?_
        refine cs8 X 0 1 4 10 11 12 13 139 [] (g160_k9 ro (lpf7 1600062 (g160_b5 ro) f5) (lpf7 1600068 (g160_b8 ro (lpf7 1600062 (g160_b5 ro) f5)) f8)) ?_ ?_
        ·
         refine CV.regionM [(0, .anywhere), (1, .anywhere), (2, .anywhere), (3, .anywhere), (4, .anywhere), (5, .anywhere), (6, .anywhere), (7, .anywhere), (8, .held), (9, .anywhere), (10, .anywhere), (11, .anywhere), (12, .held), (13, .alone), (14, .alone), (15, .alone), (16, .alone)] rfl (fun c a a' w hd hq => PanicOk.root (P := Tryz.prog) (fn := Tryz.f160) (w0 := w0) (base := base) (E := envE) (ro := ro) (r := r) (T' := T') (n' := n') (ρ0 := ρ0) c a a' w hd hq) (by kernel_rfl) ?_
         refine MV.step0 (i := 0) rfl (VAL.move rfl) rfl rfl rfl ?_
         refine MV.step0 (i := 1) rfl (VAL.move rfl) rfl rfl rfl ?_
         refine MV.lift0 (i := 2) rfl (V.le h37 rfl rfl) rfl rfl rfl fun x125_37 h61 => ?_
         refine MV.step0 (i := 3) rfl (VAL.move rfl) rfl rfl rfl ?_
         rcases condK_inv h61 with ⟨e, h62⟩ | ⟨e, h62⟩
         ·
          clear h37 h61
          subst e
          refine MV.step0 (i := 4) rfl (VAL.move rfl) rfl rfl rfl ?_
          refine MV.step0 (i := 5) rfl (VAL.move rfl) rfl rfl rfl ?_
          refine MV.step0 (i := 6) rfl (VAL.move rfl) rfl rfl rfl ?_
          refine MV.lift0 (i := 7) rfl (V.ia h62 rfl rfl Rnf.el50) rfl rfl rfl fun x130_38 h63 => ?_
          refine MV.lift1 (i := 8) rfl (fun _ z => z) (V.ldA hS h63 rfl Rnf.agg58) rfl rfl rfl [] (by kernel_rfl) fun x131_39 h64 => ?_
          refine MV.step0 (i := 9) rfl (VAL.move rfl) rfl rfl rfl ?_
          refine MV.step0 (i := 10) rfl (VAL.move rfl) rfl rfl rfl ?_
          refine MV.lift0 (i := 11) rfl (V.ia h64 rfl rfl Rnf.el50) rfl rfl rfl fun x134_40 h65 => ?_
          refine MV.lift1 (i := 12) rfl (fun _ z => z) (V.ldA hS h65 rfl Rnf.agg58) rfl rfl rfl [8] (by kernel_rfl) fun x135_41 h66 => ?_
          refine MV.force (i := 13) rfl ?_
          refine LV.callD (G := fun f gs => scc3 4000 f ro gs T12 n12) (qs := [x131_39, x135_41]) hS h66 (fun f gs => scc3_ok _ _ _ _ _ _) hP rfl rfl rfl rfl rfl rfl rfl fun x136_42 T18 n18 h67 ρ its hS => ?_
          refine LV.nextM [] (by kernel_rfl) (fun z => absurd rfl z) ?_
          refine MV.force (i := 14) rfl ?_
          refine vy (V.lt h67 rfl rfl) fun x137_43 h68 => ?_
          refine LV.nextM [] (by kernel_rfl) (fun z => absurd rfl z) ?_
          refine MV.force (i := 15) rfl ?_
          refine vy (V.not h68 rfl) fun x138_44 h69 => ?_
          refine LV.nextM [] (by kernel_rfl) (fun z => absurd rfl z) ?_
          refine MV.force (i := 16) rfl ?_
          refine pu ?_
          refine LV.nextM [] (by kernel_rfl) (fun z => absurd rfl z) ?_
          refine MV.done ?_
          exact pa8 hS h69 ⟨rfl, rfl, rfl, rfl, rfl, rfl, rfl, rfl, trivial⟩
         ·
          clear h37 h61
          subst e
          refine MV.skip0 (i := 4) rfl rfl rfl rfl ?_
          refine MV.skip0 (i := 5) rfl rfl rfl rfl ?_
          refine MV.skip0 (i := 6) rfl rfl rfl rfl ?_
          refine MV.skip0 (i := 7) rfl rfl rfl rfl ?_
          refine MV.skip1 (i := 8) rfl (fun _ z => z) rfl rfl rfl [] (by kernel_rfl) ?_
          refine MV.skip0 (i := 9) rfl rfl rfl rfl ?_
          refine MV.skip0 (i := 10) rfl rfl rfl rfl ?_
          refine MV.skip0 (i := 11) rfl rfl rfl rfl ?_
          refine MV.skip1 (i := 12) rfl (fun _ z => z) rfl rfl rfl [8] (by kernel_rfl) ?_
          refine MV.force (i := 13) rfl ?_
          refine sk ?_
          refine LV.nextM [] (by kernel_rfl) (fun z => absurd rfl z) ?_
          refine MV.force (i := 14) rfl ?_
          refine sk ?_
          refine LV.nextM [] (by kernel_rfl) (fun z => absurd rfl z) ?_
          refine MV.force (i := 15) rfl ?_
          refine sk ?_
          refine LV.nextM [] (by kernel_rfl) (fun z => absurd rfl z) ?_
          refine MV.force (i := 16) rfl ?_
          refine pu ?_
          refine LV.nextM [] (by kernel_rfl) (fun z => absurd rfl z) ?_
          refine MV.done ?_
          exact pa8 hS h62 ⟨rfl, rfl, rfl, rfl, rfl, rfl, rfl, rfl, trivial⟩
        ·
         intro y0 y1 y4 y10 y11 y12 y13 y139 T13 n13 ρ its hS h38
         unfold g160_k9 at h38
         clear h37
         refine CV.cond h38 rfl (fun e h39 => ?_) (fun e h39 => ?_)
         ·
          clear h38
          subst e
          refine CV.skip ?_
          refine PV.thenN ?_
          refine CV.block ?_
          refine CV.region ?_
          refine mv ?_
          refine vy (V.sub h39 rfl rfl) fun x141_21 h40 => ?_
          refine as_ ?_
          refine LV.done ?_
          refine PV.blockN ?_
          exact pb7 hS h40 ⟨rfl, rfl, rfl, rfl, rfl, rfl, rfl, trivial⟩
         ·
          clear h38
          subst e
          refine CV.exit ?_
          refine PV.thenE ?_
          refine PV.thenE ?_
          refine PV.blockE ?_
          refine PV.thenN ?_
          refine CV.seq ?_
          refine sr ?_
          refine mv ?_
          refine mv ?_
          refine vy (V.gt h39 rfl rfl) fun x144_22 h41 => ?_
          refine dn ?_
          refine CV.cond h41 rfl (fun e h42 => ?_) (fun e h42 => ?_)
          ·
           clear h39 h41
           subst e
           refine CV.exit ?_
           refine PV.thenE ?_
           refine PV.blockO rfl ?_
           refine PV.thenE ?_
           refine PV.blockE ?_
           refine PV.thenN ?_
           refine CV.seq ?_
           refine CV.regionM [(0, .anywhere), (1, .anywhere), (2, .anywhere), (3, .anywhere), (4, .anywhere), (5, .anywhere), (6, .anywhere), (7, .held), (8, .anywhere), (9, .anywhere), (10, .anywhere), (11, .held), (12, .held), (13, .alone), (14, .alone), (15, .alone)] rfl (fun c a a' w hd hq => PanicOk.root (P := Tryz.prog) (fn := Tryz.f160) (w0 := w0) (base := base) (E := envE) (ro := ro) (r := r) (T' := T') (n' := n') (ρ0 := ρ0) c a a' w hd hq) (by kernel_rfl) ?_
           refine MV.step0 (i := 0) rfl (VAL.move rfl) rfl rfl rfl ?_
           refine MV.step0 (i := 1) rfl (VAL.move rfl) rfl rfl rfl ?_
           refine MV.step0 (i := 2) rfl (VAL.move rfl) rfl rfl rfl ?_
           refine MV.step0 (i := 3) rfl (VAL.move rfl) rfl rfl rfl ?_
           refine MV.step0 (i := 4) rfl (VAL.move rfl) rfl rfl rfl ?_
           refine MV.step0 (i := 5) rfl (VAL.move rfl) rfl rfl rfl ?_
           refine MV.lift0 (i := 6) rfl (V.ia h42 rfl rfl Rnf.el50) rfl rfl rfl fun x169_23 h43 => ?_
           refine MV.lift1 (i := 7) rfl (fun _ z => z) (V.ldA hS h43 rfl Rnf.agg58) rfl rfl rfl [] (by kernel_rfl) fun x170_24 h44 => ?_
           refine MV.step0 (i := 8) rfl (VAL.move rfl) rfl rfl rfl ?_
           refine MV.step0 (i := 9) rfl (VAL.move rfl) rfl rfl rfl ?_
           refine MV.lift0 (i := 10) rfl (V.ia h44 rfl rfl Rnf.el50) rfl rfl rfl fun x173_25 h45 => ?_
           refine MV.lift1 (i := 11) rfl (fun _ z => z) (V.ldA hS h45 rfl Rnf.agg58) rfl rfl rfl [7] (by kernel_rfl) fun x174_26 h46 => ?_
           refine MV.lift1 (i := 12) rfl (fun _ z => z) (V.ia h46 rfl rfl Rnf.el50) rfl rfl rfl [] (by kernel_rfl) fun x175_27 h47 => ?_
           refine MV.force (i := 13) rfl ?_
           refine LV.stA hS h47 rfl rfl rfl Rnf.agg58 rfl rfl rfl fun T14 its h48 hS => ?_
           refine LV.nextM [] (by kernel_rfl) (fun z => absurd rfl z) ?_
           refine MV.force (i := 14) rfl ?_
           refine vy (V.ia h48 rfl rfl Rnf.el50) fun x176_28 h49 => ?_
           refine LV.nextM [] (by kernel_rfl) (fun z => absurd rfl z) ?_
           refine MV.force (i := 15) rfl ?_
           refine LV.stA hS h49 rfl rfl rfl Rnf.agg58 rfl rfl rfl fun T15 its h50 hS => ?_
           refine LV.nextM [] (by kernel_rfl) (fun z => absurd rfl z) ?_
           refine mdn ?_
           refine sr ?_
           refine mv ?_
           refine as_ ?_
           refine as_ ?_
           refine dn ?_
           refine CV.ret ?_
           cases h50
           exact PV.ret (by simp) Tryz.results160 hS (RS.tmp rfl (RS.tmp rfl RS.nil)) rfl
          ·
           clear h39 h41
           subst e
           refine CV.skip ?_
           refine PV.thenN ?_
           refine CV.seq ?_
           refine CV.regionM [(0, .anywhere), (1, .anywhere), (2, .anywhere), (3, .anywhere), (4, .anywhere), (5, .anywhere), (6, .anywhere), (7, .held), (8, .anywhere), (9, .anywhere), (10, .anywhere), (11, .held), (12, .held), (13, .alone), (14, .alone), (15, .alone)] rfl (fun c a a' w hd hq => PanicOk.root (P := Tryz.prog) (fn := Tryz.f160) (w0 := w0) (base := base) (E := envE) (ro := ro) (r := r) (T' := T') (n' := n') (ρ0 := ρ0) c a a' w hd hq) (by kernel_rfl) ?_
           refine MV.step0 (i := 0) rfl (VAL.move rfl) rfl rfl rfl ?_
           refine MV.step0 (i := 1) rfl (VAL.move rfl) rfl rfl rfl ?_
           refine MV.step0 (i := 2) rfl (VAL.move rfl) rfl rfl rfl ?_
           refine MV.step0 (i := 3) rfl (VAL.move rfl) rfl rfl rfl ?_
           refine MV.step0 (i := 4) rfl (VAL.move rfl) rfl rfl rfl ?_
           refine MV.step0 (i := 5) rfl (VAL.move rfl) rfl rfl rfl ?_
           refine MV.lift0 (i := 6) rfl (V.ia h42 rfl rfl Rnf.el50) rfl rfl rfl fun x151_29 h51 => ?_
           refine MV.lift1 (i := 7) rfl (fun _ z => z) (V.ldA hS h51 rfl Rnf.agg58) rfl rfl rfl [] (by kernel_rfl) fun x152_30 h52 => ?_
           refine MV.step0 (i := 8) rfl (VAL.move rfl) rfl rfl rfl ?_
           refine MV.step0 (i := 9) rfl (VAL.move rfl) rfl rfl rfl ?_
           refine MV.lift0 (i := 10) rfl (V.ia h52 rfl rfl Rnf.el50) rfl rfl rfl fun x155_31 h53 => ?_
           refine MV.lift1 (i := 11) rfl (fun _ z => z) (V.ldA hS h53 rfl Rnf.agg58) rfl rfl rfl [7] (by kernel_rfl) fun x156_32 h54 => ?_
           refine MV.lift1 (i := 12) rfl (fun _ z => z) (V.ia h54 rfl rfl Rnf.el50) rfl rfl rfl [] (by kernel_rfl) fun x157_33 h55 => ?_
           refine MV.force (i := 13) rfl ?_
           refine LV.stA hS h55 rfl rfl rfl Rnf.agg58 rfl rfl rfl fun T16 its h56 hS => ?_
           refine LV.nextM [] (by kernel_rfl) (fun z => absurd rfl z) ?_
           refine MV.force (i := 14) rfl ?_
           refine vy (V.ia h56 rfl rfl Rnf.el50) fun x158_34 h57 => ?_
           refine LV.nextM [] (by kernel_rfl) (fun z => absurd rfl z) ?_
           refine MV.force (i := 15) rfl ?_
           refine LV.stA hS h57 rfl rfl rfl Rnf.agg58 rfl rfl rfl fun T17 its h58 hS => ?_
           refine LV.nextM [] (by kernel_rfl) (fun z => absurd rfl z) ?_
           refine mdn ?_
           refine sr ?_
           refine mv ?_
           refine vy (V.add h58 rfl rfl) fun x160_35 h59 => ?_
           refine as_ ?_
           refine dn ?_
           refine CV.region ?_
           refine mv ?_
           refine vy (V.sub h59 rfl rfl) fun x162_36 h60 => ?_
           refine as_ ?_
           refine LV.done ?_
           refine PV.blockN ?_
           exact pb7 hS h60 ⟨rfl, rfl, rfl, rfl, rfl, rfl, rfl, trivial⟩
noncomputable def g91_k3 (ro : List HT) (lp1 : AV → AV → AV → AV → AV → AV → AV → HT → Nat → R) (y0 y1 y2 y3 y4 y10 y11 y12 y13 y97 : AV) (T5 : HT) (n5 : Nat) : R :=
 condK 910038 y97
 (
  .bad 910039
 )
 (
  callK (g160 ro y0 y1 y2 y13 y4 T5 n5) fun x111_10 T6 n6 =>
  exK 910047 x111_10 0 fun x112_11 =>
  exK 910048 x111_10 1 fun x113_12 =>
  subK Tryz.prog 3 (.tmp 115) (.tmp 116) 910055 x112_11 y1 fun x117_13 =>
  subK Tryz.prog 3 (.tmp 118) (.tmp 119) 910058 y2 x112_11 fun x120_14 =>
  bin0 Tryz.prog .quo 3 (.tmp 121) (.const (.int .i64 (.ofNat 8))) 910062 y12 (.lit (.int .i64 (.ofNat 8))) fun x122_15 =>
  ltK Tryz.prog 3 (.tmp 123) (.tmp 124) 910066 x117_13 x120_14 fun x125_16 =>
  .bad 910067
 )
noncomputable def g91_k2 (ro : List HT) (lp1 : AV → AV → AV → AV → AV → AV → AV → HT → Nat → R) (y0 y1 y2 y3 y4 y10 y11 y12 y13 : AV) (T4 : HT) (n4 : Nat) : R :=
 gtK Tryz.prog 3 (.tmp 81) (.const (.int .i64 (.ofNat 0))) 910069 y1 (.lit (.int .i64 (.ofNat 0))) fun x82_17 =>
 condK 910071 x82_17
 (
  subK Tryz.prog 3 (.tmp 86) (.const (.int .i64 (.ofNat 1))) 910075 y1 (.lit (.int .i64 (.ofNat 1))) fun x87_18 =>
  iaK 910076 y0 x87_18 3 fun x88_19 =>
  ldAK 910077 T4 ro x88_19 3 fun x89_20 =>
  iaK 910080 y0 y13 3 fun x92_21 =>
  ldAK 910081 T4 ro x92_21 3 fun x93_22 =>
  dynK 910082 y4 fun f p q => callK (scc3 4000 f ro (p ++ ([x89_20, x93_22] ++ q)) T4 n4) fun x94_23 T7 n7 =>
  ltK Tryz.prog 3 (.tmp 94) (.const (.int .i64 (.ofNat 0))) 910083 x94_23 (.lit (.int .i64 (.ofNat 0))) fun x95_24 =>
  notK 910084 x95_24 fun x96_25 =>
  g91_k3 ro lp1 y0 y1 y2 y3 y4 y10 y11 y12 y13 x96_25 T7 n7
 )
 (
  g91_k3 ro lp1 y0 y1 y2 y3 y4 y10 y11 y12 y13 (.lit (.bool false)) T4 n4
 )
noncomputable def g91_k5 (ro : List HT) (lp1 : AV → AV → AV → AV → AV → AV → AV → HT → Nat → R) (y0 y1 y2 y3 y4 y10 y11 y12 y13 y75 : AV) (T9 : HT) (n9 : Nat) : R :=
 condK 910090 y75
 (
  callK (g158 ro y0 y1 y2 y4 T9 n9) fun x80_26 T10 n10 =>
  condK 910096 x80_26
  (
   .ok (.val (.tup [])) T10 n10
  )
  (
   g91_k2 ro lp1 y0 y1 y2 y3 y4 y10 y11 y12 y13 T10 n10
  )
 )
 (
  g91_k2 ro lp1 y0 y1 y2 y3 y4 y10 y11 y12 y13 T9 n9
 )
noncomputable def g91_k4 (ro : List HT) (lp1 : AV → AV → AV → AV → AV → AV → AV → HT → Nat → R) (y0 y1 y2 y3 y4 y10 y11 y12 y13 y14 y71 : AV) (T8 : HT) (n8 : Nat) : R :=
 condK 910097 y71
 (
  eqK Tryz.prog 202 (.tmp 73) (.const (.int .i64 (.ofNat 1))) 910099 y14 (.lit (.int .i64 (.ofNat 1))) fun x74_27 =>
  g91_k5 ro lp1 y0 y1 y2 y3 y4 y10 y11 y12 y13 x74_27 T8 n8
 )
 (
  g91_k5 ro lp1 y0 y1 y2 y3 y4 y10 y11 y12 y13 (.lit (.bool false)) T8 n8
 )
noncomputable def g91_b1 (ro : List HT) (lp1 : AV → AV → AV → AV → AV → AV → AV → HT → Nat → R) (y0 y1 y2 y3 y4 y10 y11 : AV) (T1 : HT) (n1 : Nat) : R :=
 subK Tryz.prog 3 (.tmp 21) (.tmp 22) 910006 y2 y1 fun x23_1 =>
 leK Tryz.prog 3 (.tmp 24) (.const (.int .i64 (.ofNat 12))) 910009 x23_1 (.lit (.int .i64 (.ofNat 12))) fun x25_2 =>
 condK 910010 x25_2
 (
  callK (g153 ro y0 y1 y2 y4 T1 n1) fun x30_3 T2 n2 =>
  .ok (.val (.tup [])) T2 n2
 )
 (
  eqK Tryz.prog 3 (.tmp 31) (.const (.int .i64 (.ofNat 0))) 910017 y3 (.lit (.int .i64 (.ofNat 0))) fun x32_4 =>
  condK 910018 x32_4
  (
   .bad 910019
  )
  (
   notK 910021 y10 fun x39_5 =>
   condK 910022 x39_5
   (
    .bad 910023
   )
   (
    callK (g156 ro y0 y1 y2 y4 T1 n1) fun x52_6 T3 n3 =>
    exK 910030 x52_6 0 fun x53_7 =>
    exK 910031 x52_6 1 fun x54_8 =>
    eqK Tryz.prog 202 (.tmp 55) (.const (.int .i64 (.ofNat 2))) 910035 x54_8 (.lit (.int .i64 (.ofNat 2))) fun x56_9 =>
    condK 910036 x56_9
    (
     .bad 910037
    )
    (
     condK 910102 y10
     (
      g91_k4 ro lp1 y0 y1 y2 y3 y4 (.lit (.bool true)) y11 x23_1 x53_7 x54_8 y11 T3 n3
     )
     (
      g91_k4 ro lp1 y0 y1 y2 y3 y4 (.lit (.bool false)) y11 x23_1 x53_7 x54_8 (.lit (.bool false)) T3 n3
     )
    )
   )
  )
 )
noncomputable def g91 (ro : List HT) (a0 a1 a2 a3 a4 : AV) (T : HT) (nx : Nat) : R :=
 lpf7 910003 (g91_b1 ro) 100000 a0 a1 a2 a3 a4 (.lit (.bool true)) (.lit (.bool true)) T nx
theorem g91_ok (ro : List HT) (a0 a1 a2 a3 a4 : AV) (T : HT) (nx : Nat) : GOk Tryz.prog envE 91 [a0, a1, a2, a3, a4] ro T nx (g91 ro a0 a1 a2 a3 a4 T nx) := by
 refine GOk.of_body Tryz.func91 rfl Tryz.ntmps91 (by kernel_rfl) rfl fun r T' n' h1 w0 base ρ0 its hS hP => ?_
 have X : CtxW envE ρ0 ro r T' n' := trivial
 unfold g91 at h1
 refine sr ?_
 refine as_ ?_
 refine dn ?_
 refine sr ?_
 refine as_ ?_
 refine dn ?_
 refine CV.block ?_
 refine cl7 X 0 1 2 3 4 10 11 [] hS h1 ⟨rfl, rfl, rfl, rfl, rfl, rfl, rfl, trivial⟩ ?_
 intro f1 y0 y1 y2 y3 y4 y10 y11 T1 n1 ρ its hS h2
 unfold g91_b1 at h2
 clear h1
 refine CV.block ?_
 refine sr ?_
 refine mv ?_
 refine mv ?_
 refine vy (V.sub h2 rfl rfl) fun x23_1 h3 => ?_
 refine as_ ?_
 refine dn ?_
 refine CV.seq ?_
 refine sr ?_
 refine mv ?_
 refine vy (V.le h3 rfl rfl) fun x25_2 h4 => ?_
 refine dn ?_
 refine CV.cond h4 rfl (fun e h5 => ?_) (fun e h5 => ?_)
 ·
  clear h2 h3 h4
  subst e
  refine sr ?_
  refine mv ?_
  refine mv ?_
  refine mv ?_
  refine mv ?_
  refine LV.call hS h5 (g153_ok _ _ _ _ _ _ _ ) hP rfl rfl rfl rfl fun x30_3 T2 n2 h6 ρ its hS => ?_
  refine dn ?_
  refine CV.ret ?_
  refine PV.thenR ?_
  refine PV.blockR ?_
  refine PV.thenR ?_
  refine PV.blockR ?_
  cases h6
  exact PV.ret (by simp) Tryz.results91 hS RS.nil rfl
 ·
  clear h2 h3 h4
  subst e
  refine CV.skip ?_
  refine PV.thenN ?_
  refine CV.seq ?_
  refine sr ?_
  refine mv ?_
  refine vy (V.eq h5 rfl rfl) fun x32_4 h7 => ?_
  refine dn ?_
  refine CV.cond h7 rfl (fun e h8 => ?_) (fun e h8 => ?_)
  ·
   clear h5 h7
   subst e
   cases h8
  ·
   clear h5 h7
   subst e
   refine CV.skip ?_
   refine PV.thenN ?_
   refine CV.seq ?_
   refine sr ?_
   refine mv ?_
   refine vy (V.not h8 rfl) fun x39_5 h9 => ?_
   refine dn ?_
   refine CV.cond h9 rfl (fun e h10 => ?_) (fun e h10 => ?_)
   ·
    clear h8 h9
    subst e
    cases h10
   ·
    clear h8 h9
    subst e
    refine CV.skip ?_
    refine PV.thenN ?_
    refine sr ?_
    refine mv ?_
    refine mv ?_
    refine mv ?_
    refine mv ?_
    refine LV.call hS h10 (g156_ok _ _ _ _ _ _ _ ) hP rfl rfl rfl rfl fun x52_6 T3 n3 h11 ρ its hS => ?_
    refine mv ?_
    refine vy (V.ex h11 rfl) fun x53_7 h12 => ?_
    refine vy (V.ex h12 rfl) fun x54_8 h13 => ?_
    refine as_ ?_
    refine as_ ?_
    refine dn ?_
    refine CV.seq ?_
    refine sr ?_
    refine mv ?_
    refine vy (V.eq h13 rfl rfl) fun x56_9 h14 => ?_
    refine dn ?_
    refine CV.cond h14 rfl (fun e h15 => ?_) (fun e h15 => ?_)
    ·
     clear h10 h11 h12 h13 h14
     subst e
     cases h15
    ·
     clear h10 h11 h12 h13 h14
     subst e
     refine CV.skip ?_
     refine PV.thenN ?_
     refine cs9 X 0 1 2 3 4 10 11 12 13 [] (g91_k2 ro (lpf7 910003 (g91_b1 ro) f1)) ?_ ?_
     ·
      refine sr ?_
      refine mv ?_
      refine mv ?_
      refine ls11 X 0 1 2 3 4 10 11 12 13 14 71 [] (g91_k4 ro (lpf7 910003 (g91_b1 ro) f1)) 2 ?_ ?_
      ·
       rcases condK_inv h15 with ⟨e, h43⟩ | ⟨e, h43⟩
       ·
        clear h15
        subst e
        refine mv ?_
        refine pu ?_
        exact la11 hS h43 ⟨rfl, rfl, rfl, rfl, rfl, rfl, rfl, rfl, rfl, rfl, rfl, trivial⟩
       ·
        clear h15
        subst e
        refine sk ?_
        refine pu ?_
        exact la11 hS h43 ⟨rfl, rfl, rfl, rfl, rfl, rfl, rfl, rfl, rfl, rfl, rfl, trivial⟩
      ·
       intro y0 y1 y2 y3 y4 y10 y11 y12 y13 y14 y71 T8 n8 ρ its hS h36
       unfold g91_k4 at h36
       clear h15
       refine mv ?_
       refine ls10 X 0 1 2 3 4 10 11 12 13 75 [] (g91_k5 ro (lpf7 910003 (g91_b1 ro) f1)) 3 ?_ ?_
       ·
        rcases condK_inv h36 with ⟨e, h41⟩ | ⟨e, h41⟩
        ·
         clear h36
         subst e
         refine mv ?_
         refine vy (V.eq h41 rfl rfl) fun x74_27 h42 => ?_
         refine pu ?_
         exact la10 hS h42 ⟨rfl, rfl, rfl, rfl, rfl, rfl, rfl, rfl, rfl, rfl, trivial⟩
        ·
         clear h36
         subst e
         refine sk ?_
         refine sk ?_
         refine pu ?_
         exact la10 hS h41 ⟨rfl, rfl, rfl, rfl, rfl, rfl, rfl, rfl, rfl, rfl, trivial⟩
       ·
        intro y0 y1 y2 y3 y4 y10 y11 y12 y13 y75 T9 n9 ρ its hS h37
        unfold g91_k5 at h37
        clear h36
        refine dn ?_
        refine CV.cond h37 rfl (fun e h38 => ?_) (fun e h38 => ?_)
        ·
         clear h37
         subst e
         refine sr ?_
         refine mv ?_
         refine mv ?_
         refine mv ?_
         refine mv ?_
         refine LV.call hS h38 (g158_ok _ _ _ _ _ _ _ ) hP rfl rfl rfl rfl fun x80_26 T10 n10 h39 ρ its hS => ?_
         refine dn ?_
         refine CV.cond h39 rfl (fun e h40 => ?_) (fun e h40 => ?_)
         ·
          clear h38 h39
          subst e
          refine CV.ret ?_
          refine PV.thenR ?_
          refine PV.blockR ?_
          refine PV.thenR ?_
          refine PV.blockR ?_
          cases h40
          exact PV.ret (by simp) Tryz.results91 hS RS.nil rfl
         ·
          clear h38 h39
          subst e
          refine CV.skip ?_
          exact pa9 hS h40 ⟨rfl, rfl, rfl, rfl, rfl, rfl, rfl, rfl, rfl, trivial⟩
        ·
         clear h37
         subst e
         refine CV.skip ?_
         exact pa9 hS h38 ⟨rfl, rfl, rfl, rfl, rfl, rfl, rfl, rfl, rfl, trivial⟩
     ·
      intro y0 y1 y2 y3 y4 y10 y11 y12 y13 T4 n4 ρ its hS h16
      unfold g91_k2 at h16
      clear h15
      refine CV.seq ?_
      refine cs10 X 0 1 2 3 4 10 11 12 13 97 [] (g91_k3 ro (lpf7 910003 (g91_b1 ro) f1)) ?_ ?_
      ·
       refine CV.regionM [(0, .anywhere), (1, .anywhere), (2, .anywhere), (3, .anywhere), (4, .anywhere), (5, .anywhere), (6, .anywhere), (7, .anywhere), (8, .held), (9, .anywhere), (10, .anywhere), (11, .anywhere), (12, .held), (13, .alone), (14, .alone), (15, .alone), (16, .alone)] rfl (fun c a a' w hd hq => PanicOk.root (P := Tryz.prog) (fn := Tryz.f91) (w0 := w0) (base := base) (E := envE) (ro := ro) (r := r) (T' := T') (n' := n') (ρ0 := ρ0) c a a' w hd hq) (by kernel_rfl) ?_
       refine MV.step0 (i := 0) rfl (VAL.move rfl) rfl rfl rfl ?_
       refine MV.lift0 (i := 1) rfl (V.gt h16 rfl rfl) rfl rfl rfl fun x82_17 h26 => ?_
       refine MV.step0 (i := 2) rfl (VAL.move rfl) rfl rfl rfl ?_
       rcases condK_inv h26 with ⟨e, h27⟩ | ⟨e, h27⟩
       ·
        clear h16 h26
        subst e
        refine MV.step0 (i := 3) rfl (VAL.move rfl) rfl rfl rfl ?_
        refine MV.step0 (i := 4) rfl (VAL.move rfl) rfl rfl rfl ?_
        refine MV.step0 (i := 5) rfl (VAL.move rfl) rfl rfl rfl ?_
        refine MV.lift0 (i := 6) rfl (V.sub h27 rfl rfl) rfl rfl rfl fun x87_18 h28 => ?_
        refine MV.lift0 (i := 7) rfl (V.ia h28 rfl rfl Rnf.el50) rfl rfl rfl fun x88_19 h29 => ?_
        refine MV.lift1 (i := 8) rfl (fun _ z => z) (V.ldA hS h29 rfl Rnf.agg58) rfl rfl rfl [] (by kernel_rfl) fun x89_20 h30 => ?_
        refine MV.step0 (i := 9) rfl (VAL.move rfl) rfl rfl rfl ?_
        refine MV.step0 (i := 10) rfl (VAL.move rfl) rfl rfl rfl ?_
        refine MV.lift0 (i := 11) rfl (V.ia h30 rfl rfl Rnf.el50) rfl rfl rfl fun x92_21 h31 => ?_
        refine MV.lift1 (i := 12) rfl (fun _ z => z) (V.ldA hS h31 rfl Rnf.agg58) rfl rfl rfl [8] (by kernel_rfl) fun x93_22 h32 => ?_
        refine MV.force (i := 13) rfl ?_
        refine LV.callD (G := fun f gs => scc3 4000 f ro gs T4 n4) (qs := [x89_20, x93_22]) hS h32 (fun f gs => scc3_ok _ _ _ _ _ _) hP rfl rfl rfl rfl rfl rfl rfl fun x94_23 T7 n7 h33 ρ its hS => ?_
        refine LV.nextM [] (by kernel_rfl) (fun z => absurd rfl z) ?_
        refine MV.force (i := 14) rfl ?_
        refine vy (V.lt h33 rfl rfl) fun x95_24 h34 => ?_
        refine LV.nextM [] (by kernel_rfl) (fun z => absurd rfl z) ?_
        refine MV.force (i := 15) rfl ?_
        refine vy (V.not h34 rfl) fun x96_25 h35 => ?_
        refine LV.nextM [] (by kernel_rfl) (fun z => absurd rfl z) ?_
        refine MV.force (i := 16) rfl ?_
        refine pu ?_
        refine LV.nextM [] (by kernel_rfl) (fun z => absurd rfl z) ?_
        refine MV.done ?_
        exact pa10 hS h35 ⟨rfl, rfl, rfl, rfl, rfl, rfl, rfl, rfl, rfl, rfl, trivial⟩
       ·
        clear h16 h26
        subst e
        refine MV.skip0 (i := 3) rfl rfl rfl rfl ?_
        refine MV.skip0 (i := 4) rfl rfl rfl rfl ?_
        refine MV.skip0 (i := 5) rfl rfl rfl rfl ?_
        refine MV.skip0 (i := 6) rfl rfl rfl rfl ?_
        refine MV.skip0 (i := 7) rfl rfl rfl rfl ?_
        refine MV.skip1 (i := 8) rfl (fun _ z => z) rfl rfl rfl [] (by kernel_rfl) ?_
        refine MV.skip0 (i := 9) rfl rfl rfl rfl ?_
        refine MV.skip0 (i := 10) rfl rfl rfl rfl ?_
        refine MV.skip0 (i := 11) rfl rfl rfl rfl ?_
        refine MV.skip1 (i := 12) rfl (fun _ z => z) rfl rfl rfl [8] (by kernel_rfl) ?_
        refine MV.force (i := 13) rfl ?_
        refine sk ?_
        refine LV.nextM [] (by kernel_rfl) (fun z => absurd rfl z) ?_
        refine MV.force (i := 14) rfl ?_
        refine sk ?_
        refine LV.nextM [] (by kernel_rfl) (fun z => absurd rfl z) ?_
        refine MV.force (i := 15) rfl ?_
        refine sk ?_
        refine LV.nextM [] (by kernel_rfl) (fun z => absurd rfl z) ?_
        refine MV.force (i := 16) rfl ?_
        refine pu ?_
        refine LV.nextM [] (by kernel_rfl) (fun z => absurd rfl z) ?_
        refine MV.done ?_
        exact pa10 hS h27 ⟨rfl, rfl, rfl, rfl, rfl, rfl, rfl, rfl, rfl, rfl, trivial⟩
      ·
       intro y0 y1 y2 y3 y4 y10 y11 y12 y13 y97 T5 n5 ρ its hS h17
       unfold g91_k3 at h17
       clear h16
       refine CV.cond h17 rfl (fun e h18 => ?_) (fun e h18 => ?_)
       ·
        clear h17
        subst e
        cases h18
       ·
        clear h17
        subst e
        refine CV.skip ?_
        refine PV.thenN ?_
        refine sr ?_
        refine mv ?_
        refine mv ?_
        refine mv ?_
        refine mv ?_
        refine mv ?_
        refine LV.call hS h18 (g160_ok _ _ _ _ _ _ _ _ ) hP rfl rfl rfl rfl fun x111_10 T6 n6 h19 ρ its hS => ?_
        refine mv ?_
        refine vy (V.ex h19 rfl) fun x112_11 h20 => ?_
        refine vy (V.ex h20 rfl) fun x113_12 h21 => ?_
        refine as_ ?_
        refine as_ ?_
        refine dn ?_
        refine sr ?_
        refine mv ?_
        refine as_ ?_
        refine dn ?_
        refine sr ?_
        refine mv ?_
        refine mv ?_
        refine vy (V.sub h21 rfl rfl) fun x117_13 h22 => ?_
        refine mv ?_
        refine mv ?_
        refine vy (V.sub h22 rfl rfl) fun x120_14 h23 => ?_
        refine as_ ?_
        refine as_ ?_
        refine dn ?_
        refine sr ?_
        refine mv ?_
        refine vy (V.bin0 h23 rfl rfl) fun x122_15 h24 => ?_
        refine as_ ?_
        refine dn ?_
        refine sr ?_
        refine mv ?_
        refine mv ?_
        refine vy (V.lt h24 rfl rfl) fun x125_16 h25 => ?_
        refine dn ?_
        cases h25
noncomputable def g59 (ro : List HT) (a0 a1 : AV) (T : HT) (nx : Nat) : R :=
 lenSK 590002 a0 fun x6_1 =>
 optK 590007 (convV Tryz.prog 3 164 x6_1) fun x10_2 =>
 callK (g92 ro x10_2 T nx) fun x11_3 T1 n1 =>
 callK (g91 ro a0 (.lit (.int .i64 (.ofNat 0))) x6_1 x11_3 a1 T1 n1) fun x13_4 T2 n2 =>
 .ok (.val (.tup [])) T2 n2
theorem g59_ok (ro : List HT) (a0 a1 : AV) (T : HT) (nx : Nat) : GOk Tryz.prog envE 59 [a0, a1] ro T nx (g59 ro a0 a1 T nx) := by
 refine GOk.of_body Tryz.func59 rfl Tryz.ntmps59 (by kernel_rfl) rfl fun r T' n' h1 w0 base ρ0 its hS hP => ?_
 have X : CtxW envE ρ0 ro r T' n' := trivial
 unfold g59 at h1
 refine sr ?_
 refine mv ?_
 refine vy (V.lenS h1 rfl Rnf.ls50) fun x6_1 h2 => ?_
 refine as_ ?_
 refine dn ?_
 refine CV.region ?_
 refine mv ?_
 refine mv ?_
 refine mv ?_
 refine vy (V.conv h2 rfl) fun x10_2 h3 => ?_
 refine LV.call hS h3 (g92_ok _ _ _ _ ) hP rfl rfl rfl rfl fun x11_3 T1 n1 h4 ρ its hS => ?_
 refine mv ?_
 refine LV.call hS h4 (g91_ok _ _ _ _ _ _ _ _ ) hP rfl rfl rfl rfl fun x13_4 T2 n2 h5 ρ its hS => ?_
 refine LV.done ?_
 cases h5
 exact PV.ret (by simp) Tryz.results59 hS RS.nil rfl
noncomputable def g27_k2 (ro : List HT) (lp1 : AV → AV → AV → AV → AV → AV → AV → AV → AV → HT → Nat → R) (y0 y4 y5 y6 y8 y9 y41 y42 y43 : AV) (T9 : HT) (n9 : Nat) : R :=
 addK Tryz.prog 3 (.tmp 43) (.const (.int .i64 (.ofNat 1))) 270041 y43 (.lit (.int .i64 (.ofNat 1))) fun x66_16 =>
 lp1 y0 y4 y5 y6 y8 y9 y41 y42 x66_16 T9 n9
noncomputable def g27_b1 (ro : List HT) (lp1 : AV → AV → AV → AV → AV → AV → AV → AV → AV → HT → Nat → R) (y0 y4 y5 y6 y8 y9 y41 y42 y43 : AV) (T8 : HT) (n8 : Nat) : R :=
 ltK Tryz.prog 3 (.tmp 43) (.tmp 42) 270039 y43 y42 fun x44_15 =>
 condK 270040 x44_15
 (
  iaK 270044 y41 y43 5 fun x46_17 =>
  ldAK 270045 T8 ro x46_17 5 fun x47_18 =>
  newK T8 n8 (.obj [.lit (.int .i64 0), .lit (.int .i64 0), .lit (.int .i64 0), .lit (.string ⟨#[]⟩), .lit (.slice none 0 0)] 32) fun x11_19 T10 n10 =>
  stAK 270048 T10 x11_19 x47_18 5 fun T11 =>
  faK 270049 x11_19 0 fun x48_20 =>
  ldK 270050 T11 ro x48_20 fun x49_21 =>
  eqK Tryz.prog 3 (.tmp 49) (.const (.int .i64 (.ofNat 45))) 270051 x49_21 (.lit (.int .i64 (.ofNat 45))) fun x50_22 =>
  condK 270052 x50_22
  (
   ncK 270055 y9 fun x53_23 =>
   faK 270056 x53_23 4 fun x54_24 =>
   ldK 270057 T11 ro x54_24 fun x55_25 =>
   faK 270059 x11_19 4 fun x57_26 =>
   ldK 270060 T11 ro x57_26 fun x58_27 =>
   lenSK 270061 x58_27 fun x59_28 =>
   subK Tryz.prog 3 (.tmp 59) (.const (.int .i64 (.ofNat 1))) 270062 x59_28 (.lit (.int .i64 (.ofNat 1))) fun x60_29 =>
   optK 270063 (bld56 [(0, y43), (1, x60_29)]) fun x61_30 =>
   bsK 270064 T11 n10 1 56 4 [(0, x61_30)] fun x62_31 T12 n12 =>
   shrK 270066 T12 x55_25 fun T13 =>
   appK 270065 T13 ro n12 56 4 48 x55_25 x62_31 fun x63_32 T14 n14 =>
   ncK 270067 y9 fun x64_33 =>
   faK 270068 x64_33 4 fun x65_34 =>
   stK 270069 T14 x65_34 x63_32 fun T15 =>
   g27_k2 ro lp1 y0 y4 y5 y6 y8 y9 y41 y42 y43 T15 n14
  )
  (
   g27_k2 ro lp1 y0 y4 y5 y6 y8 y9 y41 y42 y43 T11 n10
  )
 )
 (
  callK (scc7 4000 58 ro [y9, y8, (.lit (.pointer none))] T8 n8) fun x69_35 T16 n16 =>
  fldK 270074 T16 ro y9 5 fun x73_36 =>
  geK Tryz.prog 3 (.tmp 73) (.const (.int .i64 (.ofNat 0))) 270075 x73_36 (.lit (.int .i64 (.ofNat 0))) fun x74_37 =>
  condK 270076 x74_37
  (
   ncK 270079 y9 fun x77_38 =>
   faK 270080 x77_38 5 fun x78_39 =>
   ldK 270081 T16 ro x78_39 fun x79_40 =>
   iaK 270082 y0 x79_40 5 fun x80_41 =>
   faK 270083 x80_41 2 fun x81_42 =>
   ldK 270084 T16 ro x81_42 fun x82_43 =>
   optK 270086 (bld74 [(0, x82_43), (1, (.iface 253 (.opq 2)))]) fun x84_44 =>
   boxK 270089 T16 n16 x84_44 74 fun x85_45 T17 n17 =>
   .ok (.val (.tup [(.lit (.slice none 0 0)), (.lit (.slice none 0 0)), (.iface 72 x85_45)])) T17 n17
  )
  (
   fldK 270093 T16 ro y9 3 fun x90_46 =>
   callK (g59 ro x90_46 (.lit (.func (.func 60) #[] #[])) T16 n16) fun x91_47 T18 n18 =>
   ncK 270096 y9 fun x93_48 =>
   faK 270097 x93_48 3 fun x94_49 =>
   ldK 270098 T18 ro x94_49 fun x95_50 =>
   ncK 270100 y9 fun x97_51 =>
   faK 270101 x97_51 4 fun x98_52 =>
   ldK 270102 T18 ro x98_52 fun x99_53 =>
   .ok (.val (.tup [x95_50, x99_53, (.lit (.nilIface))])) T18 n18
  )
 )
noncomputable def g27 (ro : List HT) (a0 a1 : AV) (T : HT) (nx : Nat) : R :=
 callK (g12 ro a0 T nx) fun x13_1 T1 n1 =>
 bin0 Tryz.prog .neq 25 (.tmp 14) (.const (.nilIface)) 270008 x13_1 (.lit (.nilIface)) fun x15_2 =>
 condK 270009 x15_2
 (
  .bad 270010
 )
 (
  lenSK 270012 a0 fun x18_3 =>
  subK Tryz.prog 3 (.tmp 18) (.const (.int .i64 (.ofNat 1))) 270013 x18_3 (.lit (.int .i64 (.ofNat 1))) fun x19_4 =>
  optK 270017 (bld114 [(0, a0), (2, a1), (5, (.lit (.int .i64 (.negSucc 0))))]) fun x22_5 =>
  boxK 270018 T1 n1 x22_5 114 fun x23_6 T2 n2 =>
  callK (g56 ro x23_6 x19_4 T2 n2) fun x27_7 T3 n3 =>
  faK 270024 x23_6 1 fun x29_8 =>
  stK 270025 T3 x29_8 x27_7 fun T4 =>
  fldK 270029 T4 ro x23_6 1 fun x35_9 =>
  callK (g57 ro x35_9 T4 n3) fun x36_10 T5 n5 =>
  optK 270031 (bld56 [(0, x19_4), (3, x36_10)]) fun x37_11 =>
  bsK 270032 T5 n5 1 56 4 [(0, x37_11)] fun x38_12 T6 n6 =>
  faK 270033 x23_6 4 fun x40_13 =>
  stK 270034 T6 x40_13 x38_12 fun T7 =>
  lenSK 270036 a0 fun x42_14 =>
  lpf9 270038 (g27_b1 ro) 100000 a0 (.lit (.slice none 0 0)) (.lit (.slice none 0 0)) (.lit (.nilIface)) x19_4 x23_6 a0 x42_14 (.lit (.int .i64 (.ofNat 0))) T7 n6
 )
theorem g27_ok (ro : List HT) (a0 a1 : AV) (T : HT) (nx : Nat) : GOk Tryz.prog envE 27 [a0, a1] ro T nx (g27 ro a0 a1 T nx) := by
 refine GOk.of_body Tryz.func27 rfl Tryz.ntmps27 (by kernel_rfl) rfl fun r T' n' h1 w0 base ρ0 its hS hP => ?_
 have X : CtxW envE ρ0 ro r T' n' := trivial
 unfold g27 at h1
 refine sr ?_
 refine as_ ?_
 refine as_ ?_
 refine as_ ?_
 refine dn ?_
 refine CV.seq ?_
 refine sr ?_
 refine mv ?_
 refine LV.call hS h1 (g12_ok _ _ _ _ ) hP rfl rfl rfl rfl fun x13_1 T1 n1 h2 ρ its hS => ?_
 refine as_ ?_
 refine dn ?_
 refine sr ?_
 refine mv ?_
 refine vy (V.bin0 h2 rfl rfl) fun x15_2 h3 => ?_
 refine dn ?_
 refine CV.cond h3 rfl (fun e h4 => ?_) (fun e h4 => ?_)
 ·
  clear h1 h2 h3
  subst e
  cases h4
 ·
  clear h1 h2 h3
  subst e
  refine CV.skip ?_
  refine PV.thenN ?_
  refine sr ?_
  refine mv ?_
  refine vy (V.lenS h4 rfl Rnf.ls23) fun x18_3 h5 => ?_
  refine vy (V.sub h5 rfl rfl) fun x19_4 h6 => ?_
  refine as_ ?_
  refine dn ?_
  refine sr ?_
  refine mv ?_
  refine mv ?_
  refine vy (V.bld h6 rfl) fun x22_5 h7 => ?_
  refine LV.box hS h7 rfl rfl rfl rfl rfl fun x23_6 T2 n2 h8 ρ its hS hdr => ?_
  refine as_ ?_
  refine dn ?_
  refine sr ?_
  refine mv ?_
  refine mv ?_
  refine mv ?_
  refine LV.call hS h8 (g56_ok _ _ _ _ _ ) hP rfl rfl rfl rfl fun x27_7 T3 n3 h9 ρ its hS => ?_
  refine fa2 h9 Rnf.fo114_1 fun x29_8 h10 => ?_
  refine LV.st hS h10 rfl rfl rfl Rnf.siz46 rfl rfl fun T4 its h11 hS => ?_
  refine dn ?_
  refine sr ?_
  refine mv ?_
  refine mv ?_
  refine mv ?_
  refine fl hS h11 Rnf.fo114_1 Rnf.one46 fun x35_9 h12 => ?_
  refine LV.call hS h12 (g57_ok _ _ _ _ ) hP rfl rfl rfl rfl fun x36_10 T5 n5 h13 ρ its hS => ?_
  refine vy (V.bld h13 rfl) fun x37_11 h14 => ?_
  refine LV.bslice hS h14 rfl rfl Rnf.el51 rfl rfl rfl rfl fun x38_12 T6 n6 h15 ρ its hS hdr => ?_
  refine fa2 h15 Rnf.fo114_4 fun x40_13 h16 => ?_
  refine LV.st hS h16 rfl rfl rfl Rnf.siz51 rfl rfl fun T7 its h17 hS => ?_
  refine dn ?_
  refine CV.seq ?_
  refine sr ?_
  refine mv ?_
  refine vy (V.lenS h17 rfl Rnf.ls23) fun x42_14 h18 => ?_
  refine mv ?_
  refine dn ?_
  refine CV.block ?_
  refine cl9 X 0 4 5 6 8 9 41 42 43 [] hS h18 ⟨rfl, rfl, rfl, rfl, rfl, rfl, rfl, rfl, rfl, trivial⟩ ?_
  intro f1 y0 y4 y5 y6 y8 y9 y41 y42 y43 T8 n8 ρ its hS h19
  unfold g27_b1 at h19
  clear h4 h5 h6 h7 h8 h9 h10 h11 h12 h13 h14 h15 h16 h17 h18
  refine sr ?_
  refine vy (V.lt h19 rfl rfl) fun x44_15 h20 => ?_
  refine dn ?_
  refine CV.seq ?_
  refine CV.cond h20 rfl (fun e h21 => ?_) (fun e h21 => ?_)
  ·
   clear h19 h20
   subst e
   refine CV.skip ?_
   refine PV.thenN ?_
   refine cs9 X 0 4 5 6 8 9 41 42 43 [] (g27_k2 ro (lpf9 270038 (g27_b1 ro) f1)) ?_ ?_
   ·
    refine CV.block ?_
    refine sr ?_
    refine mv ?_
    refine vy (V.ia h21 rfl rfl Rnf.el23) fun x46_17 h24 => ?_
    refine vy (V.ldA hS h24 rfl Rnf.agg32) fun x47_18 h25 => ?_
    refine LV.alloc hS h25 rfl Rnf.zr32 rfl rfl rfl fun x11_19 T10 n10 h26 ρ its hS hdr => ?_
    refine as_ ?_
    refine LV.stA hS h26 rfl rfl rfl Rnf.agg32 rfl rfl rfl fun T11 its h27 hS => ?_
    refine dn ?_
    refine sr ?_
    refine vy (V.fa h27 rfl Rnf.fo32_0) fun x48_20 h28 => ?_
    refine vy (V.ld hS h28 rfl Rnf.one3) fun x49_21 h29 => ?_
    refine vy (V.eq h29 rfl rfl) fun x50_22 h30 => ?_
    refine dn ?_
    refine CV.cond h30 rfl (fun e h31 => ?_) (fun e h31 => ?_)
    ·
     clear h21 h24 h25 h26 h27 h28 h29 h30
     subst e
     refine CV.regionM [(0, .anywhere), (1, .anywhere), (2, .anywhere), (3, .anywhere), (4, .held), (5, .anywhere), (6, .anywhere), (7, .held), (8, .held), (9, .held), (10, .held), (11, .alone), (12, .alone), (13, .alone), (14, .alone), (15, .alone)] rfl (fun c a a' w hd hq => PanicOk.root (P := Tryz.prog) (fn := Tryz.f27) (w0 := w0) (base := base) (E := envE) (ro := ro) (r := r) (T' := T') (n' := n') (ρ0 := ρ0) c a a' w hd hq) (by kernel_rfl) ?_
     refine MV.step0 (i := 0) rfl (VAL.move rfl) rfl rfl rfl ?_
     refine MV.step0 (i := 1) rfl (VAL.move rfl) rfl rfl rfl ?_
     refine MV.lift0 (i := 2) rfl (V.nc h31 rfl) rfl rfl rfl fun x53_23 h32 => ?_
     refine MV.lift0 (i := 3) rfl (V.fa h32 rfl Rnf.fo114_4) rfl rfl rfl fun x54_24 h33 => ?_
     refine MV.lift1 (i := 4) rfl (fun _ z => z) (V.ld hS h33 rfl Rnf.one51) rfl rfl rfl [] (by kernel_rfl) fun x55_25 h34 => ?_
     refine MV.step0 (i := 5) rfl (VAL.move rfl) rfl rfl rfl ?_
     refine MV.lift0 (i := 6) rfl (V.fa h34 rfl Rnf.fo32_4) rfl rfl rfl fun x57_26 h35 => ?_
     refine MV.lift1 (i := 7) rfl (fun _ z => z) (V.ld hS h35 rfl Rnf.one30) rfl rfl rfl [4] (by kernel_rfl) fun x58_27 h36 => ?_
     refine MV.lift1 (i := 8) rfl (fun _ z => z) (V.lenS h36 rfl Rnf.ls30) rfl rfl rfl [4] (by kernel_rfl) fun x59_28 h37 => ?_
     refine MV.lift1 (i := 9) rfl (fun _ z => z) (V.sub h37 rfl rfl) rfl rfl rfl [4] (by kernel_rfl) fun x60_29 h38 => ?_
     refine MV.lift1 (i := 10) rfl (fun _ z => z) (V.bld h38 rfl) rfl rfl rfl [4] (by kernel_rfl) fun x61_30 h39 => ?_
     refine MV.force (i := 11) rfl ?_
     refine LV.bslice hS h39 rfl rfl Rnf.el51 rfl rfl rfl rfl fun x62_31 T12 n12 h40 ρ its hS hdr => ?_
     refine LV.nextM [4] (by kernel_rfl) (fun _ => hdr) ?_
     refine MV.force (i := 12) rfl ?_
     obtain ⟨T13, its1, h41, hS, hW⟩ := shrK_inv hS h40
     refine LV.world hW ?_
     refine LV.app hS h41 rfl rfl rfl rfl Rnf.el51 rfl rfl rfl fun x63_32 T14 n14 h42 ρ its hS => ?_
     refine LV.nextM [] (by kernel_rfl) (fun z => absurd rfl z) ?_
     refine MV.force (i := 13) rfl ?_
     refine vy (V.nc h42 rfl) fun x64_33 h43 => ?_
     refine LV.nextM [] (by kernel_rfl) (fun z => absurd rfl z) ?_
     refine MV.force (i := 14) rfl ?_
     refine vy (V.fa h43 rfl Rnf.fo114_4) fun x65_34 h44 => ?_
     refine LV.nextM [] (by kernel_rfl) (fun z => absurd rfl z) ?_
     refine MV.force (i := 15) rfl ?_
     refine LV.st hS h44 rfl rfl rfl Rnf.siz51 rfl rfl fun T15 its h45 hS => ?_
     refine LV.nextM [] (by kernel_rfl) (fun z => absurd rfl z) ?_
     refine MV.done ?_
     refine PV.blockN ?_
     exact pa9 hS h45 ⟨rfl, rfl, rfl, rfl, rfl, rfl, rfl, rfl, rfl, trivial⟩
    ·
     clear h21 h24 h25 h26 h27 h28 h29 h30
     subst e
     refine CV.skip ?_
     refine PV.blockN ?_
     exact pa9 hS h31 ⟨rfl, rfl, rfl, rfl, rfl, rfl, rfl, rfl, rfl, trivial⟩
   ·
    intro y0 y4 y5 y6 y8 y9 y41 y42 y43 T9 n9 ρ its hS h22
    unfold g27_k2 at h22
    clear h21
    refine CV.region ?_
    refine vy (V.add h22 rfl rfl) fun x66_16 h23 => ?_
    refine mv ?_
    refine LV.done ?_
    exact pb9 hS h23 ⟨rfl, rfl, rfl, rfl, rfl, rfl, rfl, rfl, rfl, trivial⟩
  ·
   clear h19 h20
   subst e
   refine CV.exit ?_
   refine PV.thenE ?_
   refine PV.thenE ?_
   refine PV.blockE ?_
   refine PV.thenN ?_
   refine sr ?_
   refine mv ?_
   refine mv ?_
   refine LV.call hS h21 (scc7_ok _ _ _ _ _ _) hP rfl rfl rfl rfl fun x69_35 T16 n16 h46 ρ its hS => ?_
   refine dn ?_
   refine CV.seq ?_
   refine sr ?_
   refine mv ?_
   refine fl hS h46 Rnf.fo114_5 Rnf.one3 fun x73_36 h47 => ?_
   refine vy (V.ge h47 rfl rfl) fun x74_37 h48 => ?_
   refine dn ?_
   refine CV.cond h48 rfl (fun e h49 => ?_) (fun e h49 => ?_)
   ·
    clear h21 h46 h47 h48
    subst e
    refine CV.seq ?_
    refine CV.regionM [(0, .anywhere), (1, .anywhere), (2, .anywhere), (3, .anywhere), (4, .held), (5, .held), (6, .held), (7, .held), (8, .held), (9, .held), (12, .anywhere), (13, .anywhere), (10, .alone), (11, .alone), (14, .alone)] rfl (fun c a a' w hd hq => PanicOk.root (P := Tryz.prog) (fn := Tryz.f27) (w0 := w0) (base := base) (E := envE) (ro := ro) (r := r) (T' := T') (n' := n') (ρ0 := ρ0) c a a' w hd hq) (by kernel_rfl) ?_
    refine MV.step0 (i := 0) rfl (VAL.move rfl) rfl rfl rfl ?_
    refine MV.step0 (i := 1) rfl (VAL.move rfl) rfl rfl rfl ?_
    refine MV.lift0 (i := 2) rfl (V.nc h49 rfl) rfl rfl rfl fun x77_38 h50 => ?_
    refine MV.lift0 (i := 3) rfl (V.fa h50 rfl Rnf.fo114_5) rfl rfl rfl fun x78_39 h51 => ?_
    refine MV.lift1 (i := 4) rfl (fun _ z => z) (V.ld hS h51 rfl Rnf.one3) rfl rfl rfl [] (by kernel_rfl) fun x79_40 h52 => ?_
    refine MV.lift1 (i := 5) rfl (fun _ z => z) (V.ia h52 rfl rfl Rnf.el23) rfl rfl rfl [] (by kernel_rfl) fun x80_41 h53 => ?_
    refine MV.lift1 (i := 6) rfl (fun _ z => z) (V.fa h53 rfl Rnf.fo32_2) rfl rfl rfl [] (by kernel_rfl) fun x81_42 h54 => ?_
    refine MV.lift1 (i := 7) rfl (fun _ z => z) (V.ld hS h54 rfl Rnf.one3) rfl rfl rfl [] (by kernel_rfl) fun x82_43 h55 => ?_
    refine MV.step1 (i := 8) rfl (fun _ z => z) (VAL.ldG hS (by rfl) Rnf.one25) rfl rfl rfl [7] (by kernel_rfl) ?_
    refine MV.lift1 (i := 9) rfl (fun _ z => z) (V.bld h55 rfl) rfl rfl rfl [] (by kernel_rfl) fun x84_44 h56 => ?_
    refine MV.step0 (i := 12) rfl (VAL.assign rfl) rfl rfl rfl ?_
    refine MV.step0 (i := 13) rfl (VAL.assign rfl) rfl rfl rfl ?_
    refine MV.force (i := 10) rfl ?_
    refine LV.box hS h56 rfl rfl rfl rfl rfl fun x85_45 T17 n17 h57 ρ its hS hdr => ?_
    refine LV.nextM [] (by kernel_rfl) (fun z => absurd rfl z) ?_
    refine MV.force (i := 11) rfl ?_
    refine sv (VAL.mkI rfl Rnf.ni72) ?_
    refine LV.nextM [] (by kernel_rfl) (fun z => absurd rfl z) ?_
    refine MV.force (i := 14) rfl ?_
    refine as_ ?_
    refine LV.nextM [] (by kernel_rfl) (fun z => absurd rfl z) ?_
    refine mdn ?_
    refine CV.ret ?_
    refine PV.thenR ?_
    cases h57
    exact PV.ret (by simp) Tryz.results27 hS (RS.tmp rfl (RS.tmp rfl (RS.tmp rfl RS.nil))) rfl
   ·
    clear h21 h46 h47 h48
    subst e
    refine CV.skip ?_
    refine PV.thenN ?_
    refine sr ?_
    refine mv ?_
    refine fl hS h49 Rnf.fo114_3 Rnf.one50 fun x90_46 h58 => ?_
    refine LV.call hS h58 (g59_ok _ _ _ _ _ ) hP rfl rfl rfl rfl fun x91_47 T18 n18 h59 ρ its hS => ?_
    refine dn ?_
    refine CV.seq ?_
    refine CV.regionM [(0, .anywhere), (1, .anywhere), (2, .anywhere), (3, .held), (4, .anywhere), (5, .anywhere), (6, .anywhere), (7, .held), (8, .held), (9, .held), (10, .held)] rfl (fun c a a' w hd hq => PanicOk.root (P := Tryz.prog) (fn := Tryz.f27) (w0 := w0) (base := base) (E := envE) (ro := ro) (r := r) (T' := T') (n' := n') (ρ0 := ρ0) c a a' w hd hq) (by kernel_rfl) ?_
    refine MV.step0 (i := 0) rfl (VAL.move rfl) rfl rfl rfl ?_
    refine MV.lift0 (i := 1) rfl (V.nc h59 rfl) rfl rfl rfl fun x93_48 h60 => ?_
    refine MV.lift0 (i := 2) rfl (V.fa h60 rfl Rnf.fo114_3) rfl rfl rfl fun x94_49 h61 => ?_
    refine MV.lift1 (i := 3) rfl (fun _ z => z) (V.ld hS h61 rfl Rnf.one50) rfl rfl rfl [] (by kernel_rfl) fun x95_50 h62 => ?_
    refine MV.step0 (i := 4) rfl (VAL.move rfl) rfl rfl rfl ?_
    refine MV.lift0 (i := 5) rfl (V.nc h62 rfl) rfl rfl rfl fun x97_51 h63 => ?_
    refine MV.lift0 (i := 6) rfl (V.fa h63 rfl Rnf.fo114_4) rfl rfl rfl fun x98_52 h64 => ?_
    refine MV.lift1 (i := 7) rfl (fun _ z => z) (V.ld hS h64 rfl Rnf.one51) rfl rfl rfl [3] (by kernel_rfl) fun x99_53 h65 => ?_
    refine MV.step1 (i := 8) rfl (fun _ z => z) (VAL.assign rfl) rfl rfl rfl [7] (by kernel_rfl) ?_
    refine MV.step1 (i := 9) rfl (fun _ z => z) (VAL.assign rfl) rfl rfl rfl [] (by kernel_rfl) ?_
    refine MV.step1 (i := 10) rfl (fun _ z => z) (VAL.assign rfl) rfl rfl rfl [] (by kernel_rfl) ?_
    refine mdn ?_
    refine CV.ret ?_
    cases h65
    exact PV.ret (by simp) Tryz.results27 hS (RS.tmp rfl (RS.tmp rfl (RS.tmp rfl RS.nil))) rfl
noncomputable def g24_k5 (ro : List HT) (lp4 : AV → AV → AV → AV → AV → HT → Nat → R) (y0 y3 y11 y12 y13 : AV) (T9 : HT) (n9 : Nat) : R :=
 addK Tryz.prog 3 (.tmp 54) (.const (.int .i64 (.ofNat 1))) 240049 y13 (.lit (.int .i64 (.ofNat 1))) fun x55_18 =>
 lp4 y0 y3 y11 y12 x55_18 T9 n9
noncomputable def g24_k7 (ro : List HT) (lp4 : AV → AV → AV → AV → AV → HT → Nat → R) (y0 y3 y11 y12 y13 y85 : AV) (T11 : HT) (n11 : Nat) : R :=
 condK 240058 y85
 (
  addK Tryz.prog 3 (.tmp 86) (.const (.int .i64 (.ofNat 1))) 240060 y12 (.lit (.int .i64 (.ofNat 1))) fun x87_23 =>
  g24_k5 ro lp4 y0 y3 y11 x87_23 y13 T11 n11
 )
 (
  g24_k5 ro lp4 y0 y3 y11 y12 y13 T11 n11
 )
noncomputable def g24_k6 (ro : List HT) (lp4 : AV → AV → AV → AV → AV → HT → Nat → R) (y0 y3 y11 y12 y13 : AV) (T10 : HT) (n10 : Nat) : R :=
 iaK 240053 y3 y13 3 fun x74_19 =>
 faK 240054 x74_19 1 fun x75_20 =>
 ldK 240055 T10 ro x75_20 fun x76_21 =>
 eqK Tryz.prog 3 (.tmp 76) (.const (.int .i64 (.ofNat 2))) 240056 x76_21 (.lit (.int .i64 (.ofNat 2))) fun x77_22 =>
 condK 240062 x77_22
 (
  iaK 240065 y3 y13 3 fun x81_24 =>
  faK 240066 x81_24 2 fun x82_25 =>
  ldK 240067 T10 ro x82_25 fun x83_26 =>
  eqK Tryz.prog 3 (.tmp 83) (.const (.int .i64 (.ofNat 0))) 240068 x83_26 (.lit (.int .i64 (.ofNat 0))) fun x84_27 =>
  g24_k7 ro lp4 y0 y3 y11 y12 y13 x84_27 T10 n10
 )
 (
  g24_k7 ro lp4 y0 y3 y11 y12 y13 (.lit (.bool false)) T10 n10
 )
noncomputable def g24_k8 (ro : List HT) (lp4 : AV → AV → AV → AV → AV → HT → Nat → R) (y0 y3 y11 y12 y13 y69 : AV) (T12 : HT) (n12 : Nat) : R :=
 condK 240078 y69
 (
  addK Tryz.prog 3 (.tmp 70) (.const (.int .i64 (.ofNat 1))) 240080 y11 (.lit (.int .i64 (.ofNat 1))) fun x71_32 =>
  g24_k6 ro lp4 y0 y3 x71_32 y12 y13 T12 n12
 )
 (
  g24_k6 ro lp4 y0 y3 y11 y12 y13 T12 n12
 )
noncomputable def g24_k9 (ro : List HT) (y0 y93 : AV) (T13 : HT) (n13 : Nat) : R :=
 .ok (.val y93) T13 n13
noncomputable def g24_b4 (ro : List HT) (lp4 : AV → AV → AV → AV → AV → HT → Nat → R) (y0 y3 y11 y12 y13 : AV) (T8 : HT) (n8 : Nat) : R :=
 lenSK 240045 y3 fun x52_16 =>
 ltK Tryz.prog 3 (.tmp 50) (.tmp 52) 240046 y13 x52_16 fun x53_17 =>
 condK 240047 x53_17
 (
  iaK 240073 y3 y13 3 fun x58_28 =>
  faK 240074 x58_28 1 fun x59_29 =>
  ldK 240075 T8 ro x59_29 fun x60_30 =>
  eqK Tryz.prog 3 (.tmp 60) (.const (.int .i64 (.ofNat 1))) 240076 x60_30 (.lit (.int .i64 (.ofNat 1))) fun x61_31 =>
  condK 240082 x61_31
  (
   iaK 240085 y3 y13 3 fun x65_33 =>
   faK 240086 x65_33 2 fun x66_34 =>
   ldK 240087 T8 ro x66_34 fun x67_35 =>
   eqK Tryz.prog 3 (.tmp 67) (.const (.int .i64 (.ofNat 0))) 240088 x67_35 (.lit (.int .i64 (.ofNat 0))) fun x68_36 =>
   g24_k8 ro lp4 y0 y3 y11 y12 y13 x68_36 T8 n8
  )
  (
   g24_k8 ro lp4 y0 y3 y11 y12 y13 (.lit (.bool false)) T8 n8
  )
 )
 (
  eqK Tryz.prog 3 (.tmp 88) (.const (.int .i64 (.ofNat 1))) 240092 y11 (.lit (.int .i64 (.ofNat 1))) fun x89_37 =>
  condK 240095 x89_37
  (
   eqK Tryz.prog 3 (.tmp 91) (.const (.int .i64 (.ofNat 2))) 240097 y12 (.lit (.int .i64 (.ofNat 2))) fun x92_38 =>
   g24_k9 ro y0 x92_38 T8 n8
  )
  (
   g24_k9 ro y0 (.lit (.bool false)) T8 n8
  )
 )
noncomputable def g24_k3 (ro : List HT) (y3 y49 : AV) (T7 : HT) (n7 : Nat) : R :=
 condK 240037 y49
 (
  .bad 240038
 )
 (
  lpf5 240042 (g24_b4 ro) 100000 (.lit (.bool false)) y3 (.lit (.int .i64 (.ofNat 0))) (.lit (.int .i64 (.ofNat 0))) (.lit (.int .i64 (.ofNat 0))) T7 n7
 )
noncomputable def g24_k2 (ro : List HT) (y3 y10 y43 : AV) (T6 : HT) (n6 : Nat) : R :=
 condK 240100 y43
 (
  g24_k3 ro y3 (.lit (.bool true)) T6 n6
 )
 (
  callK (g17 ro (.lit (.int .i64 (.ofNat 103))) (.lit (.int .i64 (.ofNat 0))) T6 n6) fun x46_39 T14 n14 =>
  callK (g16 ro y10 x46_39 T14 n14) fun x47_40 T15 n15 =>
  notK 240105 x47_40 fun x48_41 =>
  g24_k3 ro y3 x48_41 T15 n15
 )
noncomputable def g24_k1 (ro : List HT) (y3 y7 y10 y39 : AV) (T5 : HT) (n5 : Nat) : R :=
 condK 240107 y39
 (
  g24_k2 ro y3 y10 (.lit (.bool true)) T5 n5
 )
 (
  bin0 Tryz.prog .neq 25 (.tmp 41) (.const (.nilIface)) 240110 y7 (.lit (.nilIface)) fun x42_42 =>
  g24_k2 ro y3 y10 x42_42 T5 n5
 )
noncomputable def g24 (ro : List HT) (T : HT) (nx : Nat) : R :=
 callK (g11 ro (.lit (.string ⟨⟨[120, 32, 61, 32, 49, 10, 100, 101, 102, 32, 102, 40, 97, 41, 58, 32, 114, 101, 116, 117, 114, 110, 32, 97, 32, 43, 32, 120, 10]⟩⟩)) T nx) fun x15_1 T1 n1 =>
 exK 240004 x15_1 0 fun x16_2 =>
 exK 240005 x15_1 1 fun x17_3 =>
 callK (g27 ro x16_2 (.lit (.slice none 0 0)) T1 n1) fun x20_4 T2 n2 =>
 exK 240011 x20_4 0 fun x21_5 =>
 exK 240012 x20_4 1 fun x22_6 =>
 exK 240013 x20_4 2 fun x23_7 =>
 callK (g11 ro (.lit (.string ⟨⟨[121]⟩⟩)) T2 n2) fun x25_8 T3 n3 =>
 exK 240019 x25_8 0 fun x26_9 =>
 exK 240020 x25_8 1 fun x27_10 =>
 callK (g27 ro x26_9 (.lit (.slice none 0 0)) T3 n3) fun x30_11 T4 n4 =>
 exK 240026 x30_11 0 fun x31_12 =>
 exK 240027 x30_11 1 fun x32_13 =>
 exK 240028 x30_11 2 fun x33_14 =>
 bin0 Tryz.prog .neq 25 (.tmp 34) (.const (.nilIface)) 240033 x17_3 (.lit (.nilIface)) fun x35_15 =>
 condK 240112 x35_15
 (
  g24_k1 ro x21_5 x27_10 x33_14 (.lit (.bool true)) T4 n4
 )
 (
  bin0 Tryz.prog .neq 25 (.tmp 37) (.const (.nilIface)) 240115 x23_7 (.lit (.nilIface)) fun x38_43 =>
  g24_k1 ro x21_5 x27_10 x33_14 x38_43 T4 n4
 )
theorem g24_ok (ro : List HT) (T : HT) (nx : Nat) : GOk Tryz.prog envE 24 [] ro T nx (g24 ro T nx) := by
 refine GOk.of_body Tryz.func24 rfl Tryz.ntmps24 (by kernel_rfl) rfl fun r T' n' h1 w0 base ρ0 its hS hP => ?_
 have X : CtxW envE ρ0 ro r T' n' := trivial
 unfold g24 at h1
 refine sr ?_
 refine as_ ?_
 refine dn ?_
 refine sr ?_
 refine LV.call hS h1 (g11_ok _ _ _ _ ) hP rfl rfl rfl rfl fun x15_1 T1 n1 h2 ρ its hS => ?_
 refine mv ?_
 refine vy (V.ex h2 rfl) fun x16_2 h3 => ?_
 refine vy (V.ex h3 rfl) fun x17_3 h4 => ?_
 refine as_ ?_
 refine as_ ?_
 refine dn ?_
 refine sr ?_
 refine mv ?_
 refine LV.call hS h4 (g27_ok _ _ _ _ _ ) hP rfl rfl rfl rfl fun x20_4 T2 n2 h5 ρ its hS => ?_
 refine mv ?_
 refine vy (V.ex h5 rfl) fun x21_5 h6 => ?_
 refine vy (V.ex h6 rfl) fun x22_6 h7 => ?_
 refine vy (V.ex h7 rfl) fun x23_7 h8 => ?_
 refine as_ ?_
 refine as_ ?_
 refine as_ ?_
 refine dn ?_
 refine sr ?_
 refine LV.call hS h8 (g11_ok _ _ _ _ ) hP rfl rfl rfl rfl fun x25_8 T3 n3 h9 ρ its hS => ?_
 refine mv ?_
 refine vy (V.ex h9 rfl) fun x26_9 h10 => ?_
 refine vy (V.ex h10 rfl) fun x27_10 h11 => ?_
 refine as_ ?_
 refine as_ ?_
 refine dn ?_
 refine sr ?_
 refine mv ?_
 refine LV.call hS h11 (g27_ok _ _ _ _ _ ) hP rfl rfl rfl rfl fun x30_11 T4 n4 h12 ρ its hS => ?_
 refine mv ?_
 refine vy (V.ex h12 rfl) fun x31_12 h13 => ?_
 refine vy (V.ex h13 rfl) fun x32_13 h14 => ?_
 refine vy (V.ex h14 rfl) fun x33_14 h15 => ?_
 refine as_ ?_
 refine as_ ?_
 refine as_ ?_
 refine dn ?_
 refine CV.seq ?_
 refine sr ?_
 refine mv ?_
 refine vy (V.bin0 h15 rfl rfl) fun x35_15 h16 => ?_
 refine mv ?_
 refine ls4 X 3 7 10 39 [(0, (.lit (.bool false)))] (g24_k1 ro) 3 ?_ ?_
 ·
  rcases condK_inv h16 with ⟨e, h62⟩ | ⟨e, h62⟩
  ·
   clear h1 h2 h3 h4 h5 h6 h7 h8 h9 h10 h11 h12 h13 h14 h15 h16
   subst e
   refine sk ?_
   refine sk ?_
   refine pu ?_
   exact la4 hS h62 ⟨rfl, rfl, rfl, rfl, rfl, trivial⟩
  ·
   clear h1 h2 h3 h4 h5 h6 h7 h8 h9 h10 h11 h12 h13 h14 h15 h16
   subst e
   refine mv ?_
   refine vy (V.bin0 h62 rfl rfl) fun x38_43 h63 => ?_
   refine pu ?_
   exact la4 hS h63 ⟨rfl, rfl, rfl, rfl, rfl, trivial⟩
 ·
  intro y3 y7 y10 y39 T5 n5 ρ its hS h17
  unfold g24_k1 at h17
  clear h1 h2 h3 h4 h5 h6 h7 h8 h9 h10 h11 h12 h13 h14 h15 h16
  refine mv ?_
  refine ls3 X 3 10 43 [(0, (.lit (.bool false)))] (g24_k2 ro) 3 ?_ ?_
  ·
   rcases condK_inv h17 with ⟨e, h60⟩ | ⟨e, h60⟩
   ·
    clear h17
    subst e
    refine sk ?_
    refine sk ?_
    refine pu ?_
    exact la3 hS h60 ⟨rfl, rfl, rfl, rfl, trivial⟩
   ·
    clear h17
    subst e
    refine mv ?_
    refine vy (V.bin0 h60 rfl rfl) fun x42_42 h61 => ?_
    refine pu ?_
    exact la3 hS h61 ⟨rfl, rfl, rfl, rfl, trivial⟩
  ·
   intro y3 y10 y43 T6 n6 ρ its hS h18
   unfold g24_k2 at h18
   clear h17
   refine mv ?_
   refine ls2 X 3 49 [(0, (.lit (.bool false)))] (g24_k3 ro) 5 ?_ ?_
   ·
    rcases condK_inv h18 with ⟨e, h56⟩ | ⟨e, h56⟩
    ·
     clear h18
     subst e
     refine sk ?_
     refine sk ?_
     refine sk ?_
     refine sk ?_
     refine pu ?_
     exact la2 hS h56 ⟨rfl, rfl, rfl, trivial⟩
    ·
     clear h18
     subst e
     refine mv ?_
     refine LV.call hS h56 (g17_ok _ _ _ _ _ ) hP rfl rfl rfl rfl fun x46_39 T14 n14 h57 ρ its hS => ?_
     refine LV.call hS h57 (g16_ok _ _ _ _ _ ) hP rfl rfl rfl rfl fun x47_40 T15 n15 h58 ρ its hS => ?_
     refine vy (V.not h58 rfl) fun x48_41 h59 => ?_
     refine pu ?_
     exact la2 hS h59 ⟨rfl, rfl, rfl, trivial⟩
   ·
    intro y3 y49 T7 n7 ρ its hS h19
    unfold g24_k3 at h19
    clear h18
    refine dn ?_
    refine CV.cond h19 rfl (fun e h20 => ?_) (fun e h20 => ?_)
    ·
     clear h19
     subst e
     cases h20
    ·
     clear h19
     subst e
     refine CV.skip ?_
     refine PV.thenN ?_
     refine sr ?_
     refine as_ ?_
     refine dn ?_
     refine sr ?_
     refine as_ ?_
     refine dn ?_
     refine CV.seq ?_
     refine sr ?_
     refine as_ ?_
     refine dn ?_
     refine CV.block ?_
     refine cl5 X 0 3 11 12 13 [] hS h20 ⟨rfl, rfl, rfl, rfl, rfl, trivial⟩ ?_
     intro f4 y0 y3 y11 y12 y13 T8 n8 ρ its hS h21
     unfold g24_b4 at h21
     clear h20
     refine CV.seq ?_
     refine sr ?_
     refine mv ?_
     refine mv ?_
     refine vy (V.lenS h21 rfl Rnf.ls50) fun x52_16 h22 => ?_
     refine vy (V.lt h22 rfl rfl) fun x53_17 h23 => ?_
     refine dn ?_
     refine CV.cond h23 rfl (fun e h24 => ?_) (fun e h24 => ?_)
     ·
      clear h21 h22 h23
      subst e
      refine CV.skip ?_
      refine PV.thenN ?_
      refine cs5 X 0 3 11 12 13 [] (g24_k5 ro (lpf5 240042 (g24_b4 ro) f4)) ?_ ?_
      ·
       refine CV.block ?_
       refine cs5 X 0 3 11 12 13 [] (g24_k6 ro (lpf5 240042 (g24_b4 ro) f4)) ?_ ?_
       ·
        refine sr ?_
        refine mv ?_
        refine mv ?_
        refine vy (V.ia h24 rfl rfl Rnf.el50) fun x58_28 h40 => ?_
        refine vy (V.fa h40 rfl Rnf.fo58_1) fun x59_29 h41 => ?_
        refine vy (V.ld hS h41 rfl Rnf.one3) fun x60_30 h42 => ?_
        refine vy (V.eq h42 rfl rfl) fun x61_31 h43 => ?_
        refine mv ?_
        refine ls6 X 0 3 11 12 13 69 [] (g24_k8 ro (lpf5 240042 (g24_b4 ro) f4)) 7 ?_ ?_
        ·
         rcases condK_inv h43 with ⟨e, h47⟩ | ⟨e, h47⟩
         ·
          clear h24 h40 h41 h42 h43
          subst e
          refine mv ?_
          refine mv ?_
          refine vy (V.ia h47 rfl rfl Rnf.el50) fun x65_33 h48 => ?_
          refine vy (V.fa h48 rfl Rnf.fo58_2) fun x66_34 h49 => ?_
          refine vy (V.ld hS h49 rfl Rnf.one3) fun x67_35 h50 => ?_
          refine vy (V.eq h50 rfl rfl) fun x68_36 h51 => ?_
          refine pu ?_
          exact la6 hS h51 ⟨rfl, rfl, rfl, rfl, rfl, rfl, trivial⟩
         ·
          clear h24 h40 h41 h42 h43
          subst e
          refine sk ?_
          refine sk ?_
          refine sk ?_
          refine sk ?_
          refine sk ?_
          refine sk ?_
          refine pu ?_
          exact la6 hS h47 ⟨rfl, rfl, rfl, rfl, rfl, rfl, trivial⟩
        ·
         intro y0 y3 y11 y12 y13 y69 T12 n12 ρ its hS h44
         unfold g24_k8 at h44
         clear h24 h40 h41 h42 h43
         refine dn ?_
         refine CV.cond h44 rfl (fun e h45 => ?_) (fun e h45 => ?_)
         ·
          clear h44
          subst e
          refine CV.region ?_
          refine mv ?_
          refine vy (V.add h45 rfl rfl) fun x71_32 h46 => ?_
          refine as_ ?_
          refine LV.done ?_
          exact pa5 hS h46 ⟨rfl, rfl, rfl, rfl, rfl, trivial⟩
         ·
          clear h44
          subst e
          refine CV.skip ?_
          exact pa5 hS h45 ⟨rfl, rfl, rfl, rfl, rfl, trivial⟩
       ·
        intro y0 y3 y11 y12 y13 T10 n10 ρ its hS h27
        unfold g24_k6 at h27
        clear h24
        refine sr ?_
        refine mv ?_
        refine mv ?_
        refine vy (V.ia h27 rfl rfl Rnf.el50) fun x74_19 h28 => ?_
        refine vy (V.fa h28 rfl Rnf.fo58_1) fun x75_20 h29 => ?_
        refine vy (V.ld hS h29 rfl Rnf.one3) fun x76_21 h30 => ?_
        refine vy (V.eq h30 rfl rfl) fun x77_22 h31 => ?_
        refine mv ?_
        refine ls6 X 0 3 11 12 13 85 [] (g24_k7 ro (lpf5 240042 (g24_b4 ro) f4)) 7 ?_ ?_
        ·
         rcases condK_inv h31 with ⟨e, h35⟩ | ⟨e, h35⟩
         ·
          clear h27 h28 h29 h30 h31
          subst e
          refine mv ?_
          refine mv ?_
          refine vy (V.ia h35 rfl rfl Rnf.el50) fun x81_24 h36 => ?_
          refine vy (V.fa h36 rfl Rnf.fo58_2) fun x82_25 h37 => ?_
          refine vy (V.ld hS h37 rfl Rnf.one3) fun x83_26 h38 => ?_
          refine vy (V.eq h38 rfl rfl) fun x84_27 h39 => ?_
          refine pu ?_
          exact la6 hS h39 ⟨rfl, rfl, rfl, rfl, rfl, rfl, trivial⟩
         ·
          clear h27 h28 h29 h30 h31
          subst e
          refine sk ?_
          refine sk ?_
          refine sk ?_
          refine sk ?_
          refine sk ?_
          refine sk ?_
          refine pu ?_
          exact la6 hS h35 ⟨rfl, rfl, rfl, rfl, rfl, rfl, trivial⟩
        ·
         intro y0 y3 y11 y12 y13 y85 T11 n11 ρ its hS h32
         unfold g24_k7 at h32
         clear h27 h28 h29 h30 h31
         refine dn ?_
         refine CV.cond h32 rfl (fun e h33 => ?_) (fun e h33 => ?_)
         ·
          clear h32
          subst e
          refine CV.region ?_
          refine mv ?_
          refine vy (V.add h33 rfl rfl) fun x87_23 h34 => ?_
          refine as_ ?_
          refine LV.done ?_
          refine PV.blockN ?_
          exact pa5 hS h34 ⟨rfl, rfl, rfl, rfl, rfl, trivial⟩
         ·
          clear h32
          subst e
          refine CV.skip ?_
          refine PV.blockN ?_
          exact pa5 hS h33 ⟨rfl, rfl, rfl, rfl, rfl, trivial⟩
      ·
       intro y0 y3 y11 y12 y13 T9 n9 ρ its hS h25
       unfold g24_k5 at h25
       clear h24
       refine CV.region ?_
       refine mv ?_
       refine vy (V.add h25 rfl rfl) fun x55_18 h26 => ?_
       refine as_ ?_
       refine LV.done ?_
       exact pb5 hS h26 ⟨rfl, rfl, rfl, rfl, rfl, trivial⟩
     ·
      clear h21 h22 h23
      subst e
      refine CV.exit ?_
      refine PV.thenE ?_
      refine PV.thenE ?_
      refine PV.blockE ?_
      refine PV.thenN ?_
      refine sr ?_
      refine mv ?_
      refine vy (V.eq h24 rfl rfl) fun x89_37 h52 => ?_
      refine mv ?_
      refine ls2 X 0 93 [] (g24_k9 ro) 3 ?_ ?_
      ·
       rcases condK_inv h52 with ⟨e, h54⟩ | ⟨e, h54⟩
       ·
        clear h24 h52
        subst e
        refine mv ?_
        refine vy (V.eq h54 rfl rfl) fun x92_38 h55 => ?_
        refine pu ?_
        exact la2 hS h55 ⟨rfl, rfl, trivial⟩
       ·
        clear h24 h52
        subst e
        refine sk ?_
        refine sk ?_
        refine pu ?_
        exact la2 hS h54 ⟨rfl, rfl, trivial⟩
      ·
       intro y0 y93 T13 n13 ρ its hS h53
       unfold g24_k9 at h53
       clear h24 h52
       refine as_ ?_
       refine dn ?_
       refine CV.ret ?_
       cases h53
       exact PV.ret (by simp) Tryz.results24 hS (RS.tmp rfl RS.nil) rfl
noncomputable def g26 (ro : List HT) (a0 a1 : AV) (T : HT) (nx : Nat) : R :=
 bin0 Tryz.prog .rem 3 (.tmp 5) (.tmp 6) 260004 a0 a1 fun x7_1 =>
 addK Tryz.prog 3 (.tmp 7) (.tmp 8) 260006 x7_1 a1 fun x9_2 =>
 bin0 Tryz.prog .rem 3 (.tmp 9) (.tmp 10) 260008 x9_2 a1 fun x11_3 =>
 .ok (.val x11_3) T nx
theorem g26_ok (ro : List HT) (a0 a1 : AV) (T : HT) (nx : Nat) : GOk Tryz.prog envE 26 [a0, a1] ro T nx (g26 ro a0 a1 T nx) := by
 refine GOk.of_body Tryz.func26 rfl Tryz.ntmps26 (by kernel_rfl) rfl fun r T' n' h1 w0 base ρ0 its hS hP => ?_
 have X : CtxW envE ρ0 ro r T' n' := trivial
 unfold g26 at h1
 refine sr ?_
 refine as_ ?_
 refine dn ?_
 refine sr ?_
 refine mv ?_
 refine mv ?_
 refine vy (V.bin0 h1 rfl rfl) fun x7_1 h2 => ?_
 refine mv ?_
 refine vy (V.add h2 rfl rfl) fun x9_2 h3 => ?_
 refine mv ?_
 refine vy (V.bin0 h3 rfl rfl) fun x11_3 h4 => ?_
 refine as_ ?_
 refine dn ?_
 refine CV.ret ?_
 cases h4
 exact PV.ret (by simp) Tryz.results26 hS (RS.tmp rfl RS.nil) rfl
noncomputable def g28_b1 (ro : List HT) (lp1 : AV → AV → AV → AV → HT → Nat → R) (y0 y1 y4 y5 : AV) (T1 : HT) (n1 : Nat) : R :=
 lenSK 280013 y0 fun x14_4 =>
 ltK Tryz.prog 3 (.tmp 12) (.tmp 14) 280014 y5 x14_4 fun x15_5 =>
 condK 280015 x15_5
 (
  iaK 280018 y0 y5 1 fun x20_6 =>
  ldK 280019 T1 ro x20_6 fun x21_7 =>
  iaK 280022 y1 y5 1 fun x24_8 =>
  ldK 280023 T1 ro x24_8 fun x25_9 =>
  eqSK Tryz.prog 9 (.tmp 21) (.tmp 25) 280024 x21_7 x25_9 fun x26_10 =>
  notK 280027 x26_10 fun x28_11 =>
  condK 280028 x28_11
  (
   .bad 280029
  )
  (
   addK Tryz.prog 3 (.tmp 16) (.const (.int .i64 (.ofNat 1))) 280031 y5 (.lit (.int .i64 (.ofNat 1))) fun x17_12 =>
   lp1 y0 y1 y4 x17_12 T1 n1
  )
 )
 (
  .ok (.val (.lit (.bool true))) T1 n1
 )
noncomputable def g28 (ro : List HT) (a0 a1 : AV) (T : HT) (nx : Nat) : R :=
 lenSK 280003 a0 fun x8_1 =>
 lenSK 280005 a1 fun x10_2 =>
 neK Tryz.prog 3 (.tmp 8) (.tmp 10) 280006 x8_1 x10_2 fun x11_3 =>
 condK 280007 x11_3
 (
  .bad 280008
 )
 (
  lpf4 280010 (g28_b1 ro) 100000 a0 a1 (.lit (.bool false)) (.lit (.int .i64 (.ofNat 0))) T nx
 )
theorem g28_ok (ro : List HT) (a0 a1 : AV) (T : HT) (nx : Nat) : GOk Tryz.prog envE 28 [a0, a1] ro T nx (g28 ro a0 a1 T nx) := by
 refine GOk.of_body Tryz.func28 rfl Tryz.ntmps28 (by kernel_rfl) rfl fun r T' n' h1 w0 base ρ0 its hS hP => ?_
 have X : CtxW envE ρ0 ro r T' n' := trivial
 unfold g28 at h1
 refine sr ?_
 refine as_ ?_
 refine dn ?_
 refine CV.seq ?_
 refine sr ?_
 refine mv ?_
 refine vy (V.lenS h1 rfl Rnf.ls46) fun x8_1 h2 => ?_
 refine mv ?_
 refine vy (V.lenS h2 rfl Rnf.ls46) fun x10_2 h3 => ?_
 refine vy (V.ne h3 rfl rfl) fun x11_3 h4 => ?_
 refine dn ?_
 refine CV.cond h4 rfl (fun e h5 => ?_) (fun e h5 => ?_)
 ·
  clear h1 h2 h3 h4
  subst e
  cases h5
 ·
  clear h1 h2 h3 h4
  subst e
  refine CV.skip ?_
  refine PV.thenN ?_
  refine CV.seq ?_
  refine sr ?_
  refine as_ ?_
  refine dn ?_
  refine CV.block ?_
  refine cl4 X 0 1 4 5 [] hS h5 ⟨rfl, rfl, rfl, rfl, trivial⟩ ?_
  intro f1 y0 y1 y4 y5 T1 n1 ρ its hS h6
  unfold g28_b1 at h6
  clear h5
  refine CV.seq ?_
  refine sr ?_
  refine mv ?_
  refine mv ?_
  refine vy (V.lenS h6 rfl Rnf.ls46) fun x14_4 h7 => ?_
  refine vy (V.lt h7 rfl rfl) fun x15_5 h8 => ?_
  refine dn ?_
  refine CV.cond h8 rfl (fun e h9 => ?_) (fun e h9 => ?_)
  ·
   clear h6 h7 h8
   subst e
   refine CV.skip ?_
   refine PV.thenN ?_
   refine CV.seq ?_
   refine CV.block ?_
   refine CV.seq ?_
   refine CV.regionM [(0, .anywhere), (1, .anywhere), (2, .anywhere), (3, .held), (4, .anywhere), (5, .anywhere), (6, .anywhere), (7, .held), (8, .held), (9, .held)] rfl (fun c a a' w hd hq => PanicOk.root (P := Tryz.prog) (fn := Tryz.f28) (w0 := w0) (base := base) (E := envE) (ro := ro) (r := r) (T' := T') (n' := n') (ρ0 := ρ0) c a a' w hd hq) (by kernel_rfl) ?_
   refine MV.step0 (i := 0) rfl (VAL.move rfl) rfl rfl rfl ?_
   refine MV.step0 (i := 1) rfl (VAL.move rfl) rfl rfl rfl ?_
   refine MV.lift0 (i := 2) rfl (V.ia h9 rfl rfl Rnf.el46) rfl rfl rfl fun x20_6 h10 => ?_
   refine MV.lift1 (i := 3) rfl (fun _ z => z) (V.ld hS h10 rfl Rnf.one9) rfl rfl rfl [] (by kernel_rfl) fun x21_7 h11 => ?_
   refine MV.step0 (i := 4) rfl (VAL.move rfl) rfl rfl rfl ?_
   refine MV.step0 (i := 5) rfl (VAL.move rfl) rfl rfl rfl ?_
   refine MV.lift0 (i := 6) rfl (V.ia h11 rfl rfl Rnf.el46) rfl rfl rfl fun x24_8 h12 => ?_
   refine MV.lift1 (i := 7) rfl (fun _ z => z) (V.ld hS h12 rfl Rnf.one9) rfl rfl rfl [3] (by kernel_rfl) fun x25_9 h13 => ?_
   refine MV.lift1 (i := 8) rfl (fun _ z => z) (V.eqS h13 rfl rfl) rfl rfl rfl [] (by kernel_rfl) fun x26_10 h14 => ?_
   refine MV.step1 (i := 9) rfl (fun _ z => z) (VAL.assign rfl) rfl rfl rfl [] (by kernel_rfl) ?_
   refine mdn ?_
   refine sr ?_
   refine mv ?_
   refine vy (V.not h14 rfl) fun x28_11 h15 => ?_
   refine dn ?_
   refine CV.cond h15 rfl (fun e h16 => ?_) (fun e h16 => ?_)
   ·
    clear h9 h10 h11 h12 h13 h14 h15
    subst e
    cases h16
   ·
    clear h9 h10 h11 h12 h13 h14 h15
    subst e
    refine CV.skip ?_
    refine PV.blockN ?_
    refine PV.thenN ?_
    refine CV.region ?_
    refine mv ?_
    refine vy (V.add h16 rfl rfl) fun x17_12 h17 => ?_
    refine as_ ?_
    refine LV.done ?_
    exact pb4 hS h17 ⟨rfl, rfl, rfl, rfl, trivial⟩
  ·
   clear h6 h7 h8
   subst e
   refine CV.exit ?_
   refine PV.thenE ?_
   refine PV.thenE ?_
   refine PV.blockE ?_
   refine PV.thenN ?_
   refine sr ?_
   refine as_ ?_
   refine dn ?_
   refine CV.ret ?_
   cases h9
   exact PV.ret (by simp) Tryz.results28 hS (RS.tmp rfl RS.nil) rfl

end Go.Proofs.YtdepmlcnllofiaaGreatDoor.Rn
