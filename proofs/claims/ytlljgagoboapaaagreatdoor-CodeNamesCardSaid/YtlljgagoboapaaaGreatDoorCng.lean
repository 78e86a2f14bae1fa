/-
  Proved here: plain functions that do what the program's functions do, each with its proof.
-/
import Derived.Test.YtlljgagoboapaaaGreatDoorCne
namespace Go.Proofs.YtlljgagoboapaaaGreatDoor.Cn
open Go.EY Go.EX Go.SX Go.RowKit
noncomputable def g200_k9 (ro : List HT) (lp5 : AV → AV → AV → AV → AV → AV → AV → HT → Nat → R) (lp8 : AV → AV → AV → AV → AV → AV → AV → HT → Nat → R) (y0 y1 y4 y10 y11 y12 y13 y139 : AV) (T13 : HT) (n13 : Nat) : R :=
 condK 2000069 y139
 (
  subK Tryz.prog 3 (.tmp 140) (.const (.int .i64 (.ofNat 1))) 2000071 y13 (.lit (.int .i64 (.ofNat 1))) fun x141_21 =>
  lp8 y0 y1 y4 y10 y11 y12 x141_21 T13 n13
 )
 (
  gtK Tryz.prog 3 (.tmp 142) (.tmp 143) 2000075 y12 y13 fun x144_22 =>
  condK 2000076 x144_22
  (
   iaK 2000083 y0 y1 3 fun x169_23 =>
   ldAK 2000084 T13 ro x169_23 3 fun x170_24 =>
   iaK 2000087 y0 y13 3 fun x173_25 =>
   ldAK 2000088 T13 ro x173_25 3 fun x174_26 =>
   iaK 2000089 y0 y13 3 fun x175_27 =>
   stAK 2000090 T13 x175_27 x170_24 3 fun T14 =>
   iaK 2000091 y0 y1 3 fun x176_28 =>
   stAK 2000092 T14 x176_28 x174_26 3 fun T15 =>
   .ok (.val (.tup [y13, (.lit (.bool false))])) T15 n13
  )
  (
   iaK 2000102 y0 y13 3 fun x151_29 =>
   ldAK 2000103 T13 ro x151_29 3 fun x152_30 =>
   iaK 2000106 y0 y12 3 fun x155_31 =>
   ldAK 2000107 T13 ro x155_31 3 fun x156_32 =>
   iaK 2000108 y0 y12 3 fun x157_33 =>
   stAK 2000109 T13 x157_33 x152_30 3 fun T16 =>
   iaK 2000110 y0 y13 3 fun x158_34 =>
   stAK 2000111 T16 x158_34 x156_32 3 fun T17 =>
   addK Tryz.prog 3 (.tmp 159) (.const (.int .i64 (.ofNat 1))) 2000113 y12 (.lit (.int .i64 (.ofNat 1))) fun x160_35 =>
   subK Tryz.prog 3 (.tmp 161) (.const (.int .i64 (.ofNat 1))) 2000116 y13 (.lit (.int .i64 (.ofNat 1))) fun x162_36 =>
   lp5 y0 y1 y4 y10 y11 x160_35 x162_36 T17 n13
  )
 )
noncomputable def g200_b8 (ro : List HT) (lp5 : AV → AV → AV → AV → AV → AV → AV → HT → Nat → R) (lp8 : AV → AV → AV → AV → AV → AV → AV → HT → Nat → R) (y0 y1 y4 y10 y11 y12 y13 : AV) (T12 : HT) (n12 : Nat) : R :=
 leK Tryz.prog 3 (.tmp 123) (.tmp 124) 2000120 y12 y13 fun x125_37 =>
 condK 2000122 x125_37
 (
  iaK 2000126 y0 y13 3 fun x130_38 =>
  ldAK 2000127 T12 ro x130_38 3 fun x131_39 =>
  iaK 2000130 y0 y1 3 fun x134_40 =>
  ldAK 2000131 T12 ro x134_40 3 fun x135_41 =>
  dynK 2000132 y4 fun f p q => callK (scc3 4000 f ro (p ++ ([x131_39, x135_41] ++ q)) T12 n12) fun x136_42 T18 n18 =>
  ltK Tryz.prog 3 (.tmp 136) (.const (.int .i64 (.ofNat 0))) 2000133 x136_42 (.lit (.int .i64 (.ofNat 0))) fun x137_43 =>
  notK 2000134 x137_43 fun x138_44 =>
  g200_k9 ro lp5 lp8 y0 y1 y4 y10 y11 y12 y13 x138_44 T18 n18
 )
 (
  g200_k9 ro lp5 lp8 y0 y1 y4 y10 y11 y12 y13 (.lit (.bool false)) T12 n12
 )
noncomputable def g200_k7 (ro : List HT) (lp5 : AV → AV → AV → AV → AV → AV → AV → HT → Nat → R) (lp6 : AV → AV → AV → AV → AV → AV → AV → HT → Nat → R) (y0 y1 y4 y10 y11 y12 y13 y120 : AV) (T11 : HT) (n11 : Nat) : R :=
 condK 2000064 y120
 (
  addK Tryz.prog 3 (.tmp 121) (.const (.int .i64 (.ofNat 1))) 2000066 y12 (.lit (.int .i64 (.ofNat 1))) fun x122_20 =>
  lp6 y0 y1 y4 y10 y11 x122_20 y13 T11 n11
 )
 (
  lpf7 2000068 (g200_b8 ro lp5) 100000 y0 y1 y4 y10 y11 y12 y13 T11 n11
 )
noncomputable def g200_b6 (ro : List HT) (lp5 : AV → AV → AV → AV → AV → AV → AV → HT → Nat → R) (lp6 : AV → AV → AV → AV → AV → AV → AV → HT → Nat → R) (y0 y1 y4 y10 y11 y12 y13 : AV) (T10 : HT) (n10 : Nat) : R :=
 leK Tryz.prog 3 (.tmp 105) (.tmp 106) 2000139 y12 y13 fun x107_45 =>
 condK 2000141 x107_45
 (
  iaK 2000145 y0 y12 3 fun x112_46 =>
  ldAK 2000146 T10 ro x112_46 3 fun x113_47 =>
  iaK 2000149 y0 y1 3 fun x116_48 =>
  ldAK 2000150 T10 ro x116_48 3 fun x117_49 =>
  dynK 2000151 y4 fun f p q => callK (scc3 4000 f ro (p ++ ([x113_47, x117_49] ++ q)) T10 n10) fun x118_50 T19 n19 =>
  ltK Tryz.prog 3 (.tmp 118) (.const (.int .i64 (.ofNat 0))) 2000152 x118_50 (.lit (.int .i64 (.ofNat 0))) fun x119_51 =>
  g200_k7 ro lp5 lp6 y0 y1 y4 y10 y11 y12 y13 x119_51 T19 n19
 )
 (
  g200_k7 ro lp5 lp6 y0 y1 y4 y10 y11 y12 y13 (.lit (.bool false)) T10 n10
 )
noncomputable def g200_b5 (ro : List HT) (lp5 : AV → AV → AV → AV → AV → AV → AV → HT → Nat → R) (y0 y1 y4 y10 y11 y12 y13 : AV) (T9 : HT) (n9 : Nat) : R :=
 lpf7 2000063 (g200_b6 ro lp5) 100000 y0 y1 y4 y10 y11 y12 y13 T9 n9
noncomputable def g200_k4 (ro : List HT) (lp3 : AV → AV → AV → AV → AV → AV → AV → HT → Nat → R) (y0 y1 y4 y10 y11 y12 y13 y66 : AV) (T6 : HT) (n6 : Nat) : R :=
 condK 2000031 y66
 (
  subK Tryz.prog 3 (.tmp 67) (.const (.int .i64 (.ofNat 1))) 2000033 y13 (.lit (.int .i64 (.ofNat 1))) fun x68_10 =>
  lp3 y0 y1 y4 y10 y11 y12 x68_10 T6 n6
 )
 (
  gtK Tryz.prog 3 (.tmp 69) (.tmp 70) 2000037 y12 y13 fun x71_11 =>
  condK 2000038 x71_11
  (
   .bad 2000039
  )
  (
   iaK 2000046 y0 y13 3 fun x93_12 =>
   ldAK 2000047 T6 ro x93_12 3 fun x94_13 =>
   iaK 2000050 y0 y12 3 fun x97_14 =>
   ldAK 2000051 T6 ro x97_14 3 fun x98_15 =>
   iaK 2000052 y0 y12 3 fun x99_16 =>
   stAK 2000053 T6 x99_16 x94_13 3 fun T7 =>
   iaK 2000054 y0 y13 3 fun x100_17 =>
   stAK 2000055 T7 x100_17 x98_15 3 fun T8 =>
   addK Tryz.prog 3 (.tmp 101) (.const (.int .i64 (.ofNat 1))) 2000057 y12 (.lit (.int .i64 (.ofNat 1))) fun x102_18 =>
   subK Tryz.prog 3 (.tmp 103) (.const (.int .i64 (.ofNat 1))) 2000060 y13 (.lit (.int .i64 (.ofNat 1))) fun x104_19 =>
   lpf7 2000062 (g200_b5 ro) 100000 y0 y1 y4 y10 y11 x102_18 x104_19 T8 n6
  )
 )
noncomputable def g200_b3 (ro : List HT) (lp3 : AV → AV → AV → AV → AV → AV → AV → HT → Nat → R) (y0 y1 y4 y10 y11 y12 y13 : AV) (T5 : HT) (n5 : Nat) : R :=
 leK Tryz.prog 3 (.tmp 50) (.tmp 51) 2000157 y12 y13 fun x52_52 =>
 condK 2000159 x52_52
 (
  iaK 2000163 y0 y13 3 fun x57_53 =>
  ldAK 2000164 T5 ro x57_53 3 fun x58_54 =>
  iaK 2000167 y0 y1 3 fun x61_55 =>
  ldAK 2000168 T5 ro x61_55 3 fun x62_56 =>
  dynK 2000169 y4 fun f p q => callK (scc3 4000 f ro (p ++ ([x58_54, x62_56] ++ q)) T5 n5) fun x63_57 T20 n20 =>
  ltK Tryz.prog 3 (.tmp 63) (.const (.int .i64 (.ofNat 0))) 2000170 x63_57 (.lit (.int .i64 (.ofNat 0))) fun x64_58 =>
  notK 2000171 x64_58 fun x65_59 =>
  g200_k4 ro lp3 y0 y1 y4 y10 y11 y12 y13 x65_59 T20 n20
 )
 (
  g200_k4 ro lp3 y0 y1 y4 y10 y11 y12 y13 (.lit (.bool false)) T5 n5
 )
noncomputable def g200_k2 (ro : List HT) (lp1 : AV → AV → AV → AV → AV → AV → AV → HT → Nat → R) (y0 y1 y4 y10 y11 y12 y13 y47 : AV) (T4 : HT) (n4 : Nat) : R :=
 condK 2000026 y47
 (
  addK Tryz.prog 3 (.tmp 48) (.const (.int .i64 (.ofNat 1))) 2000028 y12 (.lit (.int .i64 (.ofNat 1))) fun x49_9 =>
  lp1 y0 y1 y4 y10 y11 x49_9 y13 T4 n4
 )
 (
  lpf7 2000030 (g200_b3 ro) 100000 y0 y1 y4 y10 y11 y12 y13 T4 n4
 )
noncomputable def g200_b1 (ro : List HT) (lp1 : AV → AV → AV → AV → AV → AV → AV → HT → Nat → R) (y0 y1 y4 y10 y11 y12 y13 : AV) (T3 : HT) (n3 : Nat) : R :=
 leK Tryz.prog 3 (.tmp 32) (.tmp 33) 2000176 y12 y13 fun x34_60 =>
 condK 2000178 x34_60
 (
  iaK 2000182 y0 y12 3 fun x39_61 =>
  ldAK 2000183 T3 ro x39_61 3 fun x40_62 =>
  iaK 2000186 y0 y1 3 fun x43_63 =>
  ldAK 2000187 T3 ro x43_63 3 fun x44_64 =>
  dynK 2000188 y4 fun f p q => callK (scc3 4000 f ro (p ++ ([x40_62, x44_64] ++ q)) T3 n3) fun x45_65 T21 n21 =>
  ltK Tryz.prog 3 (.tmp 45) (.const (.int .i64 (.ofNat 0))) 2000189 x45_65 (.lit (.int .i64 (.ofNat 0))) fun x46_66 =>
  g200_k2 ro lp1 y0 y1 y4 y10 y11 y12 y13 x46_66 T21 n21
 )
 (
  g200_k2 ro lp1 y0 y1 y4 y10 y11 y12 y13 (.lit (.bool false)) T3 n3
 )
noncomputable def g200 (ro : List HT) (a0 a1 a2 a3 a4 : AV) (T : HT) (nx : Nat) : R :=
 iaK 2000009 a0 a3 3 fun x20_1 =>
 ldAK 2000010 T ro x20_1 3 fun x21_2 =>
 iaK 2000013 a0 a1 3 fun x24_3 =>
 ldAK 2000014 T ro x24_3 3 fun x25_4 =>
 iaK 2000015 a0 a1 3 fun x26_5 =>
 stAK 2000016 T x26_5 x21_2 3 fun T1 =>
 iaK 2000017 a0 a3 3 fun x27_6 =>
 stAK 2000018 T1 x27_6 x25_4 3 fun T2 =>
 addK Tryz.prog 3 (.tmp 28) (.const (.int .i64 (.ofNat 1))) 2000020 a1 (.lit (.int .i64 (.ofNat 1))) fun x29_7 =>
 subK Tryz.prog 3 (.tmp 30) (.const (.int .i64 (.ofNat 1))) 2000022 a2 (.lit (.int .i64 (.ofNat 1))) fun x31_8 =>
 lpf7 2000025 (g200_b1 ro) 100000 a0 a1 a4 (.lit (.int .i64 (.ofNat 0))) (.lit (.bool false)) x29_7 x31_8 T2 nx
theorem g200_ok (ro : List HT) (a0 a1 a2 a3 a4 : AV) (T : HT) (nx : Nat) : GOk Tryz.prog envE 200 [a0, a1, a2, a3, a4] ro T nx (g200 ro a0 a1 a2 a3 a4 T nx) := by
 refine GOk.of_body Tryz.func200 rfl Tryz.ntmps200 (by kernel_rfl) rfl fun r T' n' h1 w0 base ρ0 its hS hP => ?_
 have X : CtxW envE ρ0 ro r T' n' := trivial
 unfold g200 at h1
 refine sr ?_
 refine as_ ?_
 refine as_ ?_
 refine dn ?_
 refine CV.seq ?_
 refine CV.regionM [(0, .anywhere), (1, .anywhere), (2, .anywhere), (3, .anywhere), (4, .anywhere), (5, .anywhere), (6, .anywhere), (7, .held), (8, .anywhere), (9, .anywhere), (10, .anywhere), (11, .held), (12, .held), (13, .alone), (14, .alone), (15, .alone)] rfl (fun c a a' w hd hq => PanicOk.root (P := Tryz.prog) (fn := Tryz.f200) (w0 := w0) (base := base) (E := envE) (ro := ro) (r := r) (T' := T') (n' := n') (ρ0 := ρ0) c a a' w hd hq) (by kernel_rfl) ?_
 refine MV.step0 (i := 0) rfl (VAL.move rfl) rfl rfl rfl ?_
 refine MV.step0 (i := 1) rfl (VAL.move rfl) rfl rfl rfl ?_
 refine MV.step0 (i := 2) rfl (VAL.move rfl) rfl rfl rfl ?_
 refine MV.step0 (i := 3) rfl (VAL.move rfl) rfl rfl rfl ?_
 refine MV.step0 (i := 4) rfl (VAL.move rfl) rfl rfl rfl ?_
 refine MV.step0 (i := 5) rfl (VAL.move rfl) rfl rfl rfl ?_
 refine MV.lift0 (i := 6) rfl (V.ia h1 rfl rfl Cnf.el155) rfl rfl rfl fun x20_1 h2 => ?_
 refine MV.lift1 (i := 7) rfl (fun _ z => z) (V.ldA hS h2 rfl Cnf.agg166) rfl rfl rfl [] (by kernel_rfl) fun x21_2 h3 => ?_
 refine MV.step0 (i := 8) rfl (VAL.move rfl) rfl rfl rfl ?_
 refine MV.step0 (i := 9) rfl (VAL.move rfl) rfl rfl rfl ?_
 refine MV.lift0 (i := 10) rfl (V.ia h3 rfl rfl Cnf.el155) rfl rfl rfl fun x24_3 h4 => ?_
 refine MV.lift1 (i := 11) rfl (fun _ z => z) (V.ldA hS h4 rfl Cnf.agg166) rfl rfl rfl [7] (by kernel_rfl) fun x25_4 h5 => ?_
 refine MV.lift1 (i := 12) rfl (fun _ z => z) (V.ia h5 rfl rfl Cnf.el155) rfl rfl rfl [] (by kernel_rfl) fun x26_5 h6 => ?_
 refine MV.force (i := 13) rfl ?_
 refine LV.stA hS h6 rfl rfl rfl Cnf.agg166 rfl rfl rfl fun T1 its h7 hS => ?_
 refine LV.nextM [] (by kernel_rfl) (fun z => absurd rfl z) ?_
 refine MV.force (i := 14) rfl ?_
 refine vy (V.ia h7 rfl rfl Cnf.el155) fun x27_6 h8 => ?_
 refine LV.nextM [] (by kernel_rfl) (fun z => absurd rfl z) ?_
 refine MV.force (i := 15) rfl ?_
 refine LV.stA hS h8 rfl rfl rfl Cnf.agg166 rfl rfl rfl fun T2 its h9 hS => ?_
 refine LV.nextM [] (by kernel_rfl) (fun z => absurd rfl z) ?_
 refine mdn ?_
 refine sr ?_
 refine mv ?_
 refine vy (V.add h9 rfl rfl) fun x29_7 h10 => ?_
 refine mv ?_
 refine vy (V.sub h10 rfl rfl) fun x31_8 h11 => ?_
 refine as_ ?_
 refine as_ ?_
 refine dn ?_
 refine CV.seq ?_
 refine CV.block ?_
 refine cl7 X 0 1 4 10 11 12 13 [] hS h11 ⟨rfl, rfl, rfl, rfl, rfl, rfl, rfl, trivial⟩ ?_
 intro f1 y0 y1 y4 y10 y11 y12 y13 T3 n3 ρ its hS h12
 unfold g200_b1 at h12
 clear h1 h2 h3 h4 h5 h6 h7 h8 h9 h10 h11
 refine CV.seq ?_
 refine cs8 X 0 1 4 10 11 12 13 47 [] (g200_k2 ro (lpf7 2000025 (g200_b1 ro) f1)) ?_ ?_
 ·
  refine CV.regionM [(0, .anywhere), (1, .anywhere), (2, .anywhere), (3, .anywhere), (4, .anywhere), (5, .anywhere), (6, .anywhere), (7, .anywhere), (8, .held), (9, .anywhere), (10, .anywhere), (11, .anywhere), (12, .held), (13, .alone), (14, .alone), (15, .alone)] rfl (fun c a a' w hd hq => PanicOk.root (P := Tryz.prog) (fn := Tryz.f200) (w0 := w0) (base := base) (E := envE) (ro := ro) (r := r) (T' := T') (n' := n') (ρ0 := ρ0) c a a' w hd hq) (by kernel_rfl) ?_
  refine MV.step0 (i := 0) rfl (VAL.move rfl) rfl rfl rfl ?_
  refine MV.step0 (i := 1) rfl (VAL.move rfl) rfl rfl rfl ?_
  refine MV.lift0 (i := 2) rfl (V.le h12 rfl rfl) rfl rfl rfl fun x34_60 h87 => ?_
  refine MV.step0 (i := 3) rfl (VAL.move rfl) rfl rfl rfl ?_
  rcases condK_inv h87 with ⟨e, h88⟩ | ⟨e, h88⟩
  ·
   clear h12 h87
   subst e
   refine MV.step0 (i := 4) rfl (VAL.move rfl) rfl rfl rfl ?_
   refine MV.step0 (i := 5) rfl (VAL.move rfl) rfl rfl rfl ?_
   refine MV.step0 (i := 6) rfl (VAL.move rfl) rfl rfl rfl ?_
   refine MV.lift0 (i := 7) rfl (V.ia h88 rfl rfl Cnf.el155) rfl rfl rfl fun x39_61 h89 => ?_
   refine MV.lift1 (i := 8) rfl (fun _ z => z) (V.ldA hS h89 rfl Cnf.agg166) rfl rfl rfl [] (by kernel_rfl) fun x40_62 h90 => ?_
   refine MV.step0 (i := 9) rfl (VAL.move rfl) rfl rfl rfl ?_
   refine MV.step0 (i := 10) rfl (VAL.move rfl) rfl rfl rfl ?_
   refine MV.lift0 (i := 11) rfl (V.ia h90 rfl rfl Cnf.el155) rfl rfl rfl fun x43_63 h91 => ?_
   refine MV.lift1 (i := 12) rfl (fun _ z => z) (V.ldA hS h91 rfl Cnf.agg166) rfl rfl rfl [8] (by kernel_rfl) fun x44_64 h92 => ?_
   refine MV.force (i := 13) rfl ?_
   refine LV.callD (G := fun f gs => scc3 4000 f ro gs T3 n3) (qs := [x40_62, x44_64]) hS h92 (fun f gs => scc3_ok _ _ _ _ _ _) hP rfl rfl rfl rfl rfl rfl rfl fun x45_65 T21 n21 h93 ρ its hS => ?_
   refine LV.nextM [] (by kernel_rfl) (fun z => absurd rfl z) ?_
   refine MV.force (i := 14) rfl ?_
   refine vy (V.lt h93 rfl rfl) fun x46_66 h94 => ?_
   refine LV.nextM [] (by kernel_rfl) (fun z => absurd rfl z) ?_
   refine MV.force (i := 15) rfl ?_
   refine pu ?_
   refine LV.nextM [] (by kernel_rfl) (fun z => absurd rfl z) ?_
   refine MV.done ?_
   exact pa8 hS h94 ⟨rfl, rfl, rfl, rfl, rfl, rfl, rfl, rfl, trivial⟩
  ·
   clear h12 h87
   subst e
   refine MV.skip0 (i := 4) rfl rfl rfl rfl ?_
   refine MV.skip0 (i := 5) rfl rfl rfl rfl ?_
   refine MV.skip0 (i := 6) rfl rfl rfl rfl ?_
   refine MV.skip0 (i := 7) rfl rfl rfl rfl ?_
   refine MV.skip1 (i := 8) rfl (fun _ z => z) rfl rfl rfl [] (by kernel_rfl) ?_
   refine MV.skip0 (i := 9) rfl rfl rfl rfl ?_
   refine MV.skip0 (i := 10) rfl rfl rfl rfl ?_
   refine MV.skip0 (i := 11) rfl rfl rfl rfl ?_
   refine MV.skip1 (i := 12) rfl (fun _ z => z) rfl rfl rfl [8] (by kernel_rfl) ?_
   refine MV.force (i := 13) rfl ?_
   refine sk ?_
   refine LV.nextM [] (by kernel_rfl) (fun z => absurd rfl z) ?_
   refine MV.force (i := 14) rfl ?_
   refine sk ?_
   refine LV.nextM [] (by kernel_rfl) (fun z => absurd rfl z) ?_
   refine MV.force (i := 15) rfl ?_
   refine pu ?_
   refine LV.nextM [] (by kernel_rfl) (fun z => absurd rfl z) ?_
   refine MV.done ?_
   exact pa8 hS h88 ⟨rfl, rfl, rfl, rfl, rfl, rfl, rfl, rfl, trivial⟩
 ·
  intro y0 y1 y4 y10 y11 y12 y13 y47 T4 n4 ρ its hS h13
  unfold g200_k2 at h13
  clear h12
  refine CV.cond h13 rfl (fun e h14 => ?_) (fun e h14 => ?_)
  ·
   clear h13
   subst e
   refine CV.skip ?_
   refine PV.thenN ?_
   refine CV.block ?_
   refine CV.region ?_
   refine mv ?_
   refine vy (V.add h14 rfl rfl) fun x49_9 h15 => ?_
   refine as_ ?_
   refine LV.done ?_
   refine PV.blockN ?_
   exact pb7 hS h15 ⟨rfl, rfl, rfl, rfl, rfl, rfl, rfl, trivial⟩
  ·
   clear h13
   subst e
   refine CV.exit ?_
   refine PV.thenE ?_
   refine PV.thenE ?_
   refine PV.blockE ?_
   refine PV.thenN ?_
   refine CV.seq ?_
   refine CV.block ?_
   refine cl7 X 0 1 4 10 11 12 13 [] hS h14 ⟨rfl, rfl, rfl, rfl, rfl, rfl, rfl, trivial⟩ ?_
   intro f3 y0 y1 y4 y10 y11 y12 y13 T5 n5 ρ its hS h16
   unfold g200_b3 at h16
   clear h14
   refine CV.seq ?_
   refine cs8 X 0 1 4 10 11 12 13 66 [] (g200_k4 ro (lpf7 2000030 (g200_b3 ro) f3)) ?_ ?_
   ·
    refine CV.regionM [(0, .anywhere), (1, .anywhere), (2, .anywhere), (3, .anywhere), (4, .anywhere), (5, .anywhere), (6, .anywhere), (7, .anywhere), (8, .held), (9, .anywhere), (10, .anywhere), (11, .anywhere), (12, .held), (13, .alone), (14, .alone), (15, .alone), (16, .alone)] rfl (fun c a a' w hd hq => PanicOk.root (P := Tryz.prog) (fn := Tryz.f200) (w0 := w0) (base := base) (E := envE) (ro := ro) (r := r) (T' := T') (n' := n') (ρ0 := ρ0) c a a' w hd hq) (by kernel_rfl) ?_
    refine MV.step0 (i := 0) rfl (VAL.move rfl) rfl rfl rfl ?_
    refine MV.step0 (i := 1) rfl (VAL.move rfl) rfl rfl rfl ?_
    refine MV.lift0 (i := 2) rfl (V.le h16 rfl rfl) rfl rfl rfl fun x52_52 h78 => ?_
    refine MV.step0 (i := 3) rfl (VAL.move rfl) rfl rfl rfl ?_
    rcases condK_inv h78 with ⟨e, h79⟩ | ⟨e, h79⟩
    ·
     clear h16 h78
     subst e
     refine MV.step0 (i := 4) rfl (VAL.move rfl) rfl rfl rfl ?_
     refine MV.step0 (i := 5) rfl (VAL.move rfl) rfl rfl rfl ?_
     refine MV.step0 (i := 6) rfl (VAL.move rfl) rfl rfl rfl ?_
     refine MV.lift0 (i := 7) rfl (V.ia h79 rfl rfl Cnf.el155) rfl rfl rfl fun x57_53 h80 => ?_
     refine MV.lift1 (i := 8) rfl (fun _ z => z) (V.ldA hS h80 rfl Cnf.agg166) rfl rfl rfl [] (by kernel_rfl) fun x58_54 h81 => ?_
     refine MV.step0 (i := 9) rfl (VAL.move rfl) rfl rfl rfl ?_
     refine MV.step0 (i := 10) rfl (VAL.move rfl) rfl rfl rfl ?_
     refine MV.lift0 (i := 11) rfl (V.ia h81 rfl rfl Cnf.el155) rfl rfl rfl fun x61_55 h82 => ?_
     refine MV.lift1 (i := 12) rfl (fun _ z => z) (V.ldA hS h82 rfl Cnf.agg166) rfl rfl rfl [8] (by kernel_rfl) fun x62_56 h83 => ?_
     refine MV.force (i := 13) rfl ?_
     refine LV.callD (G := fun f gs => scc3 4000 f ro gs T5 n5) (qs := [x58_54, x62_56]) hS h83 (fun f gs => scc3_ok _ _ _ _ _ _) hP rfl rfl rfl rfl rfl rfl rfl fun x63_57 T20 n20 h84 ρ its hS => ?_
     refine LV.nextM [] (by kernel_rfl) (fun z => absurd rfl z) ?_
     refine MV.force (i := 14) rfl ?_
     refine vy (V.lt h84 rfl rfl) fun x64_58 h85 => ?_
     refine LV.nextM [] (by kernel_rfl) (fun z => absurd rfl z) ?_
     refine MV.force (i := 15) rfl ?_
     refine vy (V.not h85 rfl) fun x65_59 h86 => ?_
     refine LV.nextM [] (by kernel_rfl) (fun z => absurd rfl z) ?_
     refine MV.force (i := 16) rfl ?_
     refine pu ?_
     refine LV.nextM [] (by kernel_rfl) (fun z => absurd rfl z) ?_
     refine MV.done ?_
     exact pa8 hS h86 ⟨rfl, rfl, rfl, rfl, rfl, rfl, rfl, rfl, trivial⟩
    ·
     clear h16 h78
     subst e
     refine MV.skip0 (i := 4) rfl rfl rfl rfl ?_
     refine MV.skip0 (i := 5) rfl rfl rfl rfl ?_
     refine MV.skip0 (i := 6) rfl rfl rfl rfl ?_
     refine MV.skip0 (i := 7) rfl rfl rfl rfl ?_
     refine MV.skip1 (i := 8) rfl (fun _ z => z) rfl rfl rfl [] (by kernel_rfl) ?_
     refine MV.skip0 (i := 9) rfl rfl rfl rfl ?_
     refine MV.skip0 (i := 10) rfl rfl rfl rfl ?_
     refine MV.skip0 (i := 11) rfl rfl rfl rfl ?_
     refine MV.skip1 (i := 12) rfl (fun _ z => z) rfl rfl rfl [8] (by kernel_rfl) ?_
     refine MV.force (i := 13) rfl ?_
     refine sk ?_
     refine LV.nextM [] (by kernel_rfl) (fun z => absurd rfl z) ?_
     refine MV.force (i := 14) rfl ?_
     refine sk ?_
     refine LV.nextM [] (by kernel_rfl) (fun z => absurd rfl z) ?_
     refine MV.force (i := 15) rfl ?_
     refine sk ?_
     refine LV.nextM [] (by kernel_rfl) (fun z => absurd rfl z) ?_
     refine MV.force (i := 16) rfl ?_
     refine pu ?_
     refine LV.nextM [] (by kernel_rfl) (fun z => absurd rfl z) ?_
     refine MV.done ?_
     exact pa8 hS h79 ⟨rfl, rfl, rfl, rfl, rfl, rfl, rfl, rfl, trivial⟩
   ·
    intro y0 y1 y4 y10 y11 y12 y13 y66 T6 n6 ρ its hS h17
    unfold g200_k4 at h17
    clear h16
    refine CV.cond h17 rfl (fun e h18 => ?_) (fun e h18 => ?_)
    ·
     clear h17
     subst e
     refine CV.skip ?_
     refine PV.thenN ?_
     refine CV.block ?_
     refine CV.region ?_
     refine mv ?_
     refine vy (V.sub h18 rfl rfl) fun x68_10 h19 => ?_
     refine as_ ?_
     refine LV.done ?_
     refine PV.blockN ?_
     exact pb7 hS h19 ⟨rfl, rfl, rfl, rfl, rfl, rfl, rfl, trivial⟩
    ·
     clear h17
     subst e
     refine CV.exit ?_
     refine PV.thenE ?_
     refine PV.thenE ?_
     refine PV.blockE ?_
     refine PV.thenN ?_
     refine CV.seq ?_
     refine sr ?_
     refine mv ?_
     refine mv ?_
     refine vy (V.gt h18 rfl rfl) fun x71_11 h20 => ?_
     refine dn ?_
     refine CV.cond h20 rfl (fun e h21 => ?_) (fun e h21 => ?_)
     ·
      clear h18 h20
      subst e
      cases h21
     ·
      clear h18 h20
      subst e
      refine CV.skip ?_
      refine PV.thenN ?_
      refine CV.seq ?_
      refine CV.regionM [(0, .anywhere), (1, .anywhere), (2, .anywhere), (3, .anywhere), (4, .anywhere), (5, .anywhere), (6, .anywhere), (7, .held), (8, .anywhere), (9, .anywhere), (10, .anywhere), (11, .held), (12, .held), (13, .alone), (14, .alone), (15, .alone)] rfl (fun c a a' w hd hq => PanicOk.root (P := Tryz.prog) (fn := Tryz.f200) (w0 := w0) (base := base) (E := envE) (ro := ro) (r := r) (T' := T') (n' := n') (ρ0 := ρ0) c a a' w hd hq) (by kernel_rfl) ?_
      refine MV.step0 (i := 0) rfl (VAL.move rfl) rfl rfl rfl ?_
      refine MV.step0 (i := 1) rfl (VAL.move rfl) rfl rfl rfl ?_
      refine MV.step0 (i := 2) rfl (VAL.move rfl) rfl rfl rfl ?_
      refine MV.step0 (i := 3) rfl (VAL.move rfl) rfl rfl rfl ?_
      refine MV.step0 (i := 4) rfl (VAL.move rfl) rfl rfl rfl ?_
      refine MV.step0 (i := 5) rfl (VAL.move rfl) rfl rfl rfl ?_
      refine MV.lift0 (i := 6) rfl (V.ia h21 rfl rfl Cnf.el155) rfl rfl rfl fun x93_12 h22 => ?_
      refine MV.lift1 (i := 7) rfl (fun _ z => z) (V.ldA hS h22 rfl Cnf.agg166) rfl rfl rfl [] (by kernel_rfl) fun x94_13 h23 => ?_
      refine MV.step0 (i := 8) rfl (VAL.move rfl) rfl rfl rfl ?_
      refine MV.step0 (i := 9) rfl (VAL.move rfl) rfl rfl rfl ?_
      refine MV.lift0 (i := 10) rfl (V.ia h23 rfl rfl Cnf.el155) rfl rfl rfl fun x97_14 h24 => ?_
      refine MV.lift1 (i := 11) rfl (fun _ z => z) (V.ldA hS h24 rfl Cnf.agg166) rfl rfl rfl [7] (by kernel_rfl) fun x98_15 h25 => ?_
      refine MV.lift1 (i := 12) rfl (fun _ z => z) (V.ia h25 rfl rfl Cnf.el155) rfl rfl rfl [] (by kernel_rfl) fun x99_16 h26 => ?_
      refine MV.force (i := 13) rfl ?_
      refine LV.stA hS h26 rfl rfl rfl Cnf.agg166 rfl rfl rfl fun T7 its h27 hS => ?_
      refine LV.nextM [] (by kernel_rfl) (fun z => absurd rfl z) ?_
      refine MV.force (i := 14) rfl ?_
      refine vy (V.ia h27 rfl rfl Cnf.el155) fun x100_17 h28 => ?_
      refine LV.nextM [] (by kernel_rfl) (fun z => absurd rfl z) ?_
      refine MV.force (i := 15) rfl ?_
      refine LV.stA hS h28 rfl rfl rfl Cnf.agg166 rfl rfl rfl fun T8 its h29 hS => ?_
      refine LV.nextM [] (by kernel_rfl) (fun z => absurd rfl z) ?_
      refine mdn ?_
      refine sr ?_
      refine mv ?_
      refine vy (V.add h29 rfl rfl) fun x102_18 h30 => ?_
      refine as_ ?_
      refine dn ?_
      refine sr ?_
      refine mv ?_
      refine vy (V.sub h30 rfl rfl) fun x104_19 h31 => ?_
      refine as_ ?_
      refine dn ?_
      refine CV.seq ?_
      refine CV.block ?_
      refine cl7 X 0 1 4 10 11 12 13 [] hS h31 ⟨rfl, rfl, rfl, rfl, rfl, rfl, rfl, trivial⟩ ?_
      intro f5 y0 y1 y4 y10 y11 y12 y13 T9 n9 ρ its hS h32
      unfold g200_b5 at h32
      clear h21 h22 h23 h24 h25 h26 h27 h28 h29 h30 h31
      refine CV.block ?_
      refine CV.seq ?_
      refine CV.block ?_
      refine cl7 X 0 1 4 10 11 12 13 [] hS h32 ⟨rfl, rfl, rfl, rfl, rfl, rfl, rfl, trivial⟩ ?_
      intro f6 y0 y1 y4 y10 y11 y12 y13 T10 n10 ρ its hS h33
      unfold g200_b6 at h33
      clear h32
      refine CV.seq ?_
      refine cs8 X 0 1 4 10 11 12 13 120 [] (g200_k7 ro (lpf7 2000062 (g200_b5 ro) f5) (lpf7 2000063 (g200_b6 ro (lpf7 2000062 (g200_b5 ro) f5)) f6)) ?_ ?_
      ·
       refine CV.regionM [(0, .anywhere), (1, .anywhere), (2, .anywhere), (3, .anywhere), (4, .anywhere), (5, .anywhere), (6, .anywhere), (7, .anywhere), (8, .held), (9, .anywhere), (10, .anywhere), (11, .anywhere), (12, .held), (13, .alone), (14, .alone), (15, .alone)] rfl (fun c a a' w hd hq => PanicOk.root (P := Tryz.prog) (fn := Tryz.f200) (w0 := w0) (base := base) (E := envE) (ro := ro) (r := r) (T' := T') (n' := n') (ρ0 := ρ0) c a a' w hd hq) (by kernel_rfl) ?_
       refine MV.step0 (i := 0) rfl (VAL.move rfl) rfl rfl rfl ?_
       refine MV.step0 (i := 1) rfl (VAL.move rfl) rfl rfl rfl ?_
       refine MV.lift0 (i := 2) rfl (V.le h33 rfl rfl) rfl rfl rfl fun x107_45 h70 => ?_
       refine MV.step0 (i := 3) rfl (VAL.move rfl) rfl rfl rfl ?_
       rcases condK_inv h70 with ⟨e, h71⟩ | ⟨e, h71⟩
       ·
        clear h33 h70
        subst e
        refine MV.step0 (i := 4) rfl (VAL.move rfl) rfl rfl rfl ?_
        refine MV.step0 (i := 5) rfl (VAL.move rfl) rfl rfl rfl ?_
        refine MV.step0 (i := 6) rfl (VAL.move rfl) rfl rfl rfl ?_
        refine MV.lift0 (i := 7) rfl (V.ia h71 rfl rfl Cnf.el155) rfl rfl rfl fun x112_46 h72 => ?_
        refine MV.lift1 (i := 8) rfl (fun _ z => z) (V.ldA hS h72 rfl Cnf.agg166) rfl rfl rfl [] (by kernel_rfl) fun x113_47 h73 => ?_
        refine MV.step0 (i := 9) rfl (VAL.move rfl) rfl rfl rfl ?_
        refine MV.step0 (i := 10) rfl (VAL.move rfl) rfl rfl rfl ?_
        refine MV.lift0 (i := 11) rfl (V.ia h73 rfl rfl Cnf.el155) rfl rfl rfl fun x116_48 h74 => ?_
        refine MV.lift1 (i := 12) rfl (fun _ z => z) (V.ldA hS h74 rfl Cnf.agg166) rfl rfl rfl [8] (by kernel_rfl) fun x117_49 h75 => ?_
        refine MV.force (i := 13) rfl ?_
        refine LV.callD (G := fun f gs => scc3 4000 f ro gs T10 n10) (qs := [x113_47, x117_49]) hS h75 (fun f gs => scc3_ok _ _ _ _ _ _) hP rfl rfl rfl rfl rfl rfl rfl fun x118_50 T19 n19 h76 ρ its hS => ?_
        refine LV.nextM [] (by kernel_rfl) (fun z => absurd rfl z) ?_
        refine MV.force (i := 14) rfl ?_
        refine vy (V.lt h76 rfl rfl) fun x119_51 h77 => ?_
        refine LV.nextM [] (by kernel_rfl) (fun z => absurd rfl z) ?_
        refine MV.force (i := 15) rfl ?_
        refine pu ?_
        refine LV.nextM [] (by kernel_rfl) (fun z => absurd rfl z) ?_
        refine MV.done ?_
        exact pa8 hS h77 ⟨rfl, rfl, rfl, rfl, rfl, rfl, rfl, rfl, trivial⟩
       ·
        clear h33 h70
        subst e
        refine MV.skip0 (i := 4) rfl rfl rfl rfl ?_
        refine MV.skip0 (i := 5) rfl rfl rfl rfl ?_
        refine MV.skip0 (i := 6) rfl rfl rfl rfl ?_
        refine MV.skip0 (i := 7) rfl rfl rfl rfl ?_
        refine MV.skip1 (i := 8) rfl (fun _ z => z) rfl rfl rfl [] (by kernel_rfl) ?_
        refine MV.skip0 (i := 9) rfl rfl rfl rfl ?_
        refine MV.skip0 (i := 10) rfl rfl rfl rfl ?_
        refine MV.skip0 (i := 11) rfl rfl rfl rfl ?_
        refine MV.skip1 (i := 12) rfl (fun _ z => z) rfl rfl rfl [8] (by kernel_rfl) ?_
        refine MV.force (i := 13) rfl ?_
        refine sk ?_
        refine LV.nextM [] (by kernel_rfl) (fun z => absurd rfl z) ?_
        refine MV.force (i := 14) rfl ?_
        refine sk ?_
        refine LV.nextM [] (by kernel_rfl) (fun z => absurd rfl z) ?_
        refine MV.force (i := 15) rfl ?_
        refine pu ?_
        refine LV.nextM [] (by kernel_rfl) (fun z => absurd rfl z) ?_
        refine MV.done ?_
        exact pa8 hS h71 ⟨rfl, rfl, rfl, rfl, rfl, rfl, rfl, rfl, trivial⟩
      ·
       intro y0 y1 y4 y10 y11 y12 y13 y120 T11 n11 ρ its hS h34
       unfold g200_k7 at h34
       clear h33
       refine CV.cond h34 rfl (fun e h35 => ?_) (fun e h35 => ?_)
       ·
        clear h34
        subst e
        refine CV.skip ?_
        refine PV.thenN ?_
        refine CV.block ?_
        refine CV.region ?_
        refine mv ?_
        refine vy (V.add h35 rfl rfl) fun x122_20 h36 => ?_
        refine as_ ?_
        refine LV.done ?_
        refine PV.blockN ?_
        exact pb7 hS h36 ⟨rfl, rfl, rfl, rfl, rfl, rfl, rfl, trivial⟩
       ·
        clear h34
        subst e
        refine CV.exit ?_
        refine PV.thenE ?_
        refine PV.thenE ?_
        refine PV.blockE ?_
        refine PV.thenN ?_
        refine CV.seq ?_
        refine CV.block ?_
        refine cl7 X 0 1 4 10 11 12 13 [] hS h35 ⟨rfl, rfl, rfl, rfl, rfl, rfl, rfl, trivial⟩ ?_
        intro f8 y0 y1 y4 y10 y11 y12 y13 T12 n12 ρ its hS h37
        unfold g200_b8 at h37
        clear h35
        refine CV.seq ?_
        refine cs8 X 0 1 4 10 11 12 13 139 [] (g200_k9 ro (lpf7 2000062 (g200_b5 ro) f5) (lpf7 2000068 (g200_b8 ro (lpf7 2000062 (g200_b5 ro) f5)) f8)) ?_ ?_
        ·
         refine CV.regionM [(0, .anywhere), (1, .anywhere), (2, .anywhere), (3, .anywhere), (4, .anywhere), (5, .anywhere), (6, .anywhere), (7, .anywhere), (8, .held), (9, .anywhere), (10, .anywhere), (11, .anywhere), (12, .held), (13, .alone), (14, .alone), (15, .alone), (16, .alone)] rfl (fun c a a' w hd hq => PanicOk.root (P := Tryz.prog) (fn := Tryz.f200) (w0 := w0) (base := base) (E := envE) (ro := ro) (r := r) (T' := T') (n' := n') (ρ0 := ρ0) c a a' w hd hq) (by kernel_rfl) ?_
         refine MV.step0 (i := 0) rfl (VAL.move rfl) rfl rfl rfl ?_
         refine MV.step0 (i := 1) rfl (VAL.move rfl) rfl rfl rfl ?_
         refine MV.lift0 (i := 2) rfl (V.le h37 rfl rfl) rfl rfl rfl fun x125_37 h61 => ?_
         refine MV.step0 (i := 3) rfl (VAL.move rfl) rfl rfl rfl ?_
         rcases condK_inv h61 with ⟨e, h62⟩ | ⟨e, h62⟩
         ·
          clear h37 h61
          subst e
          refine MV.step0 (i := 4) rfl (VAL.move rfl) rfl rfl rfl ?_
          refine MV.step0 (i := 5) rfl (VAL.move rfl) rfl rfl rfl ?_
          refine MV.step0 (i := 6) rfl (VAL.move rfl) rfl rfl rfl ?_
          refine MV.lift0 (i := 7) rfl (V.ia h62 rfl rfl Cnf.el155) rfl rfl rfl fun x130_38 h63 => ?_
          refine MV.lift1 (i := 8) rfl (fun _ z => z) (V.ldA hS h63 rfl Cnf.agg166) rfl rfl rfl [] (by kernel_rfl) fun x131_39 h64 => ?_
          refine MV.step0 (i := 9) rfl (VAL.move rfl) rfl rfl rfl ?_
          refine MV.step0 (i := 10) rfl (VAL.move rfl) rfl rfl rfl ?_
          refine MV.lift0 (i := 11) rfl (V.ia h64 rfl rfl Cnf.el155) rfl rfl rfl fun x134_40 h65 => ?_
          refine MV.lift1 (i := 12) rfl (fun _ z => z) (V.ldA hS h65 rfl Cnf.agg166) rfl rfl rfl [8] (by kernel_rfl) fun x135_41 h66 => ?_
          refine MV.force (i := 13) rfl ?_
          refine LV.callD (G := fun f gs => scc3 4000 f ro gs T12 n12) (qs := [x131_39, x135_41]) hS h66 (fun f gs => scc3_ok _ _ _ _ _ _) hP rfl rfl rfl rfl rfl rfl rfl fun x136_42 T18 n18 h67 ρ its hS => ?_
          refine LV.nextM [] (by kernel_rfl) (fun z => absurd rfl z) ?_
          refine MV.force (i := 14) rfl ?_
          refine vy (V.lt h67 rfl rfl) fun x137_43 h68 => ?_
          refine LV.nextM [] (by kernel_rfl) (fun z => absurd rfl z) ?_
          refine MV.force (i := 15) rfl ?_
          refine vy (V.not h68 rfl) fun x138_44 h69 => ?_
          refine LV.nextM [] (by kernel_rfl) (fun z => absurd rfl z) ?_
          refine MV.force (i := 16) rfl ?_
          refine pu ?_
          refine LV.nextM [] (by kernel_rfl) (fun z => absurd rfl z) ?_
          refine MV.done ?_
          exact pa8 hS h69 ⟨rfl, rfl, rfl, rfl, rfl, rfl, rfl, rfl, trivial⟩
         ·
          clear h37 h61
          subst e
          refine MV.skip0 (i := 4) rfl rfl rfl rfl ?_
          refine MV.skip0 (i := 5) rfl rfl rfl rfl ?_
          refine MV.skip0 (i := 6) rfl rfl rfl rfl ?_
          refine MV.skip0 (i := 7) rfl rfl rfl rfl ?_
          refine MV.skip1 (i := 8) rfl (fun _ z => z) rfl rfl rfl [] (by kernel_rfl) ?_
          refine MV.skip0 (i := 9) rfl rfl rfl rfl ?_
          refine MV.skip0 (i := 10) rfl rfl rfl rfl ?_
          refine MV.skip0 (i := 11) rfl rfl rfl rfl ?_
          refine MV.skip1 (i := 12) rfl (fun _ z => z) rfl rfl rfl [8] (by kernel_rfl) ?_
          refine MV.force (i := 13) rfl ?_
          refine sk ?_
          refine LV.nextM [] (by kernel_rfl) (fun z => absurd rfl z) ?_
          refine MV.force (i := 14) rfl ?_
          refine sk ?_
          refine LV.nextM [] (by kernel_rfl) (fun z => absurd rfl z) ?_
          refine MV.force (i := 15) rfl ?_
          refine sk ?_
          refine LV.nextM [] (by kernel_rfl) (fun z => absurd rfl z) ?_
          refine MV.force (i := 16) rfl ?_
          refine pu ?_
          refine LV.nextM [] (by kernel_rfl) (fun z => absurd rfl z) ?_
          refine MV.done ?_
          exact pa8 hS h62 ⟨rfl, rfl, rfl, rfl, rfl, rfl, rfl, rfl, trivial⟩
        ·
         intro y0 y1 y4 y10 y11 y12 y13 y139 T13 n13 ρ its hS h38
         unfold g200_k9 at h38
         clear h37
         refine CV.cond h38 rfl (fun e h39 => ?_) (fun e h39 => ?_)
         ·
          clear h38
          subst e
          refine CV.skip ?_
          refine PV.thenN ?_
          refine CV.block ?_
          refine CV.region ?_
          refine mv ?_
          refine vy (V.sub h39 rfl rfl) fun x141_21 h40 => ?_
          refine as_ ?_
          refine LV.done ?_
          refine PV.blockN ?_
          exact pb7 hS h40 ⟨rfl, rfl, rfl, rfl, rfl, rfl, rfl, trivial⟩
         ·
          clear h38
          subst e
          refine CV.exit ?_
          refine PV.thenE ?_
          refine PV.thenE ?_
          refine PV.blockE ?_
          refine PV.thenN ?_
          refine CV.seq ?_
          refine sr ?_
          refine mv ?_
          refine mv ?_
          refine vy (V.gt h39 rfl rfl) fun x144_22 h41 => ?_
          refine dn ?_
          refine CV.cond h41 rfl (fun e h42 => ?_) (fun e h42 => ?_)
          ·
           clear h39 h41
           subst e
           refine CV.exit ?_
           refine PV.thenE ?_
           refine PV.blockO rfl ?_
           refine PV.thenE ?_
           refine PV.blockE ?_
           refine PV.thenN ?_
           refine CV.seq ?_
           refine CV.regionM [(0, .anywhere), (1, .anywhere), (2, .anywhere), (3, .anywhere), (4, .anywhere), (5, .anywhere), (6, .anywhere), (7, .held), (8, .anywhere), (9, .anywhere), (10, .anywhere), (11, .held), (12, .held), (13, .alone), (14, .alone), (15, .alone)] rfl (fun c a a' w hd hq => PanicOk.root (P := Tryz.prog) (fn := Tryz.f200) (w0 := w0) (base := base) (E := envE) (ro := ro) (r := r) (T' := T') (n' := n') (ρ0 := ρ0) c a a' w hd hq) (by kernel_rfl) ?_
           refine MV.step0 (i := 0) rfl (VAL.move rfl) rfl rfl rfl ?_
           refine MV.step0 (i := 1) rfl (VAL.move rfl) rfl rfl rfl ?_
           refine MV.step0 (i := 2) rfl (VAL.move rfl) rfl rfl rfl ?_
           refine MV.step0 (i := 3) rfl (VAL.move rfl) rfl rfl rfl ?_
           refine MV.step0 (i := 4) rfl (VAL.move rfl) rfl rfl rfl ?_
           refine MV.step0 (i := 5) rfl (VAL.move rfl) rfl rfl rfl ?_
           refine MV.lift0 (i := 6) rfl (V.ia h42 rfl rfl Cnf.el155) rfl rfl rfl fun x169_23 h43 => ?_
           refine MV.lift1 (i := 7) rfl (fun _ z => z) (V.ldA hS h43 rfl Cnf.agg166) rfl rfl rfl [] (by kernel_rfl) fun x170_24 h44 => ?_
           refine MV.step0 (i := 8) rfl (VAL.move rfl) rfl rfl rfl ?_
           refine MV.step0 (i := 9) rfl (VAL.move rfl) rfl rfl rfl ?_
           refine MV.lift0 (i := 10) rfl (V.ia h44 rfl rfl Cnf.el155) rfl rfl rfl fun x173_25 h45 => ?_
           refine MV.lift1 (i := 11) rfl (fun _ z => z) (V.ldA hS h45 rfl Cnf.agg166) rfl rfl rfl [7] (by kernel_rfl) fun x174_26 h46 => ?_
           refine MV.lift1 (i := 12) rfl (fun _ z => z) (V.ia h46 rfl rfl Cnf.el155) rfl rfl rfl [] (by kernel_rfl) fun x175_27 h47 => ?_
           refine MV.force (i := 13) rfl ?_
           refine LV.stA hS h47 rfl rfl rfl Cnf.agg166 rfl rfl rfl fun T14 its h48 hS => ?_
           refine LV.nextM [] (by kernel_rfl) (fun z => absurd rfl z) ?_
           refine MV.force (i := 14) rfl ?_
           refine vy (V.ia h48 rfl rfl Cnf.el155) fun x176_28 h49 => ?_
           refine LV.nextM [] (by kernel_rfl) (fun z => absurd rfl z) ?_
           refine MV.force (i := 15) rfl ?_
           refine LV.stA hS h49 rfl rfl rfl Cnf.agg166 rfl rfl rfl fun T15 its h50 hS => ?_
           refine LV.nextM [] (by kernel_rfl) (fun z => absurd rfl z) ?_
           refine mdn ?_
           refine sr ?_
           refine mv ?_
           refine as_ ?_
           refine as_ ?_
           refine dn ?_
           refine CV.ret ?_
           cases h50
           exact PV.ret (by simp) Tryz.results200 hS (RS.tmp rfl (RS.tmp rfl RS.nil)) rfl
          ·
           clear h39 h41
           subst e
           refine CV.skip ?_
           refine PV.thenN ?_
           refine CV.seq ?_
           refine CV.regionM [(0, .anywhere), (1, .anywhere), (2, .anywhere), (3, .anywhere), (4, .anywhere), (5, .anywhere), (6, .anywhere), (7, .held), (8, .anywhere), (9, .anywhere), (10, .anywhere), (11, .held), (12, .held), (13, .alone), (14, .alone), (15, .alone)] rfl (fun c a a' w hd hq => PanicOk.root (P := Tryz.prog) (fn := Tryz.f200) (w0 := w0) (base := base) (E := envE) (ro := ro) (r := r) (T' := T') (n' := n') (ρ0 := ρ0) c a a' w hd hq) (by kernel_rfl) ?_
           refine MV.step0 (i := 0) rfl (VAL.move rfl) rfl rfl rfl ?_
           refine MV.step0 (i := 1) rfl (VAL.move rfl) rfl rfl rfl ?_
           refine MV.step0 (i := 2) rfl (VAL.move rfl) rfl rfl rfl ?_
           refine MV.step0 (i := 3) rfl (VAL.move rfl) rfl rfl rfl ?_
           refine MV.step0 (i := 4) rfl (VAL.move rfl) rfl rfl rfl ?_
           refine MV.step0 (i := 5) rfl (VAL.move rfl) rfl rfl rfl ?_
           refine MV.lift0 (i := 6) rfl (V.ia h42 rfl rfl Cnf.el155) rfl rfl rfl fun x151_29 h51 => ?_
           refine MV.lift1 (i := 7) rfl (fun _ z => z) (V.ldA hS h51 rfl Cnf.agg166) rfl rfl rfl [] (by kernel_rfl) fun x152_30 h52 => ?_
           refine MV.step0 (i := 8) rfl (VAL.move rfl) rfl rfl rfl ?_
           refine MV.step0 (i := 9) rfl (VAL.move rfl) rfl rfl rfl ?_
           refine MV.lift0 (i := 10) rfl (V.ia h52 rfl rfl Cnf.el155) rfl rfl rfl fun x155_31 h53 => ?_
           refine MV.lift1 (i := 11) rfl (fun _ z => z) (V.ldA hS h53 rfl Cnf.agg166) rfl rfl rfl [7] (by kernel_rfl) fun x156_32 h54 => ?_
           refine MV.lift1 (i := 12) rfl (fun _ z => z) (V.ia h54 rfl rfl Cnf.el155) rfl rfl rfl [] (by kernel_rfl) fun x157_33 h55 => ?_
           refine MV.force (i := 13) rfl ?_
           refine LV.stA hS h55 rfl rfl rfl Cnf.agg166 rfl rfl rfl fun T16 its h56 hS => ?_
           refine LV.nextM [] (by kernel_rfl) (fun z => absurd rfl z) ?_
           refine MV.force (i := 14) rfl ?_
           refine vy (V.ia h56 rfl rfl Cnf.el155) fun x158_34 h57 => ?_
           refine LV.nextM [] (by kernel_rfl) (fun z => absurd rfl z) ?_
           refine MV.force (i := 15) rfl ?_
           refine LV.stA hS h57 rfl rfl rfl Cnf.agg166 rfl rfl rfl fun T17 its h58 hS => ?_
           refine LV.nextM [] (by kernel_rfl) (fun z => absurd rfl z) ?_
           refine mdn ?_
           refine sr ?_
           refine mv ?_
           refine vy (V.add h58 rfl rfl) fun x160_35 h59 => ?_
           refine as_ ?_
           refine dn ?_
           refine CV.region ?_
           refine mv ?_
           refine vy (V.sub h59 rfl rfl) fun x162_36 h60 => ?_
           refine as_ ?_
           refine LV.done ?_
           refine PV.blockN ?_
           exact pb7 hS h60 ⟨rfl, rfl, rfl, rfl, rfl, rfl, rfl, trivial⟩
noncomputable def g146_k4 (ro : List HT) (lp1 : AV → AV → AV → AV → AV → AV → AV → HT → Nat → R) (y0 y1 y2 y3 y4 y10 y11 y12 y13 y97 : AV) (T6 : HT) (n6 : Nat) : R :=
 condK 1460043 y97
 (
  .bad 1460044
 )
 (
  callK (g200 ro y0 y1 y2 y13 y4 T6 n6) fun x111_10 T7 n7 =>
  exK 1460052 x111_10 0 fun x112_11 =>
  exK 1460053 x111_10 1 fun x113_12 =>
  subK Tryz.prog 3 (.tmp 115) (.tmp 116) 1460060 x112_11 y1 fun x117_13 =>
  subK Tryz.prog 3 (.tmp 118) (.tmp 119) 1460063 y2 x112_11 fun x120_14 =>
  bin0 Tryz.prog .quo 3 (.tmp 121) (.const (.int .i64 (.ofNat 8))) 1460067 y12 (.lit (.int .i64 (.ofNat 8))) fun x122_15 =>
  ltK Tryz.prog 3 (.tmp 123) (.tmp 124) 1460071 x117_13 x120_14 fun x125_16 =>
  .bad 1460072
 )
noncomputable def g146_k3 (ro : List HT) (lp1 : AV → AV → AV → AV → AV → AV → AV → HT → Nat → R) (y0 y1 y2 y3 y4 y10 y11 y12 y13 y75 : AV) (T5 : HT) (n5 : Nat) : R :=
 condK 1460041 y75
 (
  .bad 1460042
 )
 (
  gtK Tryz.prog 3 (.tmp 81) (.const (.int .i64 (.ofNat 0))) 1460074 y1 (.lit (.int .i64 (.ofNat 0))) fun x82_17 =>
  condK 1460076 x82_17
  (
   subK Tryz.prog 3 (.tmp 86) (.const (.int .i64 (.ofNat 1))) 1460080 y1 (.lit (.int .i64 (.ofNat 1))) fun x87_18 =>
   iaK 1460081 y0 x87_18 3 fun x88_19 =>
   ldAK 1460082 T5 ro x88_19 3 fun x89_20 =>
   iaK 1460085 y0 y13 3 fun x92_21 =>
   ldAK 1460086 T5 ro x92_21 3 fun x93_22 =>
   dynK 1460087 y4 fun f p q => callK (scc3 4000 f ro (p ++ ([x89_20, x93_22] ++ q)) T5 n5) fun x94_23 T8 n8 =>
   ltK Tryz.prog 3 (.tmp 94) (.const (.int .i64 (.ofNat 0))) 1460088 x94_23 (.lit (.int .i64 (.ofNat 0))) fun x95_24 =>
   notK 1460089 x95_24 fun x96_25 =>
   g146_k4 ro lp1 y0 y1 y2 y3 y4 y10 y11 y12 y13 x96_25 T8 n8
  )
  (
   g146_k4 ro lp1 y0 y1 y2 y3 y4 y10 y11 y12 y13 (.lit (.bool false)) T5 n5
  )
 )
noncomputable def g146_k2 (ro : List HT) (lp1 : AV → AV → AV → AV → AV → AV → AV → HT → Nat → R) (y0 y1 y2 y3 y4 y10 y11 y12 y13 y14 y71 : AV) (T4 : HT) (n4 : Nat) : R :=
 condK 1460092 y71
 (
  eqK Tryz.prog 297 (.tmp 73) (.const (.int .i64 (.ofNat 1))) 1460094 y14 (.lit (.int .i64 (.ofNat 1))) fun x74_26 =>
  g146_k3 ro lp1 y0 y1 y2 y3 y4 y10 y11 y12 y13 x74_26 T4 n4
 )
 (
  g146_k3 ro lp1 y0 y1 y2 y3 y4 y10 y11 y12 y13 (.lit (.bool false)) T4 n4
 )
noncomputable def g146_b1 (ro : List HT) (lp1 : AV → AV → AV → AV → AV → AV → AV → HT → Nat → R) (y0 y1 y2 y3 y4 y10 y11 : AV) (T1 : HT) (n1 : Nat) : R :=
 subK Tryz.prog 3 (.tmp 21) (.tmp 22) 1460006 y2 y1 fun x23_1 =>
 leK Tryz.prog 3 (.tmp 24) (.const (.int .i64 (.ofNat 12))) 1460009 x23_1 (.lit (.int .i64 (.ofNat 12))) fun x25_2 =>
 condK 1460010 x25_2
 (
  callK (g193 ro y0 y1 y2 y4 T1 n1) fun x30_3 T2 n2 =>
  .ok (.val (.tup [])) T2 n2
 )
 (
  eqK Tryz.prog 3 (.tmp 31) (.const (.int .i64 (.ofNat 0))) 1460017 y3 (.lit (.int .i64 (.ofNat 0))) fun x32_4 =>
  condK 1460018 x32_4
  (
   .bad 1460019
  )
  (
   notK 1460021 y10 fun x39_5 =>
   condK 1460022 x39_5
   (
    .bad 1460023
   )
   (
    callK (g196 ro y0 y1 y2 y4 T1 n1) fun x52_6 T3 n3 =>
    exK 1460030 x52_6 0 fun x53_7 =>
    exK 1460031 x52_6 1 fun x54_8 =>
    eqK Tryz.prog 297 (.tmp 55) (.const (.int .i64 (.ofNat 2))) 1460035 x54_8 (.lit (.int .i64 (.ofNat 2))) fun x56_9 =>
    condK 1460036 x56_9
    (
     .bad 1460037
    )
    (
     condK 1460097 y10
     (
      g146_k2 ro lp1 y0 y1 y2 y3 y4 (.lit (.bool true)) y11 x23_1 x53_7 x54_8 y11 T3 n3
     )
     (
      g146_k2 ro lp1 y0 y1 y2 y3 y4 (.lit (.bool false)) y11 x23_1 x53_7 x54_8 (.lit (.bool false)) T3 n3
     )
    )
   )
  )
 )
noncomputable def g146 (ro : List HT) (a0 a1 a2 a3 a4 : AV) (T : HT) (nx : Nat) : R :=
 lpf7 1460003 (g146_b1 ro) 100000 a0 a1 a2 a3 a4 (.lit (.bool true)) (.lit (.bool true)) T nx
theorem g146_ok (ro : List HT) (a0 a1 a2 a3 a4 : AV) (T : HT) (nx : Nat) : GOk Tryz.prog envE 146 [a0, a1, a2, a3, a4] ro T nx (g146 ro a0 a1 a2 a3 a4 T nx) := by
 refine GOk.of_body Tryz.func146 rfl Tryz.ntmps146 (by kernel_rfl) rfl fun r T' n' h1 w0 base ρ0 its hS hP => ?_
 have X : CtxW envE ρ0 ro r T' n' := trivial
 unfold g146 at h1
 refine sr ?_
 refine as_ ?_
 refine dn ?_
 refine sr ?_
 refine as_ ?_
 refine dn ?_
 refine CV.block ?_
 refine cl7 X 0 1 2 3 4 10 11 [] hS h1 ⟨rfl, rfl, rfl, rfl, rfl, rfl, rfl, trivial⟩ ?_
 intro f1 y0 y1 y2 y3 y4 y10 y11 T1 n1 ρ its hS h2
 unfold g146_b1 at h2
 clear h1
 refine CV.block ?_
 refine sr ?_
 refine mv ?_
 refine mv ?_
 refine vy (V.sub h2 rfl rfl) fun x23_1 h3 => ?_
 refine as_ ?_
 refine dn ?_
 refine CV.seq ?_
 refine sr ?_
 refine mv ?_
 refine vy (V.le h3 rfl rfl) fun x25_2 h4 => ?_
 refine dn ?_
 refine CV.cond h4 rfl (fun e h5 => ?_) (fun e h5 => ?_)
 ·
  clear h2 h3 h4
  subst e
  refine sr ?_
  refine mv ?_
  refine mv ?_
  refine mv ?_
  refine mv ?_
  refine LV.call hS h5 (g193_ok _ _ _ _ _ _ _ ) hP rfl rfl rfl rfl fun x30_3 T2 n2 h6 ρ its hS => ?_
  refine dn ?_
  refine CV.ret ?_
  refine PV.thenR ?_
  refine PV.blockR ?_
  refine PV.thenR ?_
  refine PV.blockR ?_
  cases h6
  exact PV.ret (by simp) Tryz.results146 hS RS.nil rfl
 ·
  clear h2 h3 h4
  subst e
  refine CV.skip ?_
  refine PV.thenN ?_
  refine CV.seq ?_
  refine sr ?_
  refine mv ?_
  refine vy (V.eq h5 rfl rfl) fun x32_4 h7 => ?_
  refine dn ?_
  refine CV.cond h7 rfl (fun e h8 => ?_) (fun e h8 => ?_)
  ·
   clear h5 h7
   subst e
   cases h8
  ·
   clear h5 h7
   subst e
   refine CV.skip ?_
   refine PV.thenN ?_
   refine CV.seq ?_
   refine sr ?_
   refine mv ?_
   refine vy (V.not h8 rfl) fun x39_5 h9 => ?_
   refine dn ?_
   refine CV.cond h9 rfl (fun e h10 => ?_) (fun e h10 => ?_)
   ·
    clear h8 h9
    subst e
    cases h10
   ·
    clear h8 h9
    subst e
    refine CV.skip ?_
    refine PV.thenN ?_
    refine sr ?_
    refine mv ?_
    refine mv ?_
    refine mv ?_
    refine mv ?_
    refine LV.call hS h10 (g196_ok _ _ _ _ _ _ _ ) hP rfl rfl rfl rfl fun x52_6 T3 n3 h11 ρ its hS => ?_
    refine mv ?_
    refine vy (V.ex h11 rfl) fun x53_7 h12 => ?_
    refine vy (V.ex h12 rfl) fun x54_8 h13 => ?_
    refine as_ ?_
    refine as_ ?_
    refine dn ?_
    refine CV.seq ?_
    refine sr ?_
    refine mv ?_
    refine vy (V.eq h13 rfl rfl) fun x56_9 h14 => ?_
    refine dn ?_
    refine CV.cond h14 rfl (fun e h15 => ?_) (fun e h15 => ?_)
    ·
     clear h10 h11 h12 h13 h14
     subst e
     cases h15
    ·
     clear h10 h11 h12 h13 h14
     subst e
     refine CV.skip ?_
     refine PV.thenN ?_
     refine CV.seq ?_
     refine sr ?_
     refine mv ?_
     refine mv ?_
     refine ls11 X 0 1 2 3 4 10 11 12 13 14 71 [] (g146_k2 ro (lpf7 1460003 (g146_b1 ro) f1)) 2 ?_ ?_
     ·
      rcases condK_inv h15 with ⟨e, h40⟩ | ⟨e, h40⟩
      ·
       clear h15
       subst e
       refine mv ?_
       refine pu ?_
       exact la11 hS h40 ⟨rfl, rfl, rfl, rfl, rfl, rfl, rfl, rfl, rfl, rfl, rfl, trivial⟩
      ·
       clear h15
       subst e
       refine sk ?_
       refine pu ?_
       exact la11 hS h40 ⟨rfl, rfl, rfl, rfl, rfl, rfl, rfl, rfl, rfl, rfl, rfl, trivial⟩
     ·
      intro y0 y1 y2 y3 y4 y10 y11 y12 y13 y14 y71 T4 n4 ρ its hS h16
      unfold g146_k2 at h16
      clear h15
      refine mv ?_
      refine ls10 X 0 1 2 3 4 10 11 12 13 75 [] (g146_k3 ro (lpf7 1460003 (g146_b1 ro) f1)) 3 ?_ ?_
      ·
       rcases condK_inv h16 with ⟨e, h38⟩ | ⟨e, h38⟩
       ·
        clear h16
        subst e
        refine mv ?_
        refine vy (V.eq h38 rfl rfl) fun x74_26 h39 => ?_
        refine pu ?_
        exact la10 hS h39 ⟨rfl, rfl, rfl, rfl, rfl, rfl, rfl, rfl, rfl, rfl, trivial⟩
       ·
        clear h16
        subst e
        refine sk ?_
        refine sk ?_
        refine pu ?_
        exact la10 hS h38 ⟨rfl, rfl, rfl, rfl, rfl, rfl, rfl, rfl, rfl, rfl, trivial⟩
      ·
       intro y0 y1 y2 y3 y4 y10 y11 y12 y13 y75 T5 n5 ρ its hS h17
       unfold g146_k3 at h17
       clear h16
       refine dn ?_
       refine CV.cond h17 rfl (fun e h18 => ?_) (fun e h18 => ?_)
       ·
        clear h17
        subst e
        cases h18
       ·
        clear h17
        subst e
        refine CV.skip ?_
        refine PV.thenN ?_
        refine CV.seq ?_
        refine cs10 X 0 1 2 3 4 10 11 12 13 97 [] (g146_k4 ro (lpf7 1460003 (g146_b1 ro) f1)) ?_ ?_
        ·
         refine CV.regionM [(0, .anywhere), (1, .anywhere), (2, .anywhere), (3, .anywhere), (4, .anywhere), (5, .anywhere), (6, .anywhere), (7, .anywhere), (8, .held), (9, .anywhere), (10, .anywhere), (11, .anywhere), (12, .held), (13, .alone), (14, .alone), (15, .alone), (16, .alone)] rfl (fun c a a' w hd hq => PanicOk.root (P := Tryz.prog) (fn := Tryz.f146) (w0 := w0) (base := base) (E := envE) (ro := ro) (r := r) (T' := T') (n' := n') (ρ0 := ρ0) c a a' w hd hq) (by kernel_rfl) ?_
         refine MV.step0 (i := 0) rfl (VAL.move rfl) rfl rfl rfl ?_
         refine MV.lift0 (i := 1) rfl (V.gt h18 rfl rfl) rfl rfl rfl fun x82_17 h28 => ?_
         refine MV.step0 (i := 2) rfl (VAL.move rfl) rfl rfl rfl ?_
         rcases condK_inv h28 with ⟨e, h29⟩ | ⟨e, h29⟩
         ·
          clear h18 h28
          subst e
          refine MV.step0 (i := 3) rfl (VAL.move rfl) rfl rfl rfl ?_
          refine MV.step0 (i := 4) rfl (VAL.move rfl) rfl rfl rfl ?_
          refine MV.step0 (i := 5) rfl (VAL.move rfl) rfl rfl rfl ?_
          refine MV.lift0 (i := 6) rfl (V.sub h29 rfl rfl) rfl rfl rfl fun x87_18 h30 => ?_
          refine MV.lift0 (i := 7) rfl (V.ia h30 rfl rfl Cnf.el155) rfl rfl rfl fun x88_19 h31 => ?_
          refine MV.lift1 (i := 8) rfl (fun _ z => z) (V.ldA hS h31 rfl Cnf.agg166) rfl rfl rfl [] (by kernel_rfl) fun x89_20 h32 => ?_
          refine MV.step0 (i := 9) rfl (VAL.move rfl) rfl rfl rfl ?_
          refine MV.step0 (i := 10) rfl (VAL.move rfl) rfl rfl rfl ?_
          refine MV.lift0 (i := 11) rfl (V.ia h32 rfl rfl Cnf.el155) rfl rfl rfl fun x92_21 h33 => ?_
          refine MV.lift1 (i := 12) rfl (fun _ z => z) (V.ldA hS h33 rfl Cnf.agg166) rfl rfl rfl [8] (by kernel_rfl) fun x93_22 h34 => ?_
          refine MV.force (i := 13) rfl ?_
          refine LV.callD (G := fun f gs => scc3 4000 f ro gs T5 n5) (qs := [x89_20, x93_22]) hS h34 (fun f gs => scc3_ok _ _ _ _ _ _) hP rfl rfl rfl rfl rfl rfl rfl fun x94_23 T8 n8 h35 ρ its hS => ?_
          refine LV.nextM [] (by kernel_rfl) (fun z => absurd rfl z) ?_
          refine MV.force (i := 14) rfl ?_
          refine vy (V.lt h35 rfl rfl) fun x95_24 h36 => ?_
          refine LV.nextM [] (by kernel_rfl) (fun z => absurd rfl z) ?_
          refine MV.force (i := 15) rfl ?_
          refine vy (V.not h36 rfl) fun x96_25 h37 => ?_
          refine LV.nextM [] (by kernel_rfl) (fun z => absurd rfl z) ?_
          refine MV.force (i := 16) rfl ?_
          refine pu ?_
          refine LV.nextM [] (by kernel_rfl) (fun z => absurd rfl z) ?_
          refine MV.done ?_
          exact pa10 hS h37 ⟨rfl, rfl, rfl, rfl, rfl, rfl, rfl, rfl, rfl, rfl, trivial⟩
         ·
          clear h18 h28
          subst e
          refine MV.skip0 (i := 3) rfl rfl rfl rfl ?_
          refine MV.skip0 (i := 4) rfl rfl rfl rfl ?_
          refine MV.skip0 (i := 5) rfl rfl rfl rfl ?_
          refine MV.skip0 (i := 6) rfl rfl rfl rfl ?_
          refine MV.skip0 (i := 7) rfl rfl rfl rfl ?_
          refine MV.skip1 (i := 8) rfl (fun _ z => z) rfl rfl rfl [] (by kernel_rfl) ?_
          refine MV.skip0 (i := 9) rfl rfl rfl rfl ?_
          refine MV.skip0 (i := 10) rfl rfl rfl rfl ?_
          refine MV.skip0 (i := 11) rfl rfl rfl rfl ?_
          refine MV.skip1 (i := 12) rfl (fun _ z => z) rfl rfl rfl [8] (by kernel_rfl) ?_
          refine MV.force (i := 13) rfl ?_
          refine sk ?_
          refine LV.nextM [] (by kernel_rfl) (fun z => absurd rfl z) ?_
          refine MV.force (i := 14) rfl ?_
          refine sk ?_
          refine LV.nextM [] (by kernel_rfl) (fun z => absurd rfl z) ?_
          refine MV.force (i := 15) rfl ?_
          refine sk ?_
          refine LV.nextM [] (by kernel_rfl) (fun z => absurd rfl z) ?_
          refine MV.force (i := 16) rfl ?_
          refine pu ?_
          refine LV.nextM [] (by kernel_rfl) (fun z => absurd rfl z) ?_
          refine MV.done ?_
          exact pa10 hS h29 ⟨rfl, rfl, rfl, rfl, rfl, rfl, rfl, rfl, rfl, rfl, trivial⟩
        ·
         intro y0 y1 y2 y3 y4 y10 y11 y12 y13 y97 T6 n6 ρ its hS h19
         unfold g146_k4 at h19
         clear h18
         refine CV.cond h19 rfl (fun e h20 => ?_) (fun e h20 => ?_)
         ·
          clear h19
          subst e
          cases h20
         ·
          clear h19
          subst e
          refine CV.skip ?_
          refine PV.thenN ?_
          refine sr ?_
          refine mv ?_
          refine mv ?_
          refine mv ?_
          refine mv ?_
          refine mv ?_
          refine LV.call hS h20 (g200_ok _ _ _ _ _ _ _ _ ) hP rfl rfl rfl rfl fun x111_10 T7 n7 h21 ρ its hS => ?_
          refine mv ?_
          refine vy (V.ex h21 rfl) fun x112_11 h22 => ?_
          refine vy (V.ex h22 rfl) fun x113_12 h23 => ?_
          refine as_ ?_
          refine as_ ?_
          refine dn ?_
          refine sr ?_
          refine mv ?_
          refine as_ ?_
          refine dn ?_
          refine sr ?_
          refine mv ?_
          refine mv ?_
          refine vy (V.sub h23 rfl rfl) fun x117_13 h24 => ?_
          refine mv ?_
          refine mv ?_
          refine vy (V.sub h24 rfl rfl) fun x120_14 h25 => ?_
          refine as_ ?_
          refine as_ ?_
          refine dn ?_
          refine sr ?_
          refine mv ?_
          refine vy (V.bin0 h25 rfl rfl) fun x122_15 h26 => ?_
          refine as_ ?_
          refine dn ?_
          refine sr ?_
          refine mv ?_
          refine mv ?_
          refine vy (V.lt h26 rfl rfl) fun x125_16 h27 => ?_
          refine dn ?_
          cases h27
noncomputable def g106 (ro : List HT) (a0 a1 : AV) (T : HT) (nx : Nat) : R :=
 lenSK 1060002 a0 fun x6_1 =>
 optK 1060007 (convV Tryz.prog 3 182 x6_1) fun x10_2 =>
 callK (g147 ro x10_2 T nx) fun x11_3 T1 n1 =>
 callK (g146 ro a0 (.lit (.int .i64 (.ofNat 0))) x6_1 x11_3 a1 T1 n1) fun x13_4 T2 n2 =>
 .ok (.val (.tup [])) T2 n2
theorem g106_ok (ro : List HT) (a0 a1 : AV) (T : HT) (nx : Nat) : GOk Tryz.prog envE 106 [a0, a1] ro T nx (g106 ro a0 a1 T nx) := by
 refine GOk.of_body Tryz.func106 rfl Tryz.ntmps106 (by kernel_rfl) rfl fun r T' n' h1 w0 base ρ0 its hS hP => ?_
 have X : CtxW envE ρ0 ro r T' n' := trivial
 unfold g106 at h1
 refine sr ?_
 refine mv ?_
 refine vy (V.lenS h1 rfl Cnf.ls155) fun x6_1 h2 => ?_
 refine as_ ?_
 refine dn ?_
 refine CV.region ?_
 refine mv ?_
 refine mv ?_
 refine mv ?_
 refine vy (V.conv h2 rfl) fun x10_2 h3 => ?_
 refine LV.call hS h3 (g147_ok _ _ _ _ ) hP rfl rfl rfl rfl fun x11_3 T1 n1 h4 ρ its hS => ?_
 refine mv ?_
 refine LV.call hS h4 (g146_ok _ _ _ _ _ _ _ _ ) hP rfl rfl rfl rfl fun x13_4 T2 n2 h5 ρ its hS => ?_
 refine LV.done ?_
 cases h5
 exact PV.ret (by simp) Tryz.results106 hS RS.nil rfl
noncomputable def g74_b1 (ro : List HT) (lp1 : AV → AV → AV → AV → AV → AV → AV → AV → HT → Nat → R) (y4 y5 y6 y8 y9 y41 y42 y43 : AV) (T8 : HT) (n8 : Nat) : R :=
 ltK Tryz.prog 3 (.tmp 43) (.tmp 42) 740039 y43 y42 fun x44_15 =>
 condK 740040 x44_15
 (
  iaK 740042 y41 y43 5 fun x46_16 =>
  ldAK 740043 T8 ro x46_16 5 fun x47_17 =>
  newK T8 n8 (.obj [.lit (.int .i64 0), .lit (.int .i64 0), .lit (.int .i64 0), .lit (.string ⟨#[]⟩), .lit (.slice none 0 0)] 172) fun x11_18 T9 n9 =>
  stAK 740046 T9 x11_18 x47_17 5 fun T10 =>
  faK 740047 x11_18 0 fun x48_19 =>
  ldK 740048 T10 ro x48_19 fun x49_20 =>
  eqK Tryz.prog 3 (.tmp 49) (.const (.int .i64 (.ofNat 45))) 740049 x49_20 (.lit (.int .i64 (.ofNat 45))) fun x50_21 =>
  condK 740050 x50_21
  (
   .bad 740051
  )
  (
   addK Tryz.prog 3 (.tmp 43) (.const (.int .i64 (.ofNat 1))) 740052 y43 (.lit (.int .i64 (.ofNat 1))) fun x66_22 =>
   lp1 y4 y5 y6 y8 y9 y41 y42 x66_22 T10 n9
  )
 )
 (
  callK (scc7 4000 105 ro [y9, y8, (.lit (.pointer none))] T8 n8) fun x69_23 T11 n11 =>
  fldK 740058 T11 ro y9 5 fun x73_24 =>
  geK Tryz.prog 3 (.tmp 73) (.const (.int .i64 (.ofNat 0))) 740059 x73_24 (.lit (.int .i64 (.ofNat 0))) fun x74_25 =>
  condK 740060 x74_25
  (
   .bad 740061
  )
  (
   fldK 740063 T11 ro y9 3 fun x90_26 =>
   callK (g106 ro x90_26 (.lit (.func (.func 107) #[] #[])) T11 n11) fun x91_27 T12 n12 =>
   ncK 740066 y9 fun x93_28 =>
   faK 740067 x93_28 3 fun x94_29 =>
   ldK 740068 T12 ro x94_29 fun x95_30 =>
   ncK 740070 y9 fun x97_31 =>
   faK 740071 x97_31 4 fun x98_32 =>
   ldK 740072 T12 ro x98_32 fun x99_33 =>
   .ok (.val (.tup [x95_30, x99_33, (.lit (.nilIface))])) T12 n12
  )
 )
noncomputable def g74 (ro : List HT) (a0 a1 : AV) (T : HT) (nx : Nat) : R :=
 callK (g89 ro a0 T nx) fun x13_1 T1 n1 =>
 bin0 Tryz.prog .neq 36 (.tmp 14) (.const (.nilIface)) 740008 x13_1 (.lit (.nilIface)) fun x15_2 =>
 condK 740009 x15_2
 (
  .bad 740010
 )
 (
  lenSK 740012 a0 fun x18_3 =>
  subK Tryz.prog 3 (.tmp 18) (.const (.int .i64 (.ofNat 1))) 740013 x18_3 (.lit (.int .i64 (.ofNat 1))) fun x19_4 =>
  optK 740017 (bld213 [(0, a0), (2, a1), (5, (.lit (.int .i64 (.negSucc 0))))]) fun x22_5 =>
  boxK 740018 T1 n1 x22_5 213 fun x23_6 T2 n2 =>
  callK (g104 ro x23_6 x19_4 T2 n2) fun x27_7 T3 n3 =>
  faK 740024 x23_6 1 fun x29_8 =>
  stK 740025 T3 x29_8 x27_7 fun T4 =>
  fldK 740029 T4 ro x23_6 1 fun x35_9 =>
  callK (g75 ro x35_9 T4 n3) fun x36_10 T5 n5 =>
  optK 740031 (bld169 [(0, x19_4), (3, x36_10)]) fun x37_11 =>
  bsK 740032 T5 n5 1 169 4 [(0, x37_11)] fun x38_12 T6 n6 =>
  faK 740033 x23_6 4 fun x40_13 =>
  stK 740034 T6 x40_13 x38_12 fun T7 =>
  lenSK 740036 a0 fun x42_14 =>
  lpf8 740038 (g74_b1 ro) 100000 (.lit (.slice none 0 0)) (.lit (.slice none 0 0)) (.lit (.nilIface)) x19_4 x23_6 a0 x42_14 (.lit (.int .i64 (.ofNat 0))) T7 n6
 )
theorem g74_ok (ro : List HT) (a0 a1 : AV) (T : HT) (nx : Nat) : GOk Tryz.prog envE 74 [a0, a1] ro T nx (g74 ro a0 a1 T nx) := by
 refine GOk.of_body Tryz.func74 rfl Tryz.ntmps74 (by kernel_rfl) rfl fun r T' n' h1 w0 base ρ0 its hS hP => ?_
 have X : CtxW envE ρ0 ro r T' n' := trivial
 unfold g74 at h1
 refine sr ?_
 refine as_ ?_
 refine as_ ?_
 refine as_ ?_
 refine dn ?_
 refine CV.seq ?_
 refine sr ?_
 refine mv ?_
 refine LV.call hS h1 (g89_ok _ _ _ _ ) hP rfl rfl rfl rfl fun x13_1 T1 n1 h2 ρ its hS => ?_
 refine as_ ?_
 refine dn ?_
 refine sr ?_
 refine mv ?_
 refine vy (V.bin0 h2 rfl rfl) fun x15_2 h3 => ?_
 refine dn ?_
 refine CV.cond h3 rfl (fun e h4 => ?_) (fun e h4 => ?_)
 ·
  clear h1 h2 h3
  subst e
  cases h4
 ·
  clear h1 h2 h3
  subst e
  refine CV.skip ?_
  refine PV.thenN ?_
  refine sr ?_
  refine mv ?_
  refine vy (V.lenS h4 rfl Cnf.ls109) fun x18_3 h5 => ?_
  refine vy (V.sub h5 rfl rfl) fun x19_4 h6 => ?_
  refine as_ ?_
  refine dn ?_
  refine sr ?_
  refine mv ?_
  refine mv ?_
  refine vy (V.bld h6 rfl) fun x22_5 h7 => ?_
  refine LV.box hS h7 rfl rfl rfl rfl rfl fun x23_6 T2 n2 h8 ρ its hS hdr => ?_
  refine as_ ?_
  refine dn ?_
  refine sr ?_
  refine mv ?_
  refine mv ?_
  refine mv ?_
  refine LV.call hS h8 (g104_ok _ _ _ _ _ ) hP rfl rfl rfl rfl fun x27_7 T3 n3 h9 ρ its hS => ?_
  refine fa2 h9 Cnf.fo213_1 fun x29_8 h10 => ?_
  refine LV.st hS h10 rfl rfl rfl Cnf.siz54 rfl rfl fun T4 its h11 hS => ?_
  refine dn ?_
  refine sr ?_
  refine mv ?_
  refine mv ?_
  refine mv ?_
  refine fl hS h11 Cnf.fo213_1 Cnf.one54 fun x35_9 h12 => ?_
  refine LV.call hS h12 (g75_ok _ _ _ _ ) hP rfl rfl rfl rfl fun x36_10 T5 n5 h13 ρ its hS => ?_
  refine vy (V.bld h13 rfl) fun x37_11 h14 => ?_
  refine LV.bslice hS h14 rfl rfl Cnf.el156 rfl rfl rfl rfl fun x38_12 T6 n6 h15 ρ its hS hdr => ?_
  refine fa2 h15 Cnf.fo213_4 fun x40_13 h16 => ?_
  refine LV.st hS h16 rfl rfl rfl Cnf.siz156 rfl rfl fun T7 its h17 hS => ?_
  refine dn ?_
  refine CV.seq ?_
  refine sr ?_
  refine mv ?_
  refine vy (V.lenS h17 rfl Cnf.ls109) fun x42_14 h18 => ?_
  refine mv ?_
  refine dn ?_
  refine CV.block ?_
  refine cl8 X 4 5 6 8 9 41 42 43 [] hS h18 ⟨rfl, rfl, rfl, rfl, rfl, rfl, rfl, rfl, trivial⟩ ?_
  intro f1 y4 y5 y6 y8 y9 y41 y42 y43 T8 n8 ρ its hS h19
  unfold g74_b1 at h19
  clear h4 h5 h6 h7 h8 h9 h10 h11 h12 h13 h14 h15 h16 h17 h18
  refine sr ?_
  refine vy (V.lt h19 rfl rfl) fun x44_15 h20 => ?_
  refine dn ?_
  refine CV.seq ?_
  refine CV.cond h20 rfl (fun e h21 => ?_) (fun e h21 => ?_)
  ·
   clear h19 h20
   subst e
   refine CV.skip ?_
   refine PV.thenN ?_
   refine CV.seq ?_
   refine CV.block ?_
   refine sr ?_
   refine mv ?_
   refine vy (V.ia h21 rfl rfl Cnf.el109) fun x46_16 h22 => ?_
   refine vy (V.ldA hS h22 rfl Cnf.agg172) fun x47_17 h23 => ?_
   refine LV.alloc hS h23 rfl Cnf.zr172 rfl rfl rfl fun x11_18 T9 n9 h24 ρ its hS hdr => ?_
   refine as_ ?_
   refine LV.stA hS h24 rfl rfl rfl Cnf.agg172 rfl rfl rfl fun T10 its h25 hS => ?_
   refine dn ?_
   refine sr ?_
   refine vy (V.fa h25 rfl Cnf.fo172_0) fun x48_19 h26 => ?_
   refine vy (V.ld hS h26 rfl Cnf.one3) fun x49_20 h27 => ?_
   refine vy (V.eq h27 rfl rfl) fun x50_21 h28 => ?_
   refine dn ?_
   refine CV.cond h28 rfl (fun e h29 => ?_) (fun e h29 => ?_)
   ·
    clear h21 h22 h23 h24 h25 h26 h27 h28
    subst e
    cases h29
   ·
    clear h21 h22 h23 h24 h25 h26 h27 h28
    subst e
    refine CV.skip ?_
    refine PV.blockN ?_
    refine PV.thenN ?_
    refine CV.region ?_
    refine vy (V.add h29 rfl rfl) fun x66_22 h30 => ?_
    refine mv ?_
    refine LV.done ?_
    exact pb8 hS h30 ⟨rfl, rfl, rfl, rfl, rfl, rfl, rfl, rfl, trivial⟩
  ·
   clear h19 h20
   subst e
   refine CV.exit ?_
   refine PV.thenE ?_
   refine PV.thenE ?_
   refine PV.blockE ?_
   refine PV.thenN ?_
   refine sr ?_
   refine mv ?_
   refine mv ?_
   refine LV.call hS h21 (scc7_ok _ _ _ _ _ _) hP rfl rfl rfl rfl fun x69_23 T11 n11 h31 ρ its hS => ?_
   refine dn ?_
   refine CV.seq ?_
   refine sr ?_
   refine mv ?_
   refine fl hS h31 Cnf.fo213_5 Cnf.one3 fun x73_24 h32 => ?_
   refine vy (V.ge h32 rfl rfl) fun x74_25 h33 => ?_
   refine dn ?_
   refine CV.cond h33 rfl (fun e h34 => ?_) (fun e h34 => ?_)
   ·
    clear h21 h31 h32 h33
    subst e
    cases h34
   ·
    clear h21 h31 h32 h33
    subst e
    refine CV.skip ?_
    refine PV.thenN ?_
    refine sr ?_
    refine mv ?_
    refine fl hS h34 Cnf.fo213_3 Cnf.one155 fun x90_26 h35 => ?_
    refine LV.call hS h35 (g106_ok _ _ _ _ _ ) hP rfl rfl rfl rfl fun x91_27 T12 n12 h36 ρ its hS => ?_
    refine dn ?_
    refine CV.seq ?_
    refine CV.regionM [(0, .anywhere), (1, .anywhere), (2, .anywhere), (3, .held), (4, .anywhere), (5, .anywhere), (6, .anywhere), (7, .held), (8, .held), (9, .held), (10, .held)] rfl (fun c a a' w hd hq => PanicOk.root (P := Tryz.prog) (fn := Tryz.f74) (w0 := w0) (base := base) (E := envE) (ro := ro) (r := r) (T' := T') (n' := n') (ρ0 := ρ0) c a a' w hd hq) (by kernel_rfl) ?_
    refine MV.step0 (i := 0) rfl (VAL.move rfl) rfl rfl rfl ?_
    refine MV.lift0 (i := 1) rfl (V.nc h36 rfl) rfl rfl rfl fun x93_28 h37 => ?_
    refine MV.lift0 (i := 2) rfl (V.fa h37 rfl Cnf.fo213_3) rfl rfl rfl fun x94_29 h38 => ?_
    refine MV.lift1 (i := 3) rfl (fun _ z => z) (V.ld hS h38 rfl Cnf.one155) rfl rfl rfl [] (by kernel_rfl) fun x95_30 h39 => ?_
    refine MV.step0 (i := 4) rfl (VAL.move rfl) rfl rfl rfl ?_
    refine MV.lift0 (i := 5) rfl (V.nc h39 rfl) rfl rfl rfl fun x97_31 h40 => ?_
    refine MV.lift0 (i := 6) rfl (V.fa h40 rfl Cnf.fo213_4) rfl rfl rfl fun x98_32 h41 => ?_
    refine MV.lift1 (i := 7) rfl (fun _ z => z) (V.ld hS h41 rfl Cnf.one156) rfl rfl rfl [3] (by kernel_rfl) fun x99_33 h42 => ?_
    refine MV.step1 (i := 8) rfl (fun _ z => z) (VAL.assign rfl) rfl rfl rfl [7] (by kernel_rfl) ?_
    refine MV.step1 (i := 9) rfl (fun _ z => z) (VAL.assign rfl) rfl rfl rfl [] (by kernel_rfl) ?_
    refine MV.step1 (i := 10) rfl (fun _ z => z) (VAL.assign rfl) rfl rfl rfl [] (by kernel_rfl) ?_
    refine mdn ?_
    refine CV.ret ?_
    cases h42
    exact PV.ret (by simp) Tryz.results74 hS (RS.tmp rfl (RS.tmp rfl (RS.tmp rfl RS.nil))) rfl
noncomputable def g148_b1 (ro : List HT) (lp1 : AV → AV → AV → AV → AV → HT → Nat → R) (y0 y1 y4 y7 y8 : AV) (T1 : HT) (n1 : Nat) : R :=
 ltK Tryz.prog 3 (.tmp 8) (.tmp 7) 1480006 y8 y7 fun x9_2 =>
 condK 1480007 x9_2
 (
  iaK 1480013 y0 y8 5 fun x14_3 =>
  ldAK 1480014 T1 ro x14_3 5 fun x15_4 =>
  dynK 1480015 y1 fun f p q => callK (scc3 4000 f ro (p ++ ([x15_4] ++ q)) T1 n1) fun x16_5 T2 n2 =>
  condK 1480016 x16_5
  (
   .ok (.val y8) T2 n2
  )
  (
   addK Tryz.prog 3 (.tmp 8) (.const (.int .i64 (.ofNat 1))) 1480019 y8 (.lit (.int .i64 (.ofNat 1))) fun x18_6 =>
   lp1 y0 y1 y4 y7 x18_6 T2 n2
  )
 )
 (
  .ok (.val (.lit (.int .i64 (.negSucc 0)))) T1 n1
 )
noncomputable def g148 (ro : List HT) (a0 a1 : AV) (T : HT) (nx : Nat) : R :=
 lenSK 1480003 a0 fun x7_1 =>
 lpf5 1480005 (g148_b1 ro) 100000 a0 a1 (.lit (.int .i64 (.ofNat 0))) x7_1 (.lit (.int .i64 (.ofNat 0))) T nx
theorem g148_ok (ro : List HT) (a0 a1 : AV) (T : HT) (nx : Nat) : GOk Tryz.prog envE 148 [a0, a1] ro T nx (g148 ro a0 a1 T nx) := by
 refine GOk.of_body Tryz.func148 rfl Tryz.ntmps148 (by kernel_rfl) rfl fun r T' n' h1 w0 base ρ0 its hS hP => ?_
 have X : CtxW envE ρ0 ro r T' n' := trivial
 unfold g148 at h1
 refine sr ?_
 refine as_ ?_
 refine dn ?_
 refine CV.seq ?_
 refine sr ?_
 refine mv ?_
 refine vy (V.lenS h1 rfl Cnf.ls109) fun x7_1 h2 => ?_
 refine mv ?_
 refine dn ?_
 refine CV.block ?_
 refine cl5 X 0 1 4 7 8 [] hS h2 ⟨rfl, rfl, rfl, rfl, rfl, trivial⟩ ?_
 intro f1 y0 y1 y4 y7 y8 T1 n1 ρ its hS h3
 unfold g148_b1 at h3
 clear h1 h2
 refine sr ?_
 refine vy (V.lt h3 rfl rfl) fun x9_2 h4 => ?_
 refine dn ?_
 refine CV.seq ?_
 refine CV.cond h4 rfl (fun e h5 => ?_) (fun e h5 => ?_)
 ·
  clear h3 h4
  subst e
  refine CV.skip ?_
  refine PV.thenN ?_
  refine CV.seq ?_
  refine CV.block ?_
  refine sr ?_
  refine mv ?_
  refine as_ ?_
  refine dn ?_
  refine sr ?_
  refine mv ?_
  refine mv ?_
  refine mv ?_
  refine vy (V.ia h5 rfl rfl Cnf.el109) fun x14_3 h6 => ?_
  refine vy (V.ldA hS h6 rfl Cnf.agg172) fun x15_4 h7 => ?_
  refine LV.callD (G := fun f gs => scc3 4000 f ro gs T1 n1) (qs := [x15_4]) hS h7 (fun f gs => scc3_ok _ _ _ _ _ _) hP rfl rfl rfl rfl rfl rfl rfl fun x16_5 T2 n2 h8 ρ its hS => ?_
  refine dn ?_
  refine CV.cond h8 rfl (fun e h9 => ?_) (fun e h9 => ?_)
  ·
   clear h5 h6 h7 h8
   subst e
   refine sr ?_
   refine mv ?_
   refine as_ ?_
   refine dn ?_
   refine CV.ret ?_
   refine PV.blockR ?_
   refine PV.thenR ?_
   refine PV.thenR ?_
   refine PV.blockR ?_
   refine PV.thenR ?_
   cases h9
   exact PV.ret (by simp) Tryz.results148 hS (RS.tmp rfl RS.nil) rfl
  ·
   clear h5 h6 h7 h8
   subst e
   refine CV.skip ?_
   refine PV.blockN ?_
   refine PV.thenN ?_
   refine CV.region ?_
   refine vy (V.add h9 rfl rfl) fun x18_6 h10 => ?_
   refine mv ?_
   refine LV.done ?_
   exact pb5 hS h10 ⟨rfl, rfl, rfl, rfl, rfl, trivial⟩
 ·
  clear h3 h4
  subst e
  refine CV.exit ?_
  refine PV.thenE ?_
  refine PV.thenE ?_
  refine PV.blockE ?_
  refine PV.thenN ?_
  refine sr ?_
  refine as_ ?_
  refine dn ?_
  refine CV.ret ?_
  cases h5
  exact PV.ret (by simp) Tryz.results148 hS (RS.tmp rfl RS.nil) rfl
noncomputable def g108_k1 (ro : List HT) (y6 y7 : AV) (T4 : HT) (n4 : Nat) : R :=
 .ok (.val y7) T4 n4
noncomputable def g108 (ro : List HT) (a0 a1 a2 : AV) (T : HT) (nx : Nat) : R :=
 boxK 1080001 T nx a1 3 fun x4_1 T1 n1 =>
 boxK 1080002 T1 n1 a2 9 fun x5_2 T2 n2 =>
 faK 1080005 a0 3 fun x10_3 =>
 faK 1080006 x10_3 1 fun x11_4 =>
 ldK 1080007 T2 ro x11_4 fun x12_5 =>
 callK (g148 ro x12_5 (.fn (.func 149) [] [x4_1, x5_2]) T2 n2) fun x14_6 T3 n3 =>
 ltK Tryz.prog 3 (.tmp 15) (.const (.int .i64 (.ofNat 0))) 1080014 x14_6 (.lit (.int .i64 (.ofNat 0))) fun x16_7 =>
 condK 1080015 x16_7
 (
  faK 1080017 a0 3 fun x19_8 =>
  faK 1080018 x19_8 1 fun x20_9 =>
  ldK 1080019 T3 ro x20_9 fun x21_10 =>
  lenSK 1080020 x21_10 fun x22_11 =>
  ncK 1080024 a0 fun x25_12 =>
  faK 1080025 x25_12 3 fun x26_13 =>
  faK 1080026 x26_13 1 fun x27_14 =>
  ldK 1080027 T3 ro x27_14 fun x28_15 =>
  ldK 1080028 T3 ro x4_1 fun x29_16 =>
  ldK 1080029 T3 ro x5_2 fun x30_17 =>
  optK 1080030 (bld172 [(0, x29_16), (3, x30_17)]) fun x31_18 =>
  bsK 1080031 T3 n3 1 172 5 [(0, x31_18)] fun x32_19 T5 n5 =>
  shrK 1080033 T5 x28_15 fun T6 =>
  appEK 1080032 T6 ro n5 172 5 64 x28_15 x32_19 fun x33_20 T7 n7 =>
  ncK 1080034 a0 fun x34_21 =>
  faK 1080035 x34_21 3 fun x35_22 =>
  faK 1080036 x35_22 1 fun x36_23 =>
  stK 1080037 T7 x36_23 x33_20 fun T8 =>
  g108_k1 ro (.lit (.int .i64 (.ofNat 0))) x22_11 T8 n7
 )
 (
  g108_k1 ro (.lit (.int .i64 (.ofNat 0))) x14_6 T3 n3
 )
theorem g108_ok (ro : List HT) (a0 a1 a2 : AV) (T : HT) (nx : Nat) : GOk Tryz.prog envE 108 [a0, a1, a2] ro T nx (g108 ro a0 a1 a2 T nx) := by
 refine GOk.of_body Tryz.func108 rfl Tryz.ntmps108 (by kernel_rfl) rfl fun r T' n' h1 w0 base ρ0 its hS hP => ?_
 have X : CtxW envE ρ0 ro r T' n' := trivial
 unfold g108 at h1
 refine sr ?_
 refine LV.box hS h1 rfl rfl rfl rfl rfl fun x4_1 T1 n1 h2 ρ its hS hdr => ?_
 refine LV.box hS h2 rfl rfl rfl rfl rfl fun x5_2 T2 n2 h3 ρ its hS hdr => ?_
 refine as_ ?_
 refine dn ?_
 refine sr ?_
 refine mv ?_
 refine fa2 h3 Cnf.fo164_3 fun x10_3 h4 => ?_
 refine vy (V.fa h4 rfl Cnf.fo114_1) fun x11_4 h5 => ?_
 refine vy (V.ld hS h5 rfl Cnf.one109) fun x12_5 h6 => ?_
 refine pu ?_
 refine LV.call hS h6 (g148_ok _ _ _ _ _ ) hP rfl rfl rfl rfl fun x14_6 T3 n3 h7 ρ its hS => ?_
 refine as_ ?_
 refine dn ?_
 refine cs2 X 6 7 [] (g108_k1 ro) ?_ ?_
 ·
  refine sr ?_
  refine mv ?_
  refine vy (V.lt h7 rfl rfl) fun x16_7 h9 => ?_
  refine dn ?_
  refine CV.cond h9 rfl (fun e h10 => ?_) (fun e h10 => ?_)
  ·
   clear h1 h2 h3 h4 h5 h6 h7 h9
   subst e
   refine sr ?_
   refine mv ?_
   refine fa2 h10 Cnf.fo164_3 fun x19_8 h11 => ?_
   refine vy (V.fa h11 rfl Cnf.fo114_1) fun x20_9 h12 => ?_
   refine vy (V.ld hS h12 rfl Cnf.one109) fun x21_10 h13 => ?_
   refine vy (V.lenS h13 rfl Cnf.ls109) fun x22_11 h14 => ?_
   refine as_ ?_
   refine dn ?_
   refine CV.regionM [(0, .anywhere), (1, .anywhere), (2, .anywhere), (3, .anywhere), (4, .anywhere), (5, .held), (6, .held), (7, .held), (8, .held), (9, .alone), (10, .alone), (11, .alone), (12, .alone), (13, .alone), (14, .alone)] rfl (fun c a a' w hd hq => PanicOk.root (P := Tryz.prog) (fn := Tryz.f108) (w0 := w0) (base := base) (E := envE) (ro := ro) (r := r) (T' := T') (n' := n') (ρ0 := ρ0) c a a' w hd hq) (by kernel_rfl) ?_
   refine MV.step0 (i := 0) rfl (VAL.move rfl) rfl rfl rfl ?_
   refine MV.step0 (i := 1) rfl (VAL.move rfl) rfl rfl rfl ?_
   refine MV.lift0 (i := 2) rfl (V.nc h14 rfl) rfl rfl rfl fun x25_12 h15 => ?_
   refine MV.lift0 (i := 3) rfl (V.fa h15 rfl Cnf.fo164_3) rfl rfl rfl fun x26_13 h16 => ?_
   refine MV.lift0 (i := 4) rfl (V.fa h16 rfl Cnf.fo114_1) rfl rfl rfl fun x27_14 h17 => ?_
   refine MV.lift1 (i := 5) rfl (fun _ z => z) (V.ld hS h17 rfl Cnf.one109) rfl rfl rfl [] (by kernel_rfl) fun x28_15 h18 => ?_
   refine MV.lift1 (i := 6) rfl (fun _ z => z) (V.ld hS h18 rfl Cnf.one3) rfl rfl rfl [5] (by kernel_rfl) fun x29_16 h19 => ?_
   refine MV.lift1 (i := 7) rfl (fun _ z => z) (V.ld hS h19 rfl Cnf.one9) rfl rfl rfl [6, 5] (by kernel_rfl) fun x30_17 h20 => ?_
   refine MV.lift1 (i := 8) rfl (fun _ z => z) (V.bld h20 rfl) rfl rfl rfl [5] (by kernel_rfl) fun x31_18 h21 => ?_
   refine MV.force (i := 9) rfl ?_
   refine LV.bslice hS h21 rfl rfl Cnf.el109 rfl rfl rfl rfl fun x32_19 T5 n5 h22 ρ its hS hdr => ?_
   refine LV.nextM [5] (by kernel_rfl) (fun _ => hdr) ?_
   refine MV.force (i := 10) rfl ?_
   obtain ⟨T6, its1, h23, hS, hW⟩ := shrK_inv hS h22
   refine LV.world hW ?_
   refine LV.appE hS h23 rfl rfl rfl rfl Cnf.el109 rfl rfl rfl fun x33_20 T7 n7 h24 ρ its hS => ?_
   refine LV.nextM [] (by kernel_rfl) (fun z => absurd rfl z) ?_
   refine MV.force (i := 11) rfl ?_
   refine vy (V.nc h24 rfl) fun x34_21 h25 => ?_
   refine LV.nextM [] (by kernel_rfl) (fun z => absurd rfl z) ?_
   refine MV.force (i := 12) rfl ?_
   refine vy (V.fa h25 rfl Cnf.fo164_3) fun x35_22 h26 => ?_
   refine LV.nextM [] (by kernel_rfl) (fun z => absurd rfl z) ?_
   refine MV.force (i := 13) rfl ?_
   refine vy (V.fa h26 rfl Cnf.fo114_1) fun x36_23 h27 => ?_
   refine LV.nextM [] (by kernel_rfl) (fun z => absurd rfl z) ?_
   refine MV.force (i := 14) rfl ?_
   refine LV.st hS h27 rfl rfl rfl Cnf.siz109 rfl rfl fun T8 its h28 hS => ?_
   refine LV.nextM [] (by kernel_rfl) (fun z => absurd rfl z) ?_
   refine MV.done ?_
   exact pa2 hS h28 ⟨rfl, rfl, trivial⟩
  ·
   clear h1 h2 h3 h4 h5 h6 h7 h9
   subst e
   refine CV.skip ?_
   exact pa2 hS h10 ⟨rfl, rfl, trivial⟩
 ·
  intro y6 y7 T4 n4 ρ its hS h8
  unfold g108_k1 at h8
  clear h1 h2 h3 h4 h5 h6 h7
  refine sr ?_
  refine mv ?_
  refine as_ ?_
  refine dn ?_
  refine CV.ret ?_
  cases h8
  exact PV.ret (by simp) Tryz.results108 hS (RS.tmp rfl RS.nil) rfl
noncomputable def g76_k2 (ro : List HT) (y7 y20 : AV) (T4 : HT) (n4 : Nat) : R :=
 condK 760011 y20
 (
  .bad 760012
 )
 (
  eqK Tryz.prog 3 (.tmp 7) (.const (.int .i64 (.ofNat 42))) 760013 y7 (.lit (.int .i64 (.ofNat 42))) fun x28_9 =>
  condK 760015 x28_9
  (
   .bad 760016
  )
  (
   .ok (.val (.tup [])) T4 n4
  )
 )
noncomputable def g76_k1 (ro : List HT) (y0 y3 y7 y8 : AV) (T2 : HT) (n2 : Nat) : R :=
 condK 760004 y8
 (
  faK 760006 y3 0 fun x15_4 =>
  ldK 760007 T2 ro x15_4 fun x16_5 =>
  faK 760008 y3 3 fun x17_6 =>
  ldK 760009 T2 ro x17_6 fun x18_7 =>
  callK (g108 ro y0 x16_5 x18_7 T2 n2) fun x19_8 T3 n3 =>
  .ok (.val (.tup [])) T3 n3
 )
 (
  eqK Tryz.prog 3 (.tmp 7) (.const (.int .i64 (.ofNat 12))) 760017 y7 (.lit (.int .i64 (.ofNat 12))) fun x21_10 =>
  condK 760019 x21_10
  (
   g76_k2 ro y7 (.lit (.bool true)) T2 n2
  )
  (
   eqK Tryz.prog 3 (.tmp 7) (.const (.int .i64 (.ofNat 11))) 760020 y7 (.lit (.int .i64 (.ofNat 11))) fun x22_11 =>
   g76_k2 ro y7 x22_11 T2 n2
  )
 )
noncomputable def g76 (ro : List HT) (a0 a1 : AV) (T : HT) (nx : Nat) : R :=
 boxK 760001 T nx a1 172 fun x3_1 T1 n1 =>
 faK 760002 x3_1 0 fun x6_2 =>
 ldK 760003 T1 ro x6_2 fun x7_3 =>
 eqK Tryz.prog 3 (.tmp 7) (.const (.int .i64 (.ofNat 1))) 760022 x7_3 (.lit (.int .i64 (.ofNat 1))) fun x9_12 =>
 condK 760024 x9_12
 (
  g76_k1 ro a0 x3_1 x7_3 (.lit (.bool true)) T1 n1
 )
 (
  eqK Tryz.prog 3 (.tmp 7) (.const (.int .i64 (.ofNat 2))) 760025 x7_3 (.lit (.int .i64 (.ofNat 2))) fun x10_13 =>
  condK 760027 x10_13
  (
   g76_k1 ro a0 x3_1 x7_3 (.lit (.bool true)) T1 n1
  )
  (
   eqK Tryz.prog 3 (.tmp 7) (.const (.int .i64 (.ofNat 3))) 760028 x7_3 (.lit (.int .i64 (.ofNat 3))) fun x11_14 =>
   condK 760030 x11_14
   (
    g76_k1 ro a0 x3_1 x7_3 (.lit (.bool true)) T1 n1
   )
   (
    eqK Tryz.prog 3 (.tmp 7) (.const (.int .i64 (.ofNat 4))) 760031 x7_3 (.lit (.int .i64 (.ofNat 4))) fun x12_15 =>
    condK 760033 x12_15
    (
     g76_k1 ro a0 x3_1 x7_3 (.lit (.bool true)) T1 n1
    )
    (
     eqK Tryz.prog 3 (.tmp 7) (.const (.int .i64 (.ofNat 5))) 760034 x7_3 (.lit (.int .i64 (.ofNat 5))) fun x13_16 =>
     g76_k1 ro a0 x3_1 x7_3 x13_16 T1 n1
    )
   )
  )
 )
theorem g76_ok (ro : List HT) (a0 a1 : AV) (T : HT) (nx : Nat) : GOk Tryz.prog envE 76 [a0, a1] ro T nx (g76 ro a0 a1 T nx) := by
 refine GOk.of_body Tryz.func76 rfl Tryz.ntmps76 (by kernel_rfl) rfl fun r T' n' h1 w0 base ρ0 its hS hP => ?_
 have X : CtxW envE ρ0 ro r T' n' := trivial
 unfold g76 at h1
 refine sr ?_
 refine LV.box hS h1 rfl rfl rfl rfl rfl fun x3_1 T1 n1 h2 ρ its hS hdr => ?_
 refine dn ?_
 refine sr ?_
 refine vy (V.fa h2 rfl Cnf.fo172_0) fun x6_2 h3 => ?_
 refine vy (V.ld hS h3 rfl Cnf.one3) fun x7_3 h4 => ?_
 refine dn ?_
 refine CV.block ?_
 refine cs4 X 0 3 7 8 [] (g76_k1 ro) ?_ ?_
 ·
  refine sr ?_
  refine vy (V.eq h4 rfl rfl) fun x9_12 h19 => ?_
  refine as_ ?_
  refine dn ?_
  refine CV.cond h19 rfl (fun e h20 => ?_) (fun e h20 => ?_)
  ·
   clear h1 h2 h3 h4 h19
   subst e
   refine CV.skip ?_
   exact pa4 hS h20 ⟨rfl, rfl, rfl, rfl, trivial⟩
  ·
   clear h1 h2 h3 h4 h19
   subst e
   refine sr ?_
   refine vy (V.eq h20 rfl rfl) fun x10_13 h21 => ?_
   refine as_ ?_
   refine dn ?_
   refine CV.cond h21 rfl (fun e h22 => ?_) (fun e h22 => ?_)
   ·
    clear h20 h21
    subst e
    refine CV.skip ?_
    exact pa4 hS h22 ⟨rfl, rfl, rfl, rfl, trivial⟩
   ·
    clear h20 h21
    subst e
    refine sr ?_
    refine vy (V.eq h22 rfl rfl) fun x11_14 h23 => ?_
    refine as_ ?_
    refine dn ?_
    refine CV.cond h23 rfl (fun e h24 => ?_) (fun e h24 => ?_)
    ·
     clear h22 h23
     subst e
     refine CV.skip ?_
     exact pa4 hS h24 ⟨rfl, rfl, rfl, rfl, trivial⟩
    ·
     clear h22 h23
     subst e
     refine sr ?_
     refine vy (V.eq h24 rfl rfl) fun x12_15 h25 => ?_
     refine as_ ?_
     refine dn ?_
     refine CV.cond h25 rfl (fun e h26 => ?_) (fun e h26 => ?_)
     ·
      clear h24 h25
      subst e
      refine CV.skip ?_
      exact pa4 hS h26 ⟨rfl, rfl, rfl, rfl, trivial⟩
     ·
      clear h24 h25
      subst e
      refine CV.region ?_
      refine vy (V.eq h26 rfl rfl) fun x13_16 h27 => ?_
      refine as_ ?_
      refine LV.done ?_
      exact pa4 hS h27 ⟨rfl, rfl, rfl, rfl, trivial⟩
 ·
  intro y0 y3 y7 y8 T2 n2 ρ its hS h5
  unfold g76_k1 at h5
  clear h1 h2 h3 h4
  refine CV.cond h5 rfl (fun e h6 => ?_) (fun e h6 => ?_)
  ·
   clear h5
   subst e
   refine CV.region ?_
   refine mv ?_
   refine vy (V.fa h6 rfl Cnf.fo172_0) fun x15_4 h7 => ?_
   refine vy (V.ld hS h7 rfl Cnf.one3) fun x16_5 h8 => ?_
   refine vy (V.fa h8 rfl Cnf.fo172_3) fun x17_6 h9 => ?_
   refine vy (V.ld hS h9 rfl Cnf.one9) fun x18_7 h10 => ?_
   refine LV.call hS h10 (g108_ok _ _ _ _ _ _ ) hP rfl rfl rfl rfl fun x19_8 T3 n3 h11 ρ its hS => ?_
   refine LV.done ?_
   refine PV.blockN ?_
   cases h11
   exact PV.ret (by simp) Tryz.results76 hS RS.nil rfl
  ·
   clear h5
   subst e
   refine cs2 X 7 20 [] (g76_k2 ro) ?_ ?_
   ·
    refine sr ?_
    refine vy (V.eq h6 rfl rfl) fun x21_10 h16 => ?_
    refine as_ ?_
    refine dn ?_
    refine CV.cond h16 rfl (fun e h17 => ?_) (fun e h17 => ?_)
    ·
     clear h6 h16
     subst e
     refine CV.skip ?_
     exact pa2 hS h17 ⟨rfl, rfl, trivial⟩
    ·
     clear h6 h16
     subst e
     refine CV.region ?_
     refine vy (V.eq h17 rfl rfl) fun x22_11 h18 => ?_
     refine as_ ?_
     refine LV.done ?_
     exact pa2 hS h18 ⟨rfl, rfl, trivial⟩
   ·
    intro y7 y20 T4 n4 ρ its hS h12
    unfold g76_k2 at h12
    clear h6
    refine CV.cond h12 rfl (fun e h13 => ?_) (fun e h13 => ?_)
    ·
     clear h12
     subst e
     cases h13
    ·
     clear h12
     subst e
     refine sr ?_
     refine vy (V.eq h13 rfl rfl) fun x28_9 h14 => ?_
     refine as_ ?_
     refine dn ?_
     refine CV.cond h14 rfl (fun e h15 => ?_) (fun e h15 => ?_)
     ·
      clear h13 h14
      subst e
      cases h15
     ·
      clear h13 h14
      subst e
      refine CV.skip ?_
      refine PV.blockN ?_
      cases h15
      exact PV.ret (by simp) Tryz.results76 hS RS.nil rfl
noncomputable def g111 (ro : List HT) (a0 a1 a2 a3 a4 : AV) (T : HT) (nx : Nat) : R :=
 fldK 1110004 T ro a0 7 fun x15_1 =>
 optK 1110009 (bld60 [(0, a1), (1, a2), (2, a3), (3, a4)]) fun x20_2 =>
 bsK 1110010 T nx 1 60 4 [(0, x20_2)] fun x21_3 T1 n1 =>
 shrK 1110012 T1 x15_1 fun T2 =>
 appEK 1110011 T2 ro n1 60 4 32 x15_1 x21_3 fun x22_4 T3 n3 =>
 faK 1110013 a0 7 fun x24_5 =>
 stK 1110014 T3 x24_5 x22_4 fun T4 =>
 fldK 1110016 T4 ro a0 7 fun x28_6 =>
 lenSK 1110017 x28_6 fun x29_7 =>
 subK Tryz.prog 3 (.tmp 29) (.const (.int .i64 (.ofNat 1))) 1110018 x29_7 (.lit (.int .i64 (.ofNat 1))) fun x30_8 =>
 .ok (.val x30_8) T4 n3
theorem g111_ok (ro : List HT) (a0 a1 a2 a3 a4 : AV) (T : HT) (nx : Nat) : GOk Tryz.prog envE 111 [a0, a1, a2, a3, a4] ro T nx (g111 ro a0 a1 a2 a3 a4 T nx) := by
 refine GOk.of_body Tryz.func111 rfl Tryz.ntmps111 (by kernel_rfl) rfl fun r T' n' h1 w0 base ρ0 its hS hP => ?_
 have X : CtxW envE ρ0 ro r T' n' := trivial
 unfold g111 at h1
 refine sr ?_
 refine as_ ?_
 refine dn ?_
 refine sr ?_
 refine mv ?_
 refine mv ?_
 refine fl hS h1 Cnf.fo164_4 Cnf.one161 fun x15_1 h2 => ?_
 refine mv ?_
 refine mv ?_
 refine mv ?_
 refine mv ?_
 refine vy (V.bld h2 rfl) fun x20_2 h3 => ?_
 refine LV.bslice hS h3 rfl rfl Cnf.el161 rfl rfl rfl rfl fun x21_3 T1 n1 h4 ρ its hS hdr => ?_
 obtain ⟨T2, its1, h5, hS, hW⟩ := shrK_inv hS h4
 refine LV.world hW ?_
 refine LV.appE hS h5 rfl rfl rfl rfl Cnf.el161 rfl rfl rfl fun x22_4 T3 n3 h6 ρ its hS => ?_
 refine fa2 h6 Cnf.fo164_4 fun x24_5 h7 => ?_
 refine LV.st hS h7 rfl rfl rfl Cnf.siz161 rfl rfl fun T4 its h8 hS => ?_
 refine dn ?_
 refine sr ?_
 refine mv ?_
 refine fl hS h8 Cnf.fo164_4 Cnf.one161 fun x28_6 h9 => ?_
 refine vy (V.lenS h9 rfl Cnf.ls161) fun x29_7 h10 => ?_
 refine vy (V.sub h10 rfl rfl) fun x30_8 h11 => ?_
 refine as_ ?_
 refine dn ?_
 refine CV.ret ?_
 cases h11
 exact PV.ret (by simp) Tryz.results111 hS (RS.tmp rfl RS.nil) rfl
noncomputable def g203_k2 (ro : List HT) (y17 y82 : AV) (T6 : HT) (n6 : Nat) : R :=
 condK 2030038 y82
 (
  .bad 2030039
 )
 (
  eqK Tryz.prog 3 (.tmp 17) (.const (.int .i64 (.ofNat 20))) 2030040 y17 (.lit (.int .i64 (.ofNat 20))) fun x110_19 =>
  condK 2030042 x110_19
  (
   .bad 2030043
  )
  (
   eqK Tryz.prog 3 (.tmp 17) (.const (.int .i64 (.ofNat 10))) 2030044 y17 (.lit (.int .i64 (.ofNat 10))) fun x146_20 =>
   condK 2030046 x146_20
   (
    .bad 2030047
   )
   (
    eqK Tryz.prog 3 (.tmp 17) (.const (.int .i64 (.ofNat 34))) 2030048 y17 (.lit (.int .i64 (.ofNat 34))) fun x151_21 =>
    .bad 2030050
   )
  )
 )
noncomputable def g203_k1 (ro : List HT) (y0 y4 y17 y21 : AV) (T3 : HT) (n3 : Nat) : R :=
 condK 2030010 y21
 (
  faK 2030013 y4 0 fun x29_7 =>
  ldQK 2030014 T3 ro [(y4, 0, 1), (y4, 3, 1), (y4, 2, 1)] x29_7 fun x30_8 =>
  faK 2030015 y4 3 fun x31_9 =>
  ldQK 2030016 T3 ro [(y4, 0, 1), (y4, 3, 1), (y4, 2, 1)] x31_9 fun x32_10 =>
  faK 2030017 y4 2 fun x34_11 =>
  ldQK 2030018 T3 ro [(y4, 0, 1), (y4, 3, 1), (y4, 2, 1)] x34_11 fun x35_12 =>
  callK (g108 ro y0 x30_8 x32_10 T3 n3) fun x33_13 T4 n4 =>
  keepK 2030020 T3 T4 [(y4, 0, 1), (y4, 3, 1), (y4, 2, 1)] <|
  callK (g111 ro y0 (.lit (.int .i64 (.ofNat 1))) x33_13 (.lit (.int .i64 (.ofNat 0))) x35_12 T4 n4) fun x36_14 T5 n5 =>
  .ok (.val (.tup [])) T5 n5
 )
 (
  eqK Tryz.prog 3 (.tmp 17) (.const (.int .i64 (.ofNat 6))) 2030022 y17 (.lit (.int .i64 (.ofNat 6))) fun x38_15 =>
  condK 2030024 x38_15
  (
   .bad 2030025
  )
  (
   eqK Tryz.prog 3 (.tmp 17) (.const (.int .i64 (.ofNat 7))) 2030026 y17 (.lit (.int .i64 (.ofNat 7))) fun x43_16 =>
   condK 2030028 x43_16
   (
    .bad 2030029
   )
   (
    eqK Tryz.prog 3 (.tmp 17) (.const (.int .i64 (.ofNat 8))) 2030030 y17 (.lit (.int .i64 (.ofNat 8))) fun x56_17 =>
    condK 2030032 x56_17
    (
     .bad 2030033
    )
    (
     eqK Tryz.prog 3 (.tmp 17) (.const (.int .i64 (.ofNat 9))) 2030034 y17 (.lit (.int .i64 (.ofNat 9))) fun x69_18 =>
     condK 2030036 x69_18
     (
      .bad 2030037
     )
     (
      eqK Tryz.prog 3 (.tmp 17) (.const (.int .i64 (.ofNat 18))) 2030051 y17 (.lit (.int .i64 (.ofNat 18))) fun x83_22 =>
      condK 2030053 x83_22
      (
       g203_k2 ro y17 (.lit (.bool true)) T3 n3
      )
      (
       eqK Tryz.prog 3 (.tmp 17) (.const (.int .i64 (.ofNat 19))) 2030054 y17 (.lit (.int .i64 (.ofNat 19))) fun x84_23 =>
       g203_k2 ro y17 x84_23 T3 n3
      )
     )
    )
   )
  )
 )
noncomputable def g203 (ro : List HT) (a0 a1 : AV) (T : HT) (nx : Nat) : R :=
 fldK 2030002 T ro a0 0 fun x12_1 =>
 iaK 2030004 x12_1 a1 5 fun x14_2 =>
 ldAK 2030005 T ro x14_2 5 fun x15_3 =>
 newK T nx (.obj [.lit (.int .i64 0), .lit (.int .i64 0), .lit (.int .i64 0), .lit (.string ⟨#[]⟩), .lit (.slice none 0 0)] 172) fun x4_4 T1 n1 =>
 stAK 2030007 T1 x4_4 x15_3 5 fun T2 =>
 faK 2030008 x4_4 0 fun x16_5 =>
 ldK 2030009 T2 ro x16_5 fun x17_6 =>
 eqK Tryz.prog 3 (.tmp 17) (.const (.int .i64 (.ofNat 1))) 2030056 x17_6 (.lit (.int .i64 (.ofNat 1))) fun x22_24 =>
 condK 2030058 x22_24
 (
  g203_k1 ro a0 x4_4 x17_6 (.lit (.bool true)) T2 n1
 )
 (
  eqK Tryz.prog 3 (.tmp 17) (.const (.int .i64 (.ofNat 2))) 2030059 x17_6 (.lit (.int .i64 (.ofNat 2))) fun x23_25 =>
  condK 2030061 x23_25
  (
   g203_k1 ro a0 x4_4 x17_6 (.lit (.bool true)) T2 n1
  )
  (
   eqK Tryz.prog 3 (.tmp 17) (.const (.int .i64 (.ofNat 3))) 2030062 x17_6 (.lit (.int .i64 (.ofNat 3))) fun x24_26 =>
   condK 2030064 x24_26
   (
    g203_k1 ro a0 x4_4 x17_6 (.lit (.bool true)) T2 n1
   )
   (
    eqK Tryz.prog 3 (.tmp 17) (.const (.int .i64 (.ofNat 4))) 2030065 x17_6 (.lit (.int .i64 (.ofNat 4))) fun x25_27 =>
    condK 2030067 x25_27
    (
     g203_k1 ro a0 x4_4 x17_6 (.lit (.bool true)) T2 n1
    )
    (
     eqK Tryz.prog 3 (.tmp 17) (.const (.int .i64 (.ofNat 5))) 2030068 x17_6 (.lit (.int .i64 (.ofNat 5))) fun x26_28 =>
     g203_k1 ro a0 x4_4 x17_6 x26_28 T2 n1
    )
   )
  )
 )
theorem g203_ok (ro : List HT) (a0 a1 : AV) (T : HT) (nx : Nat) : GOk Tryz.prog envE 203 [a0, a1] ro T nx (g203 ro a0 a1 T nx) := by
 refine GOk.of_body Tryz.func203 rfl Tryz.ntmps203 (by kernel_rfl) rfl fun r T' n' h1 w0 base ρ0 its hS hP => ?_
 have X : CtxW envE ρ0 ro r T' n' := trivial
 unfold g203 at h1
 refine sr ?_
 refine mv ?_
 refine fl hS h1 Cnf.fo164_0 Cnf.one109 fun x12_1 h2 => ?_
 refine mv ?_
 refine vy (V.ia h2 rfl rfl Cnf.el109) fun x14_2 h3 => ?_
 refine vy (V.ldA hS h3 rfl Cnf.agg172) fun x15_3 h4 => ?_
 refine LV.alloc hS h4 rfl Cnf.zr172 rfl rfl rfl fun x4_4 T1 n1 h5 ρ its hS hdr => ?_
 refine LV.stA hS h5 rfl rfl rfl Cnf.agg172 rfl rfl rfl fun T2 its h6 hS => ?_
 refine dn ?_
 refine sr ?_
 refine vy (V.fa h6 rfl Cnf.fo172_0) fun x16_5 h7 => ?_
 refine vy (V.ld hS h7 rfl Cnf.one3) fun x17_6 h8 => ?_
 refine dn ?_
 refine CV.block ?_
 refine cs4 X 0 4 17 21 [] (g203_k1 ro) ?_ ?_
 ·
  refine sr ?_
  refine vy (V.eq h8 rfl rfl) fun x22_24 h38 => ?_
  refine as_ ?_
  refine dn ?_
  refine CV.cond h38 rfl (fun e h39 => ?_) (fun e h39 => ?_)
  ·
   clear h1 h2 h3 h4 h5 h6 h7 h8 h38
   subst e
   refine CV.skip ?_
   exact pa4 hS h39 ⟨rfl, rfl, rfl, rfl, trivial⟩
  ·
   clear h1 h2 h3 h4 h5 h6 h7 h8 h38
   subst e
   refine sr ?_
   refine vy (V.eq h39 rfl rfl) fun x23_25 h40 => ?_
   refine as_ ?_
   refine dn ?_
   refine CV.cond h40 rfl (fun e h41 => ?_) (fun e h41 => ?_)
   ·
    clear h39 h40
    subst e
    refine CV.skip ?_
    exact pa4 hS h41 ⟨rfl, rfl, rfl, rfl, trivial⟩
   ·
    clear h39 h40
    subst e
    refine sr ?_
    refine vy (V.eq h41 rfl rfl) fun x24_26 h42 => ?_
    refine as_ ?_
    refine dn ?_
    refine CV.cond h42 rfl (fun e h43 => ?_) (fun e h43 => ?_)
    ·
     clear h41 h42
     subst e
     refine CV.skip ?_
     exact pa4 hS h43 ⟨rfl, rfl, rfl, rfl, trivial⟩
    ·
     clear h41 h42
     subst e
     refine sr ?_
     refine vy (V.eq h43 rfl rfl) fun x25_27 h44 => ?_
     refine as_ ?_
     refine dn ?_
     refine CV.cond h44 rfl (fun e h45 => ?_) (fun e h45 => ?_)
     ·
      clear h43 h44
      subst e
      refine CV.skip ?_
      exact pa4 hS h45 ⟨rfl, rfl, rfl, rfl, trivial⟩
     ·
      clear h43 h44
      subst e
      refine CV.region ?_
      refine vy (V.eq h45 rfl rfl) fun x26_28 h46 => ?_
      refine as_ ?_
      refine LV.done ?_
      exact pa4 hS h46 ⟨rfl, rfl, rfl, rfl, trivial⟩
 ·
  intro y0 y4 y17 y21 T3 n3 ρ its hS h9
  unfold g203_k1 at h9
  clear h1 h2 h3 h4 h5 h6 h7 h8
  refine CV.cond h9 rfl (fun e h10 => ?_) (fun e h10 => ?_)
  ·
   clear h9
   subst e
   refine CV.regionMS hS [(y4, 0, 1), (y4, 3, 1), (y4, 2, 1)] [(0, .anywhere), (1, .anywhere), (2, .anywhere), (3, .held), (4, .anywhere), (5, .held), (7, .anywhere), (8, .held), (6, .alone), (9, .alone)] rfl (fun c a a' w hd hq => PanicOk.root (P := Tryz.prog) (fn := Tryz.f203) (w0 := w0) (base := base) (E := envE) (ro := ro) (r := r) (T' := T') (n' := n') (ρ0 := ρ0) c a a' w hd hq) (by kernel_rfl) ?_
   have hK := KeepS.start [(y4, 0, 1), (y4, 3, 1), (y4, 2, 1)] hS
   have hR := hS
   have hP0 := hP
   replace hP := PK.up hR hP
   replace hS := hR.root
   refine MV.step0 (i := 0) rfl (VAL.move rfl) rfl rfl rfl ?_
   refine MV.step0 (i := 1) rfl (VAL.move rfl) rfl rfl rfl ?_
   refine MV.lift0 (i := 2) rfl (V.fa h10 rfl Cnf.fo172_0) rfl rfl rfl fun x29_7 h11 => ?_
   refine MV.lift1 (i := 3) rfl hK (V.ldQ hS h11 rfl Cnf.one3) rfl rfl rfl [] (by kernel_rfl) fun x30_8 h12 => ?_
   refine MV.lift0 (i := 4) rfl (V.fa h12 rfl Cnf.fo172_3) rfl rfl rfl fun x31_9 h13 => ?_
   refine MV.lift1 (i := 5) rfl hK (V.ldQ hS h13 rfl Cnf.one9) rfl rfl rfl [3] (by kernel_rfl) fun x32_10 h14 => ?_
   refine MV.lift0 (i := 7) rfl (V.fa h14 rfl Cnf.fo172_2) rfl rfl rfl fun x34_11 h15 => ?_
   refine MV.lift1 (i := 8) rfl hK (V.ldQ hS h15 rfl Cnf.one3) rfl rfl rfl [5, 3] (by kernel_rfl) fun x35_12 h16 => ?_
   refine MV.force (i := 6) rfl ?_
   refine LV.call hS h16 (g108_ok _ _ _ _ _ _ ) hP rfl rfl rfl rfl fun x33_13 T4 n4 h17 ρ its hS => ?_
   obtain ⟨hK, h18⟩ := KeepS.step hR hS h17
   refine LV.nextM [8] (by kernel_rfl) (fun _ => hK) ?_
   refine MV.force (i := 9) rfl ?_
   refine LV.call hS h18 (g111_ok _ _ _ _ _ _ _ _ ) hP rfl rfl rfl rfl fun x36_14 T5 n5 h19 ρ its hS => ?_
   refine LV.nextM [] (by kernel_rfl) (fun z => absurd rfl z) ?_
   replace hS := hR.up hS
   replace hP := hP0
   refine MV.done ?_
   refine PV.blockN ?_
   cases h19
   exact PV.ret (by simp) Tryz.results203 hS RS.nil rfl
  ·
   clear h9
   subst e
   refine sr ?_
   refine vy (V.eq h10 rfl rfl) fun x38_15 h20 => ?_
   refine as_ ?_
   refine dn ?_
   refine CV.cond h20 rfl (fun e h21 => ?_) (fun e h21 => ?_)
   ·
    clear h10 h20
    subst e
    cases h21
   ·
    clear h10 h20
    subst e
    refine sr ?_
    refine vy (V.eq h21 rfl rfl) fun x43_16 h22 => ?_
    refine as_ ?_
    refine dn ?_
    refine CV.cond h22 rfl (fun e h23 => ?_) (fun e h23 => ?_)
    ·
     clear h21 h22
     subst e
     cases h23
    ·
     clear h21 h22
     subst e
     refine sr ?_
     refine vy (V.eq h23 rfl rfl) fun x56_17 h24 => ?_
     refine as_ ?_
     refine dn ?_
     refine CV.cond h24 rfl (fun e h25 => ?_) (fun e h25 => ?_)
     ·
      clear h23 h24
      subst e
      cases h25
     ·
      clear h23 h24
      subst e
      refine sr ?_
      refine vy (V.eq h25 rfl rfl) fun x69_18 h26 => ?_
      refine as_ ?_
      refine dn ?_
      refine CV.cond h26 rfl (fun e h27 => ?_) (fun e h27 => ?_)
      ·
       clear h25 h26
       subst e
       cases h27
      ·
       clear h25 h26
       subst e
       refine cs2 X 17 82 [] (g203_k2 ro) ?_ ?_
       ·
        refine sr ?_
        refine vy (V.eq h27 rfl rfl) fun x83_22 h35 => ?_
        refine as_ ?_
        refine dn ?_
        refine CV.cond h35 rfl (fun e h36 => ?_) (fun e h36 => ?_)
        ·
         clear h27 h35
         subst e
         refine CV.skip ?_
         exact pa2 hS h36 ⟨rfl, rfl, trivial⟩
        ·
         clear h27 h35
         subst e
         refine CV.region ?_
         refine vy (V.eq h36 rfl rfl) fun x84_23 h37 => ?_
         refine as_ ?_
         refine LV.done ?_
         exact pa2 hS h37 ⟨rfl, rfl, trivial⟩
       ·
        intro y17 y82 T6 n6 ρ its hS h28
        unfold g203_k2 at h28
        clear h27
        refine CV.cond h28 rfl (fun e h29 => ?_) (fun e h29 => ?_)
        ·
         clear h28
         subst e
         cases h29
        ·
         clear h28
         subst e
         refine sr ?_
         refine vy (V.eq h29 rfl rfl) fun x110_19 h30 => ?_
         refine as_ ?_
         refine dn ?_
         refine CV.cond h30 rfl (fun e h31 => ?_) (fun e h31 => ?_)
         ·
          clear h29 h30
          subst e
          cases h31
         ·
          clear h29 h30
          subst e
          refine sr ?_
          refine vy (V.eq h31 rfl rfl) fun x146_20 h32 => ?_
          refine as_ ?_
          refine dn ?_
          refine CV.cond h32 rfl (fun e h33 => ?_) (fun e h33 => ?_)
          ·
           clear h31 h32
           subst e
           cases h33
          ·
           clear h31 h32
           subst e
           refine sr ?_
           refine vy (V.eq h33 rfl rfl) fun x151_21 h34 => ?_
           refine as_ ?_
           refine dn ?_
           cases h34
noncomputable def g249_k1 (ro : List HT) (y0 y1 y10 y11 : AV) (T3 : HT) (n3 : Nat) : R :=
 faK 2490011 y10 2 fun x29_4 =>
 ldK 2490012 T3 ro x29_4 fun x30_5 =>
 ncK 2490014 y0 fun x32_6 =>
 faK 2490015 x32_6 0 fun x33_7 =>
 ldK 2490016 T3 ro x33_7 fun x34_8 =>
 iaK 2490018 x34_8 y1 5 fun x36_9 =>
 faK 2490019 x36_9 2 fun x37_10 =>
 ldK 2490020 T3 ro x37_10 fun x38_11 =>
 callK (g111 ro y0 y11 x30_5 (.lit (.int .i64 (.ofNat 0))) x38_11 T3 n3) fun x39_12 T4 n4 =>
 .ok (.val (.tup [])) T4 n4
noncomputable def g249 (ro : List HT) (a0 a1 a2 a3 a4 : AV) (T : HT) (nx : Nat) : R :=
 fldK 2490002 T ro a0 1 fun x15_1 =>
 lkIK 2490004 T ro x15_1 a1 (.lit (.agg #[.int .i64 0, .int .i64 0, .int .i64 0])) false fun x17_2 =>
 newK T nx (.obj [.lit (.int .i64 0), .lit (.int .i64 0), .lit (.int .i64 0)] 166) fun x10_3 T1 n1 =>
 stAK 2490006 T1 x10_3 x17_2 3 fun T2 =>
 faK 2490022 x10_3 1 fun x19_13 =>
 ldK 2490023 T2 ro x19_13 fun x20_14 =>
 eqK Tryz.prog 3 (.tmp 20) (.const (.int .i64 (.ofNat 1))) 2490024 x20_14 (.lit (.int .i64 (.ofNat 1))) fun x22_15 =>
 condK 2490026 x22_15
 (
  .bad 2490027
 )
 (
  eqK Tryz.prog 3 (.tmp 20) (.const (.int .i64 (.ofNat 2))) 2490028 x20_14 (.lit (.int .i64 (.ofNat 2))) fun x25_16 =>
  condK 2490030 x25_16
  (
   g249_k1 ro a0 a1 x10_3 a3 T2 n1
  )
  (
   g249_k1 ro a0 a1 x10_3 a4 T2 n1
  )
 )
theorem g249_ok (ro : List HT) (a0 a1 a2 a3 a4 : AV) (T : HT) (nx : Nat) : GOk Tryz.prog envE 249 [a0, a1, a2, a3, a4] ro T nx (g249 ro a0 a1 a2 a3 a4 T nx) := by
 refine GOk.of_body Tryz.func249 rfl Tryz.ntmps249 (by kernel_rfl) rfl fun r T' n' h1 w0 base ρ0 its hS hP => ?_
 have X : CtxW envE ρ0 ro r T' n' := trivial
 unfold g249 at h1
 refine sr ?_
 refine mv ?_
 refine fl hS h1 Cnf.fo164_1 Cnf.one160 fun x15_1 h2 => ?_
 refine mv ?_
 refine vy (V.lkI hS h2 rfl rfl Cnf.map160 Cnf.ud3 Cnf.zw166) fun x17_2 h3 => ?_
 refine LV.alloc hS h3 rfl Cnf.zr166 rfl rfl rfl fun x10_3 T1 n1 h4 ρ its hS hdr => ?_
 refine LV.stA hS h4 rfl rfl rfl Cnf.agg166 rfl rfl rfl fun T2 its h5 hS => ?_
 refine dn ?_
 refine sr ?_
 refine mv ?_
 refine as_ ?_
 refine dn ?_
 refine cs4 X 0 1 10 11 [] (g249_k1 ro) ?_ ?_
 ·
  refine sr ?_
  refine vy (V.fa h5 rfl Cnf.fo166_1) fun x19_13 h16 => ?_
  refine vy (V.ld hS h16 rfl Cnf.one3) fun x20_14 h17 => ?_
  refine dn ?_
  refine CV.block ?_
  refine sr ?_
  refine vy (V.eq h17 rfl rfl) fun x22_15 h18 => ?_
  refine as_ ?_
  refine dn ?_
  refine CV.cond h18 rfl (fun e h19 => ?_) (fun e h19 => ?_)
  ·
   clear h1 h2 h3 h4 h5 h16 h17 h18
   subst e
   cases h19
  ·
   clear h1 h2 h3 h4 h5 h16 h17 h18
   subst e
   refine sr ?_
   refine vy (V.eq h19 rfl rfl) fun x25_16 h20 => ?_
   refine as_ ?_
   refine dn ?_
   refine CV.cond h20 rfl (fun e h21 => ?_) (fun e h21 => ?_)
   ·
    clear h19 h20
    subst e
    refine CV.region ?_
    refine mv ?_
    refine as_ ?_
    refine LV.done ?_
    refine PV.blockN ?_
    exact pa4 hS h21 ⟨rfl, rfl, rfl, rfl, trivial⟩
   ·
    clear h19 h20
    subst e
    refine CV.skip ?_
    refine PV.blockN ?_
    exact pa4 hS h21 ⟨rfl, rfl, rfl, rfl, trivial⟩
 ·
  intro y0 y1 y10 y11 T3 n3 ρ its hS h6
  unfold g249_k1 at h6
  clear h1 h2 h3 h4 h5
  refine CV.regionM [(0, .anywhere), (1, .anywhere), (2, .anywhere), (3, .held), (4, .anywhere), (5, .anywhere), (6, .anywhere), (7, .held), (8, .anywhere), (9, .held), (10, .held), (11, .held), (12, .alone)] rfl (fun c a a' w hd hq => PanicOk.root (P := Tryz.prog) (fn := Tryz.f249) (w0 := w0) (base := base) (E := envE) (ro := ro) (r := r) (T' := T') (n' := n') (ρ0 := ρ0) c a a' w hd hq) (by kernel_rfl) ?_
  refine MV.step0 (i := 0) rfl (VAL.move rfl) rfl rfl rfl ?_
  refine MV.step0 (i := 1) rfl (VAL.move rfl) rfl rfl rfl ?_
  refine MV.lift0 (i := 2) rfl (V.fa h6 rfl Cnf.fo166_2) rfl rfl rfl fun x29_4 h7 => ?_
  refine MV.lift1 (i := 3) rfl (fun _ z => z) (V.ld hS h7 rfl Cnf.one3) rfl rfl rfl [] (by kernel_rfl) fun x30_5 h8 => ?_
  refine MV.step0 (i := 4) rfl (VAL.move rfl) rfl rfl rfl ?_
  refine MV.lift0 (i := 5) rfl (V.nc h8 rfl) rfl rfl rfl fun x32_6 h9 => ?_
  refine MV.lift0 (i := 6) rfl (V.fa h9 rfl Cnf.fo164_0) rfl rfl rfl fun x33_7 h10 => ?_
  refine MV.lift1 (i := 7) rfl (fun _ z => z) (V.ld hS h10 rfl Cnf.one109) rfl rfl rfl [3] (by kernel_rfl) fun x34_8 h11 => ?_
  refine MV.step0 (i := 8) rfl (VAL.move rfl) rfl rfl rfl ?_
  refine MV.lift1 (i := 9) rfl (fun _ z => z) (V.ia h11 rfl rfl Cnf.el109) rfl rfl rfl [3] (by kernel_rfl) fun x36_9 h12 => ?_
  refine MV.lift1 (i := 10) rfl (fun _ z => z) (V.fa h12 rfl Cnf.fo172_2) rfl rfl rfl [3] (by kernel_rfl) fun x37_10 h13 => ?_
  refine MV.lift1 (i := 11) rfl (fun _ z => z) (V.ld hS h13 rfl Cnf.one3) rfl rfl rfl [3] (by kernel_rfl) fun x38_11 h14 => ?_
  refine MV.force (i := 12) rfl ?_
  refine LV.call hS h14 (g111_ok _ _ _ _ _ _ _ _ ) hP rfl rfl rfl rfl fun x39_12 T4 n4 h15 ρ its hS => ?_
  refine LV.nextM [] (by kernel_rfl) (fun z => absurd rfl z) ?_
  refine MV.done ?_
  cases h15
  exact PV.ret (by simp) Tryz.results249 hS RS.nil rfl
noncomputable def g204 (ro : List HT) (a0 a1 : AV) (T : HT) (nx : Nat) : R :=
 fldK 2040002 T ro a0 0 fun x10_1 =>
 iaK 2040004 x10_1 a1 5 fun x12_2 =>
 ldAK 2040005 T ro x12_2 5 fun x13_3 =>
 newK T nx (.obj [.lit (.int .i64 0), .lit (.int .i64 0), .lit (.int .i64 0), .lit (.string ⟨#[]⟩), .lit (.slice none 0 0)] 172) fun x4_4 T1 n1 =>
 stAK 2040007 T1 x4_4 x13_3 5 fun T2 =>
 faK 2040008 x4_4 0 fun x14_5 =>
 ldK 2040009 T2 ro x14_5 fun x15_6 =>
 eqK Tryz.prog 3 (.tmp 15) (.const (.int .i64 (.ofNat 6))) 2040010 x15_6 (.lit (.int .i64 (.ofNat 6))) fun x17_7 =>
 condK 2040012 x17_7
 (
  callK (g249 ro a0 a1 (.lit (.int .i64 (.ofNat 3))) (.lit (.int .i64 (.ofNat 5))) (.lit (.int .i64 (.ofNat 0))) T2 n1) fun x20_8 T3 n3 =>
  .ok (.val (.tup [])) T3 n3
 )
 (
  eqK Tryz.prog 3 (.tmp 15) (.const (.int .i64 (.ofNat 8))) 2040016 x15_6 (.lit (.int .i64 (.ofNat 8))) fun x22_9 =>
  condK 2040018 x22_9
  (
   .bad 2040019
  )
  (
   eqK Tryz.prog 3 (.tmp 15) (.const (.int .i64 (.ofNat 13))) 2040020 x15_6 (.lit (.int .i64 (.ofNat 13))) fun x42_10 =>
   condK 2040022 x42_10
   (
    .bad 2040023
   )
   (
    .ok (.val (.tup [])) T2 n1
   )
  )
 )
theorem g204_ok (ro : List HT) (a0 a1 : AV) (T : HT) (nx : Nat) : GOk Tryz.prog envE 204 [a0, a1] ro T nx (g204 ro a0 a1 T nx) := by
 refine GOk.of_body Tryz.func204 rfl Tryz.ntmps204 (by kernel_rfl) rfl fun r T' n' h1 w0 base ρ0 its hS hP => ?_
 have X : CtxW envE ρ0 ro r T' n' := trivial
 unfold g204 at h1
 refine sr ?_
 refine mv ?_
 refine fl hS h1 Cnf.fo164_0 Cnf.one109 fun x10_1 h2 => ?_
 refine mv ?_
 refine vy (V.ia h2 rfl rfl Cnf.el109) fun x12_2 h3 => ?_
 refine vy (V.ldA hS h3 rfl Cnf.agg172) fun x13_3 h4 => ?_
 refine LV.alloc hS h4 rfl Cnf.zr172 rfl rfl rfl fun x4_4 T1 n1 h5 ρ its hS hdr => ?_
 refine LV.stA hS h5 rfl rfl rfl Cnf.agg172 rfl rfl rfl fun T2 its h6 hS => ?_
 refine dn ?_
 refine sr ?_
 refine vy (V.fa h6 rfl Cnf.fo172_0) fun x14_5 h7 => ?_
 refine vy (V.ld hS h7 rfl Cnf.one3) fun x15_6 h8 => ?_
 refine dn ?_
 refine CV.block ?_
 refine sr ?_
 refine vy (V.eq h8 rfl rfl) fun x17_7 h9 => ?_
 refine as_ ?_
 refine dn ?_
 refine CV.cond h9 rfl (fun e h10 => ?_) (fun e h10 => ?_)
 ·
  clear h1 h2 h3 h4 h5 h6 h7 h8 h9
  subst e
  refine CV.region ?_
  refine mv ?_
  refine mv ?_
  refine LV.call hS h10 (g249_ok _ _ _ _ _ _ _ _ ) hP rfl rfl rfl rfl fun x20_8 T3 n3 h11 ρ its hS => ?_
  refine LV.done ?_
  refine PV.blockN ?_
  cases h11
  exact PV.ret (by simp) Tryz.results204 hS RS.nil rfl
 ·
  clear h1 h2 h3 h4 h5 h6 h7 h8 h9
  subst e
  refine sr ?_
  refine vy (V.eq h10 rfl rfl) fun x22_9 h12 => ?_
  refine as_ ?_
  refine dn ?_
  refine CV.cond h12 rfl (fun e h13 => ?_) (fun e h13 => ?_)
  ·
   clear h10 h12
   subst e
   cases h13
  ·
   clear h10 h12
   subst e
   refine sr ?_
   refine vy (V.eq h13 rfl rfl) fun x42_10 h14 => ?_
   refine as_ ?_
   refine dn ?_
   refine CV.cond h14 rfl (fun e h15 => ?_) (fun e h15 => ?_)
   ·
    clear h13 h14
    subst e
    cases h15
   ·
    clear h13 h14
    subst e
    refine CV.skip ?_
    refine PV.blockN ?_
    cases h15
    exact PV.ret (by simp) Tryz.results204 hS RS.nil rfl
noncomputable def g151 (ro : List HT) (a0 a1 : AV) (T : HT) (nx : Nat) : R :=
 fldK 1510002 T ro a0 0 fun x9_1 =>
 iaK 1510004 x9_1 a1 5 fun x11_2 =>
 ldAK 1510005 T ro x11_2 5 fun x12_3 =>
 newK T nx (.obj [.lit (.int .i64 0), .lit (.int .i64 0), .lit (.int .i64 0), .lit (.string ⟨#[]⟩), .lit (.slice none 0 0)] 172) fun x4_4 T1 n1 =>
 stAK 1510007 T1 x4_4 x12_3 5 fun T2 =>
 faK 1510008 x4_4 0 fun x13_5 =>
 ldK 1510009 T2 ro x13_5 fun x14_6 =>
 eqK Tryz.prog 3 (.tmp 14) (.const (.int .i64 (.ofNat 35))) 1510010 x14_6 (.lit (.int .i64 (.ofNat 35))) fun x16_7 =>
 condK 1510012 x16_7
 (
  .bad 1510013
 )
 (
  eqK Tryz.prog 3 (.tmp 14) (.const (.int .i64 (.ofNat 36))) 1510014 x14_6 (.lit (.int .i64 (.ofNat 36))) fun x28_8 =>
  condK 1510016 x28_8
  (
   faK 1510018 x4_4 4 fun x30_9 =>
   ldK 1510019 T2 ro x30_9 fun x31_10 =>
   iaK 1510020 x31_10 (.lit (.int .i64 (.ofNat 1))) 1 fun x32_11 =>
   ldK 1510021 T2 ro x32_11 fun x33_12 =>
   callK (g203 ro a0 x33_12 T2 n1) fun x34_13 T3 n3 =>
   faK 1510024 x4_4 4 fun x36_14 =>
   ldK 1510025 T3 ro x36_14 fun x37_15 =>
   iaK 1510026 x37_15 (.lit (.int .i64 (.ofNat 0))) 1 fun x38_16 =>
   ldK 1510027 T3 ro x38_16 fun x39_17 =>
   callK (g204 ro a0 x39_17 T3 n3) fun x40_18 T4 n4 =>
   .ok (.val (.tup [])) T4 n4
  )
  (
   eqK Tryz.prog 3 (.tmp 14) (.const (.int .i64 (.ofNat 37))) 1510029 x14_6 (.lit (.int .i64 (.ofNat 37))) fun x42_19 =>
   condK 1510031 x42_19
   (
    .bad 1510032
   )
   (
    eqK Tryz.prog 3 (.tmp 14) (.const (.int .i64 (.ofNat 41))) 1510033 x14_6 (.lit (.int .i64 (.ofNat 41))) fun x47_20 =>
    condK 1510035 x47_20
    (
     .bad 1510036
    )
    (
     eqK Tryz.prog 3 (.tmp 14) (.const (.int .i64 (.ofNat 43))) 1510037 x14_6 (.lit (.int .i64 (.ofNat 43))) fun x69_21 =>
     condK 1510039 x69_21
     (
      .bad 1510040
     )
     (
      eqK Tryz.prog 3 (.tmp 14) (.const (.int .i64 (.ofNat 44))) 1510041 x14_6 (.lit (.int .i64 (.ofNat 44))) fun x74_22 =>
      condK 1510043 x74_22
      (
       .bad 1510044
      )
      (
       eqK Tryz.prog 3 (.tmp 14) (.const (.int .i64 (.ofNat 39))) 1510045 x14_6 (.lit (.int .i64 (.ofNat 39))) fun x79_23 =>
       condK 1510047 x79_23
       (
        .bad 1510048
       )
       (
        eqK Tryz.prog 3 (.tmp 14) (.const (.int .i64 (.ofNat 40))) 1510049 x14_6 (.lit (.int .i64 (.ofNat 40))) fun x109_24 =>
        condK 1510051 x109_24
        (
         .bad 1510052
        )
        (
         eqK Tryz.prog 3 (.tmp 14) (.const (.int .i64 (.ofNat 42))) 1510053 x14_6 (.lit (.int .i64 (.ofNat 42))) fun x128_25 =>
         condK 1510055 x128_25
         (
          .bad 1510056
         )
         (
          eqK Tryz.prog 3 (.tmp 14) (.const (.int .i64 (.ofNat 45))) 1510057 x14_6 (.lit (.int .i64 (.ofNat 45))) fun x133_26 =>
          condK 1510059 x133_26
          (
           .bad 1510060
          )
          (
           .ok (.val (.tup [])) T2 n1
          )
         )
        )
       )
      )
     )
    )
   )
  )
 )
theorem g151_ok (ro : List HT) (a0 a1 : AV) (T : HT) (nx : Nat) : GOk Tryz.prog envE 151 [a0, a1] ro T nx (g151 ro a0 a1 T nx) := by
 refine GOk.of_body Tryz.func151 rfl Tryz.ntmps151 (by kernel_rfl) rfl fun r T' n' h1 w0 base ρ0 its hS hP => ?_
 have X : CtxW envE ρ0 ro r T' n' := trivial
 unfold g151 at h1
 refine sr ?_
 refine mv ?_
 refine fl hS h1 Cnf.fo164_0 Cnf.one109 fun x9_1 h2 => ?_
 refine mv ?_
 refine vy (V.ia h2 rfl rfl Cnf.el109) fun x11_2 h3 => ?_
 refine vy (V.ldA hS h3 rfl Cnf.agg172) fun x12_3 h4 => ?_
 refine LV.alloc hS h4 rfl Cnf.zr172 rfl rfl rfl fun x4_4 T1 n1 h5 ρ its hS hdr => ?_
 refine LV.stA hS h5 rfl rfl rfl Cnf.agg172 rfl rfl rfl fun T2 its h6 hS => ?_
 refine dn ?_
 refine sr ?_
 refine vy (V.fa h6 rfl Cnf.fo172_0) fun x13_5 h7 => ?_
 refine vy (V.ld hS h7 rfl Cnf.one3) fun x14_6 h8 => ?_
 refine dn ?_
 refine CV.block ?_
 refine sr ?_
 refine vy (V.eq h8 rfl rfl) fun x16_7 h9 => ?_
 refine as_ ?_
 refine dn ?_
 refine CV.cond h9 rfl (fun e h10 => ?_) (fun e h10 => ?_)
 ·
  clear h1 h2 h3 h4 h5 h6 h7 h8 h9
  subst e
  cases h10
 ·
  clear h1 h2 h3 h4 h5 h6 h7 h8 h9
  subst e
  refine sr ?_
  refine vy (V.eq h10 rfl rfl) fun x28_8 h11 => ?_
  refine as_ ?_
  refine dn ?_
  refine CV.cond h11 rfl (fun e h12 => ?_) (fun e h12 => ?_)
  ·
   clear h10 h11
   subst e
   refine sr ?_
   refine mv ?_
   refine vy (V.fa h12 rfl Cnf.fo172_4) fun x30_9 h13 => ?_
   refine vy (V.ld hS h13 rfl Cnf.one170) fun x31_10 h14 => ?_
   refine vy (V.ia h14 rfl rfl Cnf.el170) fun x32_11 h15 => ?_
   refine vy (V.ld hS h15 rfl Cnf.one3) fun x33_12 h16 => ?_
   refine LV.call hS h16 (g203_ok _ _ _ _ _ ) hP rfl rfl rfl rfl fun x34_13 T3 n3 h17 ρ its hS => ?_
   refine dn ?_
   refine CV.region ?_
   refine mv ?_
   refine vy (V.fa h17 rfl Cnf.fo172_4) fun x36_14 h18 => ?_
   refine vy (V.ld hS h18 rfl Cnf.one170) fun x37_15 h19 => ?_
   refine vy (V.ia h19 rfl rfl Cnf.el170) fun x38_16 h20 => ?_
   refine vy (V.ld hS h20 rfl Cnf.one3) fun x39_17 h21 => ?_
   refine LV.call hS h21 (g204_ok _ _ _ _ _ ) hP rfl rfl rfl rfl fun x40_18 T4 n4 h22 ρ its hS => ?_
   refine LV.done ?_
   refine PV.blockN ?_
   cases h22
   exact PV.ret (by simp) Tryz.results151 hS RS.nil rfl
  ·
   clear h10 h11
   subst e
   refine sr ?_
   refine vy (V.eq h12 rfl rfl) fun x42_19 h23 => ?_
   refine as_ ?_
   refine dn ?_
   refine CV.cond h23 rfl (fun e h24 => ?_) (fun e h24 => ?_)
   ·
    clear h12 h23
    subst e
    cases h24
   ·
    clear h12 h23
    subst e
    refine sr ?_
    refine vy (V.eq h24 rfl rfl) fun x47_20 h25 => ?_
    refine as_ ?_
    refine dn ?_
    refine CV.cond h25 rfl (fun e h26 => ?_) (fun e h26 => ?_)
    ·
     clear h24 h25
     subst e
     cases h26
    ·
     clear h24 h25
     subst e
     refine sr ?_
     refine vy (V.eq h26 rfl rfl) fun x69_21 h27 => ?_
     refine as_ ?_
     refine dn ?_
     refine CV.cond h27 rfl (fun e h28 => ?_) (fun e h28 => ?_)
     ·
      clear h26 h27
      subst e
      cases h28
     ·
      clear h26 h27
      subst e
      refine sr ?_
      refine vy (V.eq h28 rfl rfl) fun x74_22 h29 => ?_
      refine as_ ?_
      refine dn ?_
      refine CV.cond h29 rfl (fun e h30 => ?_) (fun e h30 => ?_)
      ·
       clear h28 h29
       subst e
       cases h30
      ·
       clear h28 h29
       subst e
       refine sr ?_
       refine vy (V.eq h30 rfl rfl) fun x79_23 h31 => ?_
       refine as_ ?_
       refine dn ?_
       refine CV.cond h31 rfl (fun e h32 => ?_) (fun e h32 => ?_)
       ·
        clear h30 h31
        subst e
        cases h32
       ·
        clear h30 h31
        subst e
        refine sr ?_
        refine vy (V.eq h32 rfl rfl) fun x109_24 h33 => ?_
        refine as_ ?_
        refine dn ?_
        refine CV.cond h33 rfl (fun e h34 => ?_) (fun e h34 => ?_)
        ·
         clear h32 h33
         subst e
         cases h34
        ·
         clear h32 h33
         subst e
         refine sr ?_
         refine vy (V.eq h34 rfl rfl) fun x128_25 h35 => ?_
         refine as_ ?_
         refine dn ?_
         refine CV.cond h35 rfl (fun e h36 => ?_) (fun e h36 => ?_)
         ·
          clear h34 h35
          subst e
          cases h36
         ·
          clear h34 h35
          subst e
          refine sr ?_
          refine vy (V.eq h36 rfl rfl) fun x133_26 h37 => ?_
          refine as_ ?_
          refine dn ?_
          refine CV.cond h37 rfl (fun e h38 => ?_) (fun e h38 => ?_)
          ·
           clear h36 h37
           subst e
           cases h38
          ·
           clear h36 h37
           subst e
           refine CV.skip ?_
           refine PV.blockN ?_
           cases h38
           exact PV.ret (by simp) Tryz.results151 hS RS.nil rfl
noncomputable def g110_b1 (ro : List HT) (lp1 : AV → AV → AV → AV → HT → Nat → R) (y0 y13 y14 y15 : AV) (T1 : HT) (n1 : Nat) : R :=
 ltK Tryz.prog 3 (.tmp 15) (.tmp 14) 1100010 y15 y14 fun x16_6 =>
 condK 1100011 x16_6
 (
  iaK 1100012 y13 y15 1 fun x17_7 =>
  ldK 1100013 T1 ro x17_7 fun x18_8 =>
  callK (g151 ro y0 x18_8 T1 n1) fun x21_9 T2 n2 =>
  addK Tryz.prog 3 (.tmp 15) (.const (.int .i64 (.ofNat 1))) 1100018 y15 (.lit (.int .i64 (.ofNat 1))) fun x22_10 =>
  lp1 y0 y13 y14 x22_10 T2 n2
 )
 (
  .ok (.val (.tup [])) T1 n1
 )
noncomputable def g110 (ro : List HT) (a0 a1 : AV) (T : HT) (nx : Nat) : R :=
 fldK 1100002 T ro a0 0 fun x9_1 =>
 iaK 1100004 x9_1 a1 5 fun x11_2 =>
 faK 1100005 x11_2 4 fun x12_3 =>
 ldK 1100006 T ro x12_3 fun x13_4 =>
 lenSK 1100007 x13_4 fun x14_5 =>
 lpf4 1100009 (g110_b1 ro) 100000 a0 x13_4 x14_5 (.lit (.int .i64 (.ofNat 0))) T nx
theorem g110_ok (ro : List HT) (a0 a1 : AV) (T : HT) (nx : Nat) : GOk Tryz.prog envE 110 [a0, a1] ro T nx (g110 ro a0 a1 T nx) := by
 refine GOk.of_body Tryz.func110 rfl Tryz.ntmps110 (by kernel_rfl) rfl fun r T' n' h1 w0 base ρ0 its hS hP => ?_
 have X : CtxW envE ρ0 ro r T' n' := trivial
 unfold g110 at h1
 refine sr ?_
 refine mv ?_
 refine fl hS h1 Cnf.fo164_0 Cnf.one109 fun x9_1 h2 => ?_
 refine mv ?_
 refine vy (V.ia h2 rfl rfl Cnf.el109) fun x11_2 h3 => ?_
 refine vy (V.fa h3 rfl Cnf.fo172_4) fun x12_3 h4 => ?_
 refine vy (V.ld hS h4 rfl Cnf.one170) fun x13_4 h5 => ?_
 refine vy (V.lenS h5 rfl Cnf.ls170) fun x14_5 h6 => ?_
 refine mv ?_
 refine dn ?_
 refine CV.block ?_
 refine cl4 X 0 13 14 15 [] hS h6 ⟨rfl, rfl, rfl, rfl, trivial⟩ ?_
 intro f1 y0 y13 y14 y15 T1 n1 ρ its hS h7
 unfold g110_b1 at h7
 clear h1 h2 h3 h4 h5 h6
 refine sr ?_
 refine vy (V.lt h7 rfl rfl) fun x16_6 h8 => ?_
 refine dn ?_
 refine CV.seq ?_
 refine CV.cond h8 rfl (fun e h9 => ?_) (fun e h9 => ?_)
 ·
  clear h7 h8
  subst e
  refine CV.skip ?_
  refine PV.thenN ?_
  refine CV.seq ?_
  refine CV.block ?_
  refine sr ?_
  refine vy (V.ia h9 rfl rfl Cnf.el170) fun x17_7 h10 => ?_
  refine vy (V.ld hS h10 rfl Cnf.one3) fun x18_8 h11 => ?_
  refine as_ ?_
  refine dn ?_
  refine CV.region ?_
  refine mv ?_
  refine mv ?_
  refine LV.call hS h11 (g151_ok _ _ _ _ _ ) hP rfl rfl rfl rfl fun x21_9 T2 n2 h12 ρ its hS => ?_
  refine LV.done ?_
  refine PV.blockN ?_
  refine PV.thenN ?_
  refine CV.region ?_
  refine vy (V.add h12 rfl rfl) fun x22_10 h13 => ?_
  refine mv ?_
  refine LV.done ?_
  exact pb4 hS h13 ⟨rfl, rfl, rfl, rfl, trivial⟩
 ·
  clear h7 h8
  subst e
  refine CV.exit ?_
  refine PV.thenE ?_
  refine PV.thenE ?_
  refine PV.blockE ?_
  cases h9
  exact PV.ret (by simp) Tryz.results110 hS RS.nil rfl

end Go.Proofs.YtlljgagoboapaaaGreatDoor.Cn
