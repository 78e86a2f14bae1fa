/-
  Proved here: plain functions that do what the program's functions do, each with its proof.
-/
import Derived.Test.YtdepmlcnllofiaaGreatDoorRnh
namespace Go.Proofs.YtdepmlcnllofiaaGreatDoor.Rn
open Go.EY Go.EX Go.SX Go.RowKit
noncomputable def g7_k7 (c0 : AV) (m0 : Nat) (c1 : AV) (m1 : Nat) (ro : List HT) (lp6 : AV → AV → AV → AV → AV → AV → AV → AV → AV → HT → Nat → R) (y1 y2 y6 y8 y9 y12 y13 y15 y18 : AV) (T17 : HT) (n17 : Nat) : R :=
 addK Tryz.prog 3 (.tmp 121) (.const (.int .i64 (.ofNat 1))) 70090 y18 (.lit (.int .i64 (.ofNat 1))) fun x122_33 =>
 lp6 y1 y2 y6 y8 y9 y12 y13 y15 x122_33 T17 n17
noncomputable def g7_k10 (c0 : AV) (m0 : Nat) (c1 : AV) (m1 : Nat) (ro : List HT) (lp6 : AV → AV → AV → AV → AV → AV → AV → AV → AV → HT → Nat → R) (y1 y2 y6 y8 y9 y12 y13 y15 y18 y181 : AV) (T22 : HT) (n22 : Nat) : R :=
 condK 70106 y181
 (
  .bad 70107
 )
 (
  g7_k7 c0 m0 c1 m1 ro lp6 y1 y2 y6 y8 y9 y12 y13 y15 y18 T22 n22
 )
noncomputable def g7_k11 (c0 : AV) (m0 : Nat) (c1 : AV) (m1 : Nat) (ro : List HT) (lp6 : AV → AV → AV → AV → AV → AV → AV → AV → AV → HT → Nat → R) (y1 y2 y6 y8 y9 y12 y13 y15 y18 y180 : AV) (T23 : HT) (n23 : Nat) : R :=
 g7_k10 c0 m0 c1 m1 ro lp6 y1 y2 y6 y8 y9 y12 y13 y15 y18 y180 T23 n23
noncomputable def g7_k12 (c0 : AV) (m0 : Nat) (c1 : AV) (m1 : Nat) (ro : List HT) (lp6 : AV → AV → AV → AV → AV → AV → AV → AV → AV → HT → Nat → R) (y1 y2 y6 y8 y9 y12 y13 y15 y18 y179 : AV) (T24 : HT) (n24 : Nat) : R :=
 g7_k11 c0 m0 c1 m1 ro lp6 y1 y2 y6 y8 y9 y12 y13 y15 y18 y179 T24 n24
noncomputable def g7_k9 (c0 : AV) (m0 : Nat) (c1 : AV) (m1 : Nat) (ro : List HT) (lp6 : AV → AV → AV → AV → AV → AV → AV → AV → AV → HT → Nat → R) (y1 y2 y6 y8 y9 y12 y13 y15 y18 y160 : AV) (T21 : HT) (n21 : Nat) : R :=
 condK 70108 y160
 (
  g7_k10 c0 m0 c1 m1 ro lp6 y1 y2 y6 y8 y9 y12 y13 y15 y18 (.lit (.bool true)) T21 n21
 )
 (
  notK 70111 y2 fun x163_40 =>
  condK 70114 x163_40
  (
   iaK 70117 y15 y18 3 fun x167_41 =>
   faK 70118 x167_41 1 fun x168_42 =>
   ldK 70119 T21 ro x168_42 fun x169_43 =>
   neK Tryz.prog 3 (.tmp 169) (.const (.int .i64 (.ofNat 2))) 70120 x169_43 (.lit (.int .i64 (.ofNat 2))) fun x170_44 =>
   condK 70123 x170_44
   (
    g7_k12 c0 m0 c1 m1 ro lp6 y1 y2 y6 y8 y9 y12 y13 y15 y18 (.lit (.bool true)) T21 n21
   )
   (
    iaK 70127 y15 y18 3 fun x174_45 =>
    faK 70128 x174_45 2 fun x175_46 =>
    ldK 70129 T21 ro x175_46 fun x176_47 =>
    neK Tryz.prog 3 (.tmp 176) (.tmp 177) 70131 x176_47 y1 fun x178_48 =>
    g7_k12 c0 m0 c1 m1 ro lp6 y1 y2 y6 y8 y9 y12 y13 y15 y18 x178_48 T21 n21
   )
  )
  (
   g7_k11 c0 m0 c1 m1 ro lp6 y1 y2 y6 y8 y9 y12 y13 y15 y18 (.lit (.bool false)) T21 n21
  )
 )
noncomputable def g7_k13 (c0 : AV) (m0 : Nat) (c1 : AV) (m1 : Nat) (ro : List HT) (lp6 : AV → AV → AV → AV → AV → AV → AV → AV → AV → HT → Nat → R) (y1 y6 y8 y9 y12 y13 y15 y18 y159 : AV) (T25 : HT) (n25 : Nat) : R :=
 g7_k9 c0 m0 c1 m1 ro lp6 y1 (.lit (.bool true)) y6 y8 y9 y12 y13 y15 y18 y159 T25 n25
noncomputable def g7_k8 (c0 : AV) (m0 : Nat) (c1 : AV) (m1 : Nat) (ro : List HT) (lp6 : AV → AV → AV → AV → AV → AV → AV → AV → AV → HT → Nat → R) (y1 y2 y6 y8 y9 y12 y13 y15 y18 y143 : AV) (T20 : HT) (n20 : Nat) : R :=
 condK 70102 y143
 (
  g7_k7 c0 m0 c1 m1 ro lp6 y1 y2 y6 y8 y9 y12 y13 y15 y18 T20 n20
 )
 (
  condK 70134 y2
  (
   iaK 70137 y15 y18 3 fun x148_49 =>
   faK 70138 x148_49 1 fun x149_50 =>
   ldK 70139 T20 ro x149_50 fun x150_51 =>
   neK Tryz.prog 3 (.tmp 150) (.const (.int .i64 (.ofNat 1))) 70140 x150_51 (.lit (.int .i64 (.ofNat 1))) fun x151_52 =>
   condK 70143 x151_52
   (
    g7_k13 c0 m0 c1 m1 ro lp6 y1 y6 y8 y9 y12 y13 y15 y18 (.lit (.bool true)) T20 n20
   )
   (
    iaK 70147 y15 y18 3 fun x155_53 =>
    faK 70148 x155_53 2 fun x156_54 =>
    ldK 70149 T20 ro x156_54 fun x157_55 =>
    neK Tryz.prog 3 (.tmp 157) (.const (.int .i64 (.ofNat 0))) 70150 x157_55 (.lit (.int .i64 (.ofNat 0))) fun x158_56 =>
    g7_k13 c0 m0 c1 m1 ro lp6 y1 y6 y8 y9 y12 y13 y15 y18 x158_56 T20 n20
   )
  )
  (
   g7_k9 c0 m0 c1 m1 ro lp6 y1 (.lit (.bool false)) y6 y8 y9 y12 y13 y15 y18 (.lit (.bool false)) T20 n20
  )
 )
noncomputable def g7_k16 (c0 : AV) (m0 : Nat) (c1 : AV) (m1 : Nat) (ro : List HT) (y6 y228 : AV) (T34 : HT) (n34 : Nat) : R :=
 .ok (.val y228) T34 n34
noncomputable def g7_k15 (c0 : AV) (m0 : Nat) (c1 : AV) (m1 : Nat) (ro : List HT) (y6 y25 y214 : AV) (T31 : HT) (n31 : Nat) : R :=
 condK 70199 y214
 (
  .bad 70200
 )
 (
  lenSK 70203 y25 fun x217_79 =>
  subK Tryz.prog 3 (.tmp 217) (.const (.int .i64 (.ofNat 1))) 70204 x217_79 (.lit (.int .i64 (.ofNat 1))) fun x218_80 =>
  iaK 70205 y25 x218_80 3 fun x219_81 =>
  ldAK 70206 T31 ro x219_81 3 fun x220_82 =>
  newK T31 n31 (.obj [.lit (.int .i64 0), .lit (.int .i64 0), .lit (.int .i64 0)] 58) fun x28_83 T32 n32 =>
  stAK 70208 T32 x28_83 x220_82 3 fun T33 =>
  faK 70209 x28_83 1 fun x221_84 =>
  ldK 70210 T33 ro x221_84 fun x222_85 =>
  eqK Tryz.prog 3 (.tmp 222) (.const (.int .i64 (.ofNat 3))) 70211 x222_85 (.lit (.int .i64 (.ofNat 3))) fun x223_86 =>
  condK 70214 x223_86
  (
   faK 70215 x28_83 2 fun x225_87 =>
   ldK 70216 T33 ro x225_87 fun x226_88 =>
   eqK Tryz.prog 3 (.tmp 226) (.const (.int .i64 (.ofNat 1))) 70217 x226_88 (.lit (.int .i64 (.ofNat 1))) fun x227_89 =>
   g7_k16 c0 m0 c1 m1 ro y6 x227_89 T33 n32
  )
  (
   g7_k16 c0 m0 c1 m1 ro y6 (.lit (.bool false)) T33 n32
  )
 )
noncomputable def g7_k14 (c0 : AV) (m0 : Nat) (c1 : AV) (m1 : Nat) (ro : List HT) (y6 y25 y27 y210 : AV) (T30 : HT) (n30 : Nat) : R :=
 condK 70220 y210
 (
  g7_k15 c0 m0 c1 m1 ro y6 y25 (.lit (.bool true)) T30 n30
 )
 (
  bin0 Tryz.prog .neq 25 (.tmp 212) (.const (.nilIface)) 70223 y27 (.lit (.nilIface)) fun x213_90 =>
  g7_k15 c0 m0 c1 m1 ro y6 y25 x213_90 T30 n30
 )
noncomputable def g7_b6 (c0 : AV) (m0 : Nat) (c1 : AV) (m1 : Nat) (ro : List HT) (lp6 : AV → AV → AV → AV → AV → AV → AV → AV → AV → HT → Nat → R) (y1 y2 y6 y8 y9 y12 y13 y15 y18 : AV) (T16 : HT) (n16 : Nat) : R :=
 lenSK 70086 y15 fun x119_31 =>
 ltK Tryz.prog 3 (.tmp 117) (.tmp 119) 70087 y18 x119_31 fun x120_32 =>
 condK 70088 x120_32
 (
  iaK 70095 y15 y18 3 fun x126_34 =>
  faK 70096 x126_34 0 fun x127_35 =>
  ldK 70097 T16 ro x127_35 fun x128_36 =>
  iaK 70098 y13 x128_36 5 fun x129_37 =>
  ldAK 70099 T16 ro x129_37 5 fun x130_38 =>
  newK T16 n16 (.obj [.lit (.int .i64 0), .lit (.int .i64 0), .lit (.int .i64 0), .lit (.string ⟨#[]⟩), .lit (.slice none 0 0)] 32) fun x19_39 T18 n18 =>
  stAK 70101 T18 x19_39 x130_38 5 fun T19 =>
  faK 70153 x19_39 3 fun x131_57 =>
  ldK 70154 T19 ro x131_57 fun x132_58 =>
  iaK 70157 y9 y1 1 fun x135_59 =>
  ldK 70158 T19 ro x135_59 fun x136_60 =>
  neSK Tryz.prog 9 (.tmp 132) (.tmp 136) 70159 x132_58 x136_60 fun x137_61 =>
  condK 70161 x137_61
  (
   g7_k8 c0 m0 c1 m1 ro lp6 y1 y2 y6 y8 y9 y12 y13 y15 y18 (.lit (.bool true)) T19 n18
  )
  (
   faK 70163 x19_39 2 fun x139_62 =>
   ldK 70164 T19 ro x139_62 fun x140_63 =>
   ltK Tryz.prog 3 (.tmp 140) (.tmp 141) 70166 x140_63 y12 fun x142_64 =>
   g7_k8 c0 m0 c1 m1 ro lp6 y1 y2 y6 y8 y9 y12 y13 y15 y18 x142_64 T19 n18
  )
 )
 (
  addSK Tryz.prog 9 (.tmp 183) (.const (.string ⟨⟨[122, 122, 32, 43, 32, 49, 10]⟩⟩)) 70169 y8 (.lit (.string ⟨⟨[122, 122, 32, 43, 32, 49, 10]⟩⟩)) fun x184_65 =>
  callK (g11 ro x184_65 T16 n16) fun x185_66 T26 n26 =>
  exK 70172 x185_66 0 fun x186_67 =>
  exK 70173 x185_66 1 fun x187_68 =>
  callK (g27 ro x186_67 (.lit (.slice none 0 0)) T26 n26) fun x190_69 T27 n27 =>
  exK 70179 x190_69 0 fun x191_70 =>
  exK 70180 x190_69 1 fun x192_71 =>
  exK 70181 x190_69 2 fun x193_72 =>
  bsK 70186 T27 n27 3 9 1 [(0, (.lit (.string ⟨⟨[97]⟩⟩))), (1, (.lit (.string ⟨⟨[122, 122]⟩⟩))), (2, (.lit (.string ⟨⟨[122, 122]⟩⟩)))] fun x196_73 T28 n28 =>
  callK (g27 ro x186_67 x196_73 T28 n28) fun x197_74 T29 n29 =>
  exK 70189 x197_74 0 fun x198_75 =>
  exK 70190 x197_74 1 fun x199_76 =>
  exK 70191 x197_74 2 fun x200_77 =>
  bin0 Tryz.prog .neq 25 (.tmp 201) (.const (.nilIface)) 70196 x187_68 (.lit (.nilIface)) fun x202_78 =>
  condK 70225 x202_78
  (
   g7_k14 c0 m0 c1 m1 ro y6 x198_75 x200_77 (.lit (.bool true)) T29 n29
  )
  (
   lenTK 70229 y8 fun x206_91 =>
   callK (g17 ro (.lit (.int .i64 (.ofNat 103))) x206_91 T29 n29) fun x207_92 T35 n35 =>
   callK (g16 ro x193_72 x207_92 T35 n35) fun x208_93 T36 n36 =>
   notK 70232 x208_93 fun x209_94 =>
   g7_k14 c0 m0 c1 m1 ro y6 x198_75 x200_77 x209_94 T36 n36
  )
 )
noncomputable def g7_k5 (c0 : AV) (m0 : Nat) (c1 : AV) (m1 : Nat) (ro : List HT) (y0 y1 y2 y6 y8 y9 y12 y13 y15 y16 y107 : AV) (T14 : HT) (n14 : Nat) : R :=
 condK 70069 y107
 (
  .bad 70070
 )
 (
  iaK 70072 y16 (.lit (.int .i64 (.ofNat 0))) 4 fun x109_25 =>
  faK 70073 x109_25 3 fun x110_26 =>
  ldK 70074 T14 ro x110_26 fun x111_27 =>
  cutHiK 70076 T14 ro x111_27 y0 fun x113_28 =>
  callK (g28 ro x113_28 y9 T14 n14) fun x115_29 T15 n15 =>
  notK 70079 x115_29 fun x116_30 =>
  condK 70080 x116_30
  (
   .bad 70081
  )
  (
   lpf9 70083 (g7_b6 c0 m0 c1 m1 ro) 100000 y1 y2 y6 y8 y9 y12 y13 y15 (.lit (.int .i64 (.ofNat 0))) T15 n15
  )
 )
noncomputable def g7_k4 (c0 : AV) (m0 : Nat) (c1 : AV) (m1 : Nat) (ro : List HT) (y0 y1 y2 y6 y7 y8 y9 y12 y13 y15 y16 y103 : AV) (T13 : HT) (n13 : Nat) : R :=
 condK 70234 y103
 (
  g7_k5 c0 m0 c1 m1 ro y0 y1 y2 y6 y8 y9 y12 y13 y15 y16 (.lit (.bool true)) T13 n13
 )
 (
  notK 70237 y7 fun x106_95 =>
  g7_k5 c0 m0 c1 m1 ro y0 y1 y2 y6 y8 y9 y12 y13 y15 y16 x106_95 T13 n13
 )
noncomputable def g7_k3 (c0 : AV) (m0 : Nat) (c1 : AV) (m1 : Nat) (ro : List HT) (y0 y1 y2 y6 y7 y8 y9 y12 y13 y15 y16 y98 : AV) (T12 : HT) (n12 : Nat) : R :=
 condK 70239 y98
 (
  g7_k4 c0 m0 c1 m1 ro y0 y1 y2 y6 y7 y8 y9 y12 y13 y15 y16 (.lit (.bool true)) T12 n12
 )
 (
  lenSK 70242 y15 fun x101_96 =>
  eqK Tryz.prog 3 (.tmp 101) (.const (.int .i64 (.ofNat 0))) 70243 x101_96 (.lit (.int .i64 (.ofNat 0))) fun x102_97 =>
  g7_k4 c0 m0 c1 m1 ro y0 y1 y2 y6 y7 y8 y9 y12 y13 y15 y16 x102_97 T12 n12
 )
noncomputable def g7_k2 (c0 : AV) (m0 : Nat) (c1 : AV) (m1 : Nat) (ro : List HT) (y0 y1 y2 y6 y7 y8 y9 y12 : AV) (T9 : HT) (n9 : Nat) : R :=
 callK (g11 ro y8 T9 n9) fun x84_17 T10 n10 =>
 exK 70051 x84_17 0 fun x85_18 =>
 exK 70052 x84_17 1 fun x86_19 =>
 callK (g27 ro x85_18 (.lit (.slice none 0 0)) T10 n10) fun x89_20 T11 n11 =>
 exK 70058 x89_20 0 fun x90_21 =>
 exK 70059 x89_20 1 fun x91_22 =>
 exK 70060 x89_20 2 fun x92_23 =>
 bin0 Tryz.prog .neq 25 (.tmp 93) (.const (.nilIface)) 70065 x86_19 (.lit (.nilIface)) fun x94_24 =>
 condK 70245 x94_24
 (
  g7_k3 c0 m0 c1 m1 ro y0 y1 y2 y6 y7 y8 y9 y12 x85_18 x90_21 x91_22 (.lit (.bool true)) T11 n11
 )
 (
  bin0 Tryz.prog .neq 25 (.tmp 96) (.const (.nilIface)) 70248 x92_23 (.lit (.nilIface)) fun x97_98 =>
  g7_k3 c0 m0 c1 m1 ro y0 y1 y2 y6 y7 y8 y9 y12 x85_18 x90_21 x91_22 x97_98 T11 n11
 )
noncomputable def g7_b1 (c0 : AV) (m0 : Nat) (c1 : AV) (m1 : Nat) (ro : List HT) (lp1 : AV → AV → AV → AV → AV → AV → AV → AV → HT → Nat → R) (y0 y1 y2 y6 y7 y8 y9 y10 : AV) (T5 : HT) (n5 : Nat) : R :=
 ltK Tryz.prog 3 (.tmp 39) (.tmp 40) 70023 y10 y0 fun x41_7 =>
 condK 70024 x41_7
 (
  addK Tryz.prog 3 (.tmp 45) (.const (.int .i64 (.ofNat 1))) 70027 y10 (.lit (.int .i64 (.ofNat 1))) fun x46_8 =>
  sliceF 70028 (.lit (.string ⟨⟨[97, 98, 99, 100, 101, 102, 103, 104, 105, 106, 107, 108, 109, 110, 111, 112, 113, 114, 115, 116, 117, 118, 119, 120, 121, 122]⟩⟩)) (some y10) (some x46_8) fun x47_9 =>
  addSK Tryz.prog 9 (.const (.string ⟨⟨[118]⟩⟩)) (.tmp 47) 70029 (.lit (.string ⟨⟨[118]⟩⟩)) x47_9 fun x48_10 =>
  bsK 70033 T5 n5 1 9 1 [(0, x48_10)] fun x51_11 T6 n6 =>
  shrK 70035 T6 y9 fun T7 =>
  appK 70034 T7 ro n6 9 1 16 y9 x51_11 fun x52_12 T8 n8 =>
  addSK Tryz.prog 9 (.tmp 53) (.tmp 54) 70039 y8 x48_10 fun x55_13 =>
  addSK Tryz.prog 9 (.tmp 55) (.const (.string ⟨⟨[32, 61, 32, 48, 10]⟩⟩)) 70040 x55_13 (.lit (.string ⟨⟨[32, 61, 32, 48, 10]⟩⟩)) fun x56_14 =>
  addK Tryz.prog 3 (.tmp 42) (.const (.int .i64 (.ofNat 1))) 70043 y10 (.lit (.int .i64 (.ofNat 1))) fun x43_15 =>
  lp1 y0 y1 y2 y6 y7 x56_14 x52_12 x43_15 T8 n8
 )
 (
  lenTK 70046 y8 fun x58_16 =>
  condK 70251 y2
  (
   addSK Tryz.prog 9 (.tmp 60) (.const (.string ⟨⟨[100, 101, 102, 32, 102, 40]⟩⟩)) 70253 y8 (.lit (.string ⟨⟨[100, 101, 102, 32, 102, 40]⟩⟩)) fun x61_99 =>
   iaK 70256 y9 y1 1 fun x64_100 =>
   ldK 70257 T5 ro x64_100 fun x65_101 =>
   addSK Tryz.prog 9 (.tmp 61) (.tmp 65) 70258 x61_99 x65_101 fun x66_102 =>
   addSK Tryz.prog 9 (.tmp 66) (.const (.string ⟨⟨[41, 58, 32, 114, 101, 116, 117, 114, 110, 32]⟩⟩)) 70259 x66_102 (.lit (.string ⟨⟨[41, 58, 32, 114, 101, 116, 117, 114, 110, 32]⟩⟩)) fun x67_103 =>
   iaK 70262 y9 y1 1 fun x70_104 =>
   ldK 70263 T5 ro x70_104 fun x71_105 =>
   addSK Tryz.prog 9 (.tmp 67) (.tmp 71) 70264 x67_103 x71_105 fun x72_106 =>
   addSK Tryz.prog 9 (.tmp 72) (.const (.string ⟨⟨[10]⟩⟩)) 70265 x72_106 (.lit (.string ⟨⟨[10]⟩⟩)) fun x73_107 =>
   g7_k2 c0 m0 c1 m1 ro y0 y1 (.lit (.bool true)) y6 y7 x73_107 y9 x58_16 T5 n5
  )
  (
   addSK Tryz.prog 9 (.tmp 74) (.const (.string ⟨⟨[102, 32, 61, 32]⟩⟩)) 70268 y8 (.lit (.string ⟨⟨[102, 32, 61, 32]⟩⟩)) fun x75_108 =>
   iaK 70271 y9 y1 1 fun x78_109 =>
   ldK 70272 T5 ro x78_109 fun x79_110 =>
   addSK Tryz.prog 9 (.tmp 75) (.tmp 79) 70273 x75_108 x79_110 fun x80_111 =>
   addSK Tryz.prog 9 (.tmp 80) (.const (.string ⟨⟨[10]⟩⟩)) 70274 x80_111 (.lit (.string ⟨⟨[10]⟩⟩)) fun x81_112 =>
   g7_k2 c0 m0 c1 m1 ro y0 y1 (.lit (.bool false)) y6 y7 x81_112 y9 x58_16 T5 n5
  )
 )
noncomputable def g7 (c0 : AV) (m0 : Nat) (c1 : AV) (m1 : Nat) (ro : List HT) (q0 q1 q2 : AV) (T : HT) (nx : Nat) : R :=
 callK (.ok (.val (.lit (.bool true))) T nx) fun x29_1 T1 n1 =>
 notK 70005 x29_1 fun x31_2 =>
 condK 70006 x31_2
 (
  .bad 70007
 )
 (
  callK (isK (.lit (.int .i64 (.ofNat 20))) m0 c0 T1 n1) fun x33_3 T2 n2 =>
  addK Tryz.prog 3 (.tmp 33) (.const (.int .i64 (.ofNat 1))) 70010 x33_3 (.lit (.int .i64 (.ofNat 1))) fun x34_4 =>
  callK (isK x34_4 m1 c1 T2 n2) fun x37_5 T3 n3 =>
  bs0K T3 n3 9 1 fun x38_6 T4 n4 =>
  lpf8 70020 (g7_b1 c0 m0 c1 m1 ro) 100000 x34_4 x37_5 q2 (.lit (.bool false)) x29_1 (.lit (.string ⟨⟨[]⟩⟩)) x38_6 (.lit (.int .i64 (.ofNat 0))) T4 n4
 )
theorem g7_ok (c0 : AV) (m0 : Nat) (c1 : AV) (m1 : Nat) (q0 q1 q2 : AV) (hC0 : ∀ z ro T nx, GOk Tryz.prog envE 26 [q0, z] ro T nx (isK z m0 c0 T nx)) (hC1 : ∀ z ro T nx, GOk Tryz.prog envE 26 [q1, z] ro T nx (isK z m1 c1 T nx)) (ro : List HT) (T : HT) (nx : Nat) (hF : GOk Tryz.prog envE 24 [] ro T nx (.ok (.val (.lit (.bool true))) T nx)) : GOk Tryz.prog envE 7 [q0, q1, q2] ro T nx (g7 c0 m0 c1 m1 ro q0 q1 q2 T nx) := by
 refine GOk.of_body Tryz.func7 rfl Tryz.ntmps7 (by kernel_rfl) rfl fun r T' n' h1 w0 base ρ0 its hS hP => ?_
 have X : CtxW envE ρ0 ro r T' n' := trivial
 unfold g7 at h1
 refine sr ?_
 refine as_ ?_
 refine dn ?_
 refine sr ?_
 refine LV.call hS h1 (hF) hP rfl rfl rfl rfl fun x29_1 T1 n1 h2 ρ its hS => ?_
 refine as_ ?_
 refine dn ?_
 refine CV.seq ?_
 refine sr ?_
 refine mv ?_
 refine vy (V.not h2 rfl) fun x31_2 h3 => ?_
 refine dn ?_
 refine CV.cond h3 rfl (fun e h4 => ?_) (fun e h4 => ?_)
 ·
  clear h1 h2 h3
  subst e
  cases h4
 ·
  clear h1 h2 h3
  subst e
  refine CV.skip ?_
  refine PV.thenN ?_
  refine sr ?_
  refine mv ?_
  refine LV.call hS h4 (hC0 _ _ _ _) hP rfl rfl rfl rfl fun x33_3 T2 n2 h5 ρ its hS => ?_
  refine vy (V.add h5 rfl rfl) fun x34_4 h6 => ?_
  refine as_ ?_
  refine dn ?_
  refine sr ?_
  refine mv ?_
  refine mv ?_
  refine LV.call hS h6 (hC1 _ _ _ _) hP rfl rfl rfl rfl fun x37_5 T3 n3 h7 ρ its hS => ?_
  refine as_ ?_
  refine dn ?_
  refine sr ?_
  refine as_ ?_
  refine dn ?_
  refine sr ?_
  refine LV.bs0 hS h7 rfl Rnf.el46 rfl rfl rfl fun x38_6 T4 n4 h8 ρ its hS hdr => ?_
  refine as_ ?_
  refine dn ?_
  refine CV.seq ?_
  refine sr ?_
  refine as_ ?_
  refine dn ?_
  refine CV.block ?_
  refine cl8 X 0 1 2 6 7 8 9 10 [] hS h8 ⟨rfl, rfl, rfl, rfl, rfl, rfl, rfl, rfl, trivial⟩ ?_
  intro f1 y0 y1 y2 y6 y7 y8 y9 y10 T5 n5 ρ its hS h9
  unfold g7_b1 at h9
  clear h4 h5 h6 h7 h8
  refine CV.seq ?_
  refine sr ?_
  refine mv ?_
  refine mv ?_
  refine vy (V.lt h9 rfl rfl) fun x41_7 h10 => ?_
  refine dn ?_
  refine CV.cond h10 rfl (fun e h11 => ?_) (fun e h11 => ?_)
  ·
   clear h9 h10
   subst e
   refine CV.skip ?_
   refine PV.thenN ?_
   refine CV.seq ?_
   refine CV.block ?_
   refine sr ?_
   refine mv ?_
   refine mv ?_
   refine vy (V.add h11 rfl rfl) fun x46_8 h12 => ?_
   refine vy (V.slBo (sliceF_ok h12) rfl rfl rfl Rnf.st9) fun x47_9 h13 => ?_
   refine vy (V.addS h13 rfl rfl) fun x48_10 h14 => ?_
   refine as_ ?_
   refine dn ?_
   refine sr ?_
   refine mv ?_
   refine mv ?_
   refine LV.bslice hS h14 rfl rfl Rnf.el46 rfl rfl rfl rfl fun x51_11 T6 n6 h15 ρ its hS hdr => ?_
   obtain ⟨T7, its1, h16, hS, hW⟩ := shrK_inv hS h15
   refine LV.world hW ?_
   refine LV.app hS h16 rfl rfl rfl rfl Rnf.el46 rfl rfl rfl fun x52_12 T8 n8 h17 ρ its hS => ?_
   refine as_ ?_
   refine dn ?_
   refine CV.region ?_
   refine mv ?_
   refine mv ?_
   refine vy (V.addS h17 rfl rfl) fun x55_13 h18 => ?_
   refine vy (V.addS h18 rfl rfl) fun x56_14 h19 => ?_
   refine as_ ?_
   refine LV.done ?_
   refine PV.blockN ?_
   refine PV.thenN ?_
   refine CV.region ?_
   refine mv ?_
   refine vy (V.add h19 rfl rfl) fun x43_15 h20 => ?_
   refine as_ ?_
   refine LV.done ?_
   exact pb8 hS h20 ⟨rfl, rfl, rfl, rfl, rfl, rfl, rfl, rfl, trivial⟩
  ·
   clear h9 h10
   subst e
   refine CV.exit ?_
   refine PV.thenE ?_
   refine PV.thenE ?_
   refine PV.blockE ?_
   refine PV.thenN ?_
   refine sr ?_
   refine mv ?_
   refine vy (V.lenT h11 rfl Rnf.ls9) fun x58_16 h21 => ?_
   refine as_ ?_
   refine dn ?_
   refine cs8 X 0 1 2 6 7 8 9 12 [] (g7_k2 c0 m0 c1 m1 ro) ?_ ?_
   ·
    refine sr ?_
    refine mv ?_
    refine dn ?_
    refine CV.cond h21 rfl (fun e h139 => ?_) (fun e h139 => ?_)
    ·
     clear h11 h21
     subst e
     refine CV.regionM [(0, .anywhere), (1, .anywhere), (2, .anywhere), (3, .anywhere), (4, .anywhere), (5, .held), (6, .held), (7, .held), (8, .anywhere), (9, .anywhere), (10, .anywhere), (11, .held), (12, .held), (13, .held), (14, .held)] rfl (fun c a a' w hd hq => PanicOk.root (P := Tryz.prog) (fn := Tryz.f7) (w0 := w0) (base := base) (E := envE) (ro := ro) (r := r) (T' := T') (n' := n') (ρ0 := ρ0) c a a' w hd hq) (by kernel_rfl) ?_
     refine MV.step0 (i := 0) rfl (VAL.move rfl) rfl rfl rfl ?_
     refine MV.lift0 (i := 1) rfl (V.addS h139 rfl rfl) rfl rfl rfl fun x61_99 h140 => ?_
     refine MV.step0 (i := 2) rfl (VAL.move rfl) rfl rfl rfl ?_
     refine MV.step0 (i := 3) rfl (VAL.move rfl) rfl rfl rfl ?_
     refine MV.lift0 (i := 4) rfl (V.ia h140 rfl rfl Rnf.el46) rfl rfl rfl fun x64_100 h141 => ?_
     refine MV.lift1 (i := 5) rfl (fun _ z => z) (V.ld hS h141 rfl Rnf.one9) rfl rfl rfl [] (by kernel_rfl) fun x65_101 h142 => ?_
     refine MV.lift1 (i := 6) rfl (fun _ z => z) (V.addS h142 rfl rfl) rfl rfl rfl [] (by kernel_rfl) fun x66_102 h143 => ?_
     refine MV.lift1 (i := 7) rfl (fun _ z => z) (V.addS h143 rfl rfl) rfl rfl rfl [] (by kernel_rfl) fun x67_103 h144 => ?_
     refine MV.step0 (i := 8) rfl (VAL.move rfl) rfl rfl rfl ?_
     refine MV.step0 (i := 9) rfl (VAL.move rfl) rfl rfl rfl ?_
     refine MV.lift0 (i := 10) rfl (V.ia h144 rfl rfl Rnf.el46) rfl rfl rfl fun x70_104 h145 => ?_
     refine MV.lift1 (i := 11) rfl (fun _ z => z) (V.ld hS h145 rfl Rnf.one9) rfl rfl rfl [7] (by kernel_rfl) fun x71_105 h146 => ?_
     refine MV.lift1 (i := 12) rfl (fun _ z => z) (V.addS h146 rfl rfl) rfl rfl rfl [] (by kernel_rfl) fun x72_106 h147 => ?_
     refine MV.lift1 (i := 13) rfl (fun _ z => z) (V.addS h147 rfl rfl) rfl rfl rfl [] (by kernel_rfl) fun x73_107 h148 => ?_
     refine MV.step1 (i := 14) rfl (fun _ z => z) (VAL.assign rfl) rfl rfl rfl [] (by kernel_rfl) ?_
     refine MV.done ?_
     exact pa8 hS h148 ⟨rfl, rfl, rfl, rfl, rfl, rfl, rfl, rfl, trivial⟩
    ·
     clear h11 h21
     subst e
     refine CV.region ?_
     refine mv ?_
     refine vy (V.addS h139 rfl rfl) fun x75_108 h149 => ?_
     refine mv ?_
     refine mv ?_
     refine vy (V.ia h149 rfl rfl Rnf.el46) fun x78_109 h150 => ?_
     refine vy (V.ld hS h150 rfl Rnf.one9) fun x79_110 h151 => ?_
     refine vy (V.addS h151 rfl rfl) fun x80_111 h152 => ?_
     refine vy (V.addS h152 rfl rfl) fun x81_112 h153 => ?_
     refine as_ ?_
     refine LV.done ?_
     exact pa8 hS h153 ⟨rfl, rfl, rfl, rfl, rfl, rfl, rfl, rfl, trivial⟩
   ·
    intro y0 y1 y2 y6 y7 y8 y9 y12 T9 n9 ρ its hS h22
    unfold g7_k2 at h22
    clear h11 h21
    refine sr ?_
    refine mv ?_
    refine LV.call hS h22 (g11_ok _ _ _ _ ) hP rfl rfl rfl rfl fun x84_17 T10 n10 h23 ρ its hS => ?_
    refine mv ?_
    refine vy (V.ex h23 rfl) fun x85_18 h24 => ?_
    refine vy (V.ex h24 rfl) fun x86_19 h25 => ?_
    refine as_ ?_
    refine as_ ?_
    refine dn ?_
    refine sr ?_
    refine mv ?_
    refine LV.call hS h25 (g27_ok _ _ _ _ _ ) hP rfl rfl rfl rfl fun x89_20 T11 n11 h26 ρ its hS => ?_
    refine mv ?_
    refine vy (V.ex h26 rfl) fun x90_21 h27 => ?_
    refine vy (V.ex h27 rfl) fun x91_22 h28 => ?_
    refine vy (V.ex h28 rfl) fun x92_23 h29 => ?_
    refine as_ ?_
    refine as_ ?_
    refine as_ ?_
    refine dn ?_
    refine CV.seq ?_
    refine sr ?_
    refine mv ?_
    refine vy (V.bin0 h29 rfl rfl) fun x94_24 h30 => ?_
    refine mv ?_
    refine ls12 X 0 1 2 6 7 8 9 12 13 15 16 98 [] (g7_k3 c0 m0 c1 m1 ro) 3 ?_ ?_
    ·
     rcases condK_inv h30 with ⟨e, h137⟩ | ⟨e, h137⟩
     ·
      clear h22 h23 h24 h25 h26 h27 h28 h29 h30
      subst e
      refine sk ?_
      refine sk ?_
      refine pu ?_
      exact la12 hS h137 ⟨rfl, rfl, rfl, rfl, rfl, rfl, rfl, rfl, rfl, rfl, rfl, rfl, trivial⟩
     ·
      clear h22 h23 h24 h25 h26 h27 h28 h29 h30
      subst e
      refine mv ?_
      refine vy (V.bin0 h137 rfl rfl) fun x97_98 h138 => ?_
      refine pu ?_
      exact la12 hS h138 ⟨rfl, rfl, rfl, rfl, rfl, rfl, rfl, rfl, rfl, rfl, rfl, rfl, trivial⟩
    ·
     intro y0 y1 y2 y6 y7 y8 y9 y12 y13 y15 y16 y98 T12 n12 ρ its hS h31
     unfold g7_k3 at h31
     clear h22 h23 h24 h25 h26 h27 h28 h29 h30
     refine mv ?_
     refine ls12 X 0 1 2 6 7 8 9 12 13 15 16 103 [] (g7_k4 c0 m0 c1 m1 ro) 4 ?_ ?_
     ·
      rcases condK_inv h31 with ⟨e, h134⟩ | ⟨e, h134⟩
      ·
       clear h31
       subst e
       refine sk ?_
       refine sk ?_
       refine sk ?_
       refine pu ?_
       exact la12 hS h134 ⟨rfl, rfl, rfl, rfl, rfl, rfl, rfl, rfl, rfl, rfl, rfl, rfl, trivial⟩
      ·
       clear h31
       subst e
       refine mv ?_
       refine vy (V.lenS h134 rfl Rnf.ls50) fun x101_96 h135 => ?_
       refine vy (V.eq h135 rfl rfl) fun x102_97 h136 => ?_
       refine pu ?_
       exact la12 hS h136 ⟨rfl, rfl, rfl, rfl, rfl, rfl, rfl, rfl, rfl, rfl, rfl, rfl, trivial⟩
     ·
      intro y0 y1 y2 y6 y7 y8 y9 y12 y13 y15 y16 y103 T13 n13 ρ its hS h32
      unfold g7_k4 at h32
      clear h31
      refine mv ?_
      refine ls11 X 0 1 2 6 8 9 12 13 15 16 107 [] (g7_k5 c0 m0 c1 m1 ro) 3 ?_ ?_
      ·
       rcases condK_inv h32 with ⟨e, h132⟩ | ⟨e, h132⟩
       ·
        clear h32
        subst e
        refine sk ?_
        refine sk ?_
        refine pu ?_
        exact la11 hS h132 ⟨rfl, rfl, rfl, rfl, rfl, rfl, rfl, rfl, rfl, rfl, rfl, trivial⟩
       ·
        clear h32
        subst e
        refine mv ?_
        refine vy (V.not h132 rfl) fun x106_95 h133 => ?_
        refine pu ?_
        exact la11 hS h133 ⟨rfl, rfl, rfl, rfl, rfl, rfl, rfl, rfl, rfl, rfl, rfl, trivial⟩
      ·
       intro y0 y1 y2 y6 y8 y9 y12 y13 y15 y16 y107 T14 n14 ρ its hS h33
       unfold g7_k5 at h33
       clear h32
       refine dn ?_
       refine CV.cond h33 rfl (fun e h34 => ?_) (fun e h34 => ?_)
       ·
        clear h33
        subst e
        cases h34
       ·
        clear h33
        subst e
        refine CV.skip ?_
        refine PV.thenN ?_
        refine CV.seq ?_
        refine sr ?_
        refine mv ?_
        refine vy (V.ia h34 rfl rfl Rnf.el51) fun x109_25 h35 => ?_
        refine vy (V.fa h35 rfl Rnf.fo56_3) fun x110_26 h36 => ?_
        refine vy (V.ld hS h36 rfl Rnf.one46) fun x111_27 h37 => ?_
        refine mv ?_
        refine vy (V.cutHi hS h37 rfl rfl Rnf.el46) fun x113_28 h38 => ?_
        refine mv ?_
        refine LV.call hS h38 (g28_ok _ _ _ _ _ ) hP rfl rfl rfl rfl fun x115_29 T15 n15 h39 ρ its hS => ?_
        refine vy (V.not h39 rfl) fun x116_30 h40 => ?_
        refine dn ?_
        refine CV.cond h40 rfl (fun e h41 => ?_) (fun e h41 => ?_)
        ·
         clear h34 h35 h36 h37 h38 h39 h40
         subst e
         cases h41
        ·
         clear h34 h35 h36 h37 h38 h39 h40
         subst e
         refine CV.skip ?_
         refine PV.thenN ?_
         refine CV.seq ?_
         refine sr ?_
         refine as_ ?_
         refine dn ?_
         refine CV.block ?_
         refine cl9 X 1 2 6 8 9 12 13 15 18 [] hS h41 ⟨rfl, rfl, rfl, rfl, rfl, rfl, rfl, rfl, rfl, trivial⟩ ?_
         intro f6 y1 y2 y6 y8 y9 y12 y13 y15 y18 T16 n16 ρ its hS h42
         unfold g7_b6 at h42
         clear h41
         refine CV.seq ?_
         refine sr ?_
         refine mv ?_
         refine mv ?_
         refine vy (V.lenS h42 rfl Rnf.ls50) fun x119_31 h43 => ?_
         refine vy (V.lt h43 rfl rfl) fun x120_32 h44 => ?_
         refine dn ?_
         refine CV.cond h44 rfl (fun e h45 => ?_) (fun e h45 => ?_)
         ·
          clear h42 h43 h44
          subst e
          refine CV.skip ?_
          refine PV.thenN ?_
          refine cs9 X 1 2 6 8 9 12 13 15 18 [] (g7_k7 c0 m0 c1 m1 ro (lpf9 70083 (g7_b6 c0 m0 c1 m1 ro) f6)) ?_ ?_
          ·
           refine CV.block ?_
           refine sr ?_
           refine mv ?_
           refine mv ?_
           refine mv ?_
           refine vy (V.ia h45 rfl rfl Rnf.el50) fun x126_34 h48 => ?_
           refine vy (V.fa h48 rfl Rnf.fo58_0) fun x127_35 h49 => ?_
           refine vy (V.ld hS h49 rfl Rnf.one3) fun x128_36 h50 => ?_
           refine vy (V.ia h50 rfl rfl Rnf.el23) fun x129_37 h51 => ?_
           refine vy (V.ldA hS h51 rfl Rnf.agg32) fun x130_38 h52 => ?_
           refine LV.alloc hS h52 rfl Rnf.zr32 rfl rfl rfl fun x19_39 T18 n18 h53 ρ its hS hdr => ?_
           refine LV.stA hS h53 rfl rfl rfl Rnf.agg32 rfl rfl rfl fun T19 its h54 hS => ?_
           refine dn ?_
           refine CV.seq ?_
           refine cs10 X 1 2 6 8 9 12 13 15 18 143 [] (g7_k8 c0 m0 c1 m1 ro (lpf9 70083 (g7_b6 c0 m0 c1 m1 ro) f6)) ?_ ?_
           ·
            refine CV.regionM [(0, .anywhere), (1, .held), (2, .anywhere), (3, .anywhere), (4, .anywhere), (5, .held), (6, .held), (7, .held), (8, .held), (9, .held), (10, .anywhere), (11, .held), (12, .held)] rfl (fun c a a' w hd hq => PanicOk.root (P := Tryz.prog) (fn := Tryz.f7) (w0 := w0) (base := base) (E := envE) (ro := ro) (r := r) (T' := T') (n' := n') (ρ0 := ρ0) c a a' w hd hq) (by kernel_rfl) ?_
            refine MV.lift0 (i := 0) rfl (V.fa h54 rfl Rnf.fo32_3) rfl rfl rfl fun x131_57 h85 => ?_
            refine MV.lift1 (i := 1) rfl (fun _ z => z) (V.ld hS h85 rfl Rnf.one9) rfl rfl rfl [] (by kernel_rfl) fun x132_58 h86 => ?_
            refine MV.step0 (i := 2) rfl (VAL.move rfl) rfl rfl rfl ?_
            refine MV.step0 (i := 3) rfl (VAL.move rfl) rfl rfl rfl ?_
            refine MV.lift0 (i := 4) rfl (V.ia h86 rfl rfl Rnf.el46) rfl rfl rfl fun x135_59 h87 => ?_
            refine MV.lift1 (i := 5) rfl (fun _ z => z) (V.ld hS h87 rfl Rnf.one9) rfl rfl rfl [1] (by kernel_rfl) fun x136_60 h88 => ?_
            refine MV.lift1 (i := 6) rfl (fun _ z => z) (V.neS h88 rfl rfl) rfl rfl rfl [] (by kernel_rfl) fun x137_61 h89 => ?_
            refine MV.step1 (i := 7) rfl (fun _ z => z) (VAL.move rfl) rfl rfl rfl [] (by kernel_rfl) ?_
            rcases condK_inv h89 with ⟨e, h90⟩ | ⟨e, h90⟩
            ·
             clear h45 h48 h49 h50 h51 h52 h53 h54 h85 h86 h87 h88 h89
             subst e
             refine MV.skip1 (i := 8) rfl (fun _ z => z) rfl rfl rfl [] (by kernel_rfl) ?_
             refine MV.skip1 (i := 9) rfl (fun _ z => z) rfl rfl rfl [] (by kernel_rfl) ?_
             refine MV.skip0 (i := 10) rfl rfl rfl rfl ?_
             refine MV.skip1 (i := 11) rfl (fun _ z => z) rfl rfl rfl [] (by kernel_rfl) ?_
             refine MV.step1 (i := 12) rfl (fun _ z => z) (VAL.pure rfl) rfl rfl rfl [] (by kernel_rfl) ?_
             refine MV.done ?_
             exact pa10 hS h90 ⟨rfl, rfl, rfl, rfl, rfl, rfl, rfl, rfl, rfl, rfl, trivial⟩
            ·
             clear h45 h48 h49 h50 h51 h52 h53 h54 h85 h86 h87 h88 h89
             subst e
             refine MV.lift1 (i := 8) rfl (fun _ z => z) (V.fa h90 rfl Rnf.fo32_2) rfl rfl rfl [] (by kernel_rfl) fun x139_62 h91 => ?_
             refine MV.lift1 (i := 9) rfl (fun _ z => z) (V.ld hS h91 rfl Rnf.one3) rfl rfl rfl [] (by kernel_rfl) fun x140_63 h92 => ?_
             refine MV.step0 (i := 10) rfl (VAL.move rfl) rfl rfl rfl ?_
             refine MV.lift1 (i := 11) rfl (fun _ z => z) (V.lt h92 rfl rfl) rfl rfl rfl [] (by kernel_rfl) fun x142_64 h93 => ?_
             refine MV.step1 (i := 12) rfl (fun _ z => z) (VAL.pure rfl) rfl rfl rfl [] (by kernel_rfl) ?_
             refine MV.done ?_
             exact pa10 hS h93 ⟨rfl, rfl, rfl, rfl, rfl, rfl, rfl, rfl, rfl, rfl, trivial⟩
           ·
            intro y1 y2 y6 y8 y9 y12 y13 y15 y18 y143 T20 n20 ρ its hS h55
            unfold g7_k8 at h55
            clear h45 h48 h49 h50 h51 h52 h53 h54
            refine CV.cond h55 rfl (fun e h56 => ?_) (fun e h56 => ?_)
            ·
             clear h55
             subst e
             refine CV.exit ?_
             refine PV.thenE ?_
             refine PV.blockE ?_
             exact pa9 hS h56 ⟨rfl, rfl, rfl, rfl, rfl, rfl, rfl, rfl, rfl, trivial⟩
            ·
             clear h55
             subst e
             refine CV.skip ?_
             refine PV.thenN ?_
             refine sr ?_
             refine mv ?_
             refine mv ?_
             refine ls10 X 1 2 6 8 9 12 13 15 18 160 [] (g7_k9 c0 m0 c1 m1 ro (lpf9 70083 (g7_b6 c0 m0 c1 m1 ro) f6)) 15 ?_ ?_
             ·
              rcases condK_inv h56 with ⟨e, h74⟩ | ⟨e, h74⟩
              ·
               clear h56
               subst e
               refine mv ?_
               refine mv ?_
               refine vy (V.ia h74 rfl rfl Rnf.el50) fun x148_49 h75 => ?_
               refine vy (V.fa h75 rfl Rnf.fo58_1) fun x149_50 h76 => ?_
               refine vy (V.ld hS h76 rfl Rnf.one3) fun x150_51 h77 => ?_
               refine vy (V.ne h77 rfl rfl) fun x151_52 h78 => ?_
               refine mv ?_
               refine ls9 X 1 6 8 9 12 13 15 18 159 [(2, (.lit (.bool true))), (145, (.lit (.bool true)))] (g7_k13 c0 m0 c1 m1 ro (lpf9 70083 (g7_b6 c0 m0 c1 m1 ro) f6)) 7 ?_ ?_
               ·
                rcases condK_inv h78 with ⟨e, h80⟩ | ⟨e, h80⟩
                ·
                 clear h74 h75 h76 h77 h78
                 subst e
                 refine sk ?_
                 refine sk ?_
                 refine sk ?_
                 refine sk ?_
                 refine sk ?_
                 refine sk ?_
                 refine pu ?_
                 exact la9 hS h80 ⟨rfl, rfl, rfl, rfl, rfl, rfl, rfl, rfl, rfl, rfl, rfl, trivial⟩
                ·
                 clear h74 h75 h76 h77 h78
                 subst e
                 refine mv ?_
                 refine mv ?_
                 refine vy (V.ia h80 rfl rfl Rnf.el50) fun x155_53 h81 => ?_
                 refine vy (V.fa h81 rfl Rnf.fo58_2) fun x156_54 h82 => ?_
                 refine vy (V.ld hS h82 rfl Rnf.one3) fun x157_55 h83 => ?_
                 refine vy (V.ne h83 rfl rfl) fun x158_56 h84 => ?_
                 refine pu ?_
                 exact la9 hS h84 ⟨rfl, rfl, rfl, rfl, rfl, rfl, rfl, rfl, rfl, rfl, rfl, trivial⟩
               ·
                intro y1 y6 y8 y9 y12 y13 y15 y18 y159 T25 n25 ρ its hS h79
                unfold g7_k13 at h79
                clear h74 h75 h76 h77 h78
                refine pu ?_
                exact la10 hS h79 ⟨rfl, rfl, rfl, rfl, rfl, rfl, rfl, rfl, rfl, rfl, trivial⟩
              ·
               clear h56
               subst e
               refine sk ?_
               refine sk ?_
               refine sk ?_
               refine sk ?_
               refine sk ?_
               refine sk ?_
               refine sk ?_
               refine sk ?_
               refine sk ?_
               refine sk ?_
               refine sk ?_
               refine sk ?_
               refine sk ?_
               refine sk ?_
               refine pu ?_
               exact la10 hS h74 ⟨rfl, rfl, rfl, rfl, rfl, rfl, rfl, rfl, rfl, rfl, trivial⟩
             ·
              intro y1 y2 y6 y8 y9 y12 y13 y15 y18 y160 T21 n21 ρ its hS h57
              unfold g7_k9 at h57
              clear h56
              refine mv ?_
              refine ls10 X 1 2 6 8 9 12 13 15 18 181 [] (g7_k10 c0 m0 c1 m1 ro (lpf9 70083 (g7_b6 c0 m0 c1 m1 ro) f6)) 20 ?_ ?_
              ·
               rcases condK_inv h57 with ⟨e, h60⟩ | ⟨e, h60⟩
               ·
                clear h57
                subst e
                refine sk ?_
                refine sk ?_
                refine sk ?_
                refine sk ?_
                refine sk ?_
                refine sk ?_
                refine sk ?_
                refine sk ?_
                refine sk ?_
                refine sk ?_
                refine sk ?_
                refine sk ?_
                refine sk ?_
                refine sk ?_
                refine sk ?_
                refine sk ?_
                refine sk ?_
                refine sk ?_
                refine sk ?_
                refine pu ?_
                exact la10 hS h60 ⟨rfl, rfl, rfl, rfl, rfl, rfl, rfl, rfl, rfl, rfl, trivial⟩
               ·
                clear h57
                subst e
                refine mv ?_
                refine vy (V.not h60 rfl) fun x163_40 h61 => ?_
                refine mv ?_
                refine ls10 X 1 2 6 8 9 12 13 15 18 180 [(161, (.lit (.bool false)))] (g7_k11 c0 m0 c1 m1 ro (lpf9 70083 (g7_b6 c0 m0 c1 m1 ro) f6)) 16 ?_ ?_
                ·
                 rcases condK_inv h61 with ⟨e, h63⟩ | ⟨e, h63⟩
                 ·
                  clear h60 h61
                  subst e
                  refine mv ?_
                  refine mv ?_
                  refine vy (V.ia h63 rfl rfl Rnf.el50) fun x167_41 h64 => ?_
                  refine vy (V.fa h64 rfl Rnf.fo58_1) fun x168_42 h65 => ?_
                  refine vy (V.ld hS h65 rfl Rnf.one3) fun x169_43 h66 => ?_
                  refine vy (V.ne h66 rfl rfl) fun x170_44 h67 => ?_
                  refine mv ?_
                  refine ls10 X 1 2 6 8 9 12 13 15 18 179 [(161, (.lit (.bool false))), (164, (.lit (.bool true)))] (g7_k12 c0 m0 c1 m1 ro (lpf9 70083 (g7_b6 c0 m0 c1 m1 ro) f6)) 8 ?_ ?_
                  ·
                   rcases condK_inv h67 with ⟨e, h69⟩ | ⟨e, h69⟩
                   ·
                    clear h63 h64 h65 h66 h67
                    subst e
                    refine sk ?_
                    refine sk ?_
                    refine sk ?_
                    refine sk ?_
                    refine sk ?_
                    refine sk ?_
                    refine sk ?_
                    refine pu ?_
                    exact la10 hS h69 ⟨rfl, rfl, rfl, rfl, rfl, rfl, rfl, rfl, rfl, rfl, rfl, rfl, trivial⟩
                   ·
                    clear h63 h64 h65 h66 h67
                    subst e
                    refine mv ?_
                    refine mv ?_
                    refine vy (V.ia h69 rfl rfl Rnf.el50) fun x174_45 h70 => ?_
                    refine vy (V.fa h70 rfl Rnf.fo58_2) fun x175_46 h71 => ?_
                    refine vy (V.ld hS h71 rfl Rnf.one3) fun x176_47 h72 => ?_
                    refine mv ?_
                    refine vy (V.ne h72 rfl rfl) fun x178_48 h73 => ?_
                    refine pu ?_
                    exact la10 hS h73 ⟨rfl, rfl, rfl, rfl, rfl, rfl, rfl, rfl, rfl, rfl, rfl, rfl, trivial⟩
                  ·
                   intro y1 y2 y6 y8 y9 y12 y13 y15 y18 y179 T24 n24 ρ its hS h68
                   unfold g7_k12 at h68
                   clear h63 h64 h65 h66 h67
                   refine pu ?_
                   exact la10 hS h68 ⟨rfl, rfl, rfl, rfl, rfl, rfl, rfl, rfl, rfl, rfl, rfl, trivial⟩
                 ·
                  clear h60 h61
                  subst e
                  refine sk ?_
                  refine sk ?_
                  refine sk ?_
                  refine sk ?_
                  refine sk ?_
                  refine sk ?_
                  refine sk ?_
                  refine sk ?_
                  refine sk ?_
                  refine sk ?_
                  refine sk ?_
                  refine sk ?_
                  refine sk ?_
                  refine sk ?_
                  refine sk ?_
                  refine pu ?_
                  exact la10 hS h63 ⟨rfl, rfl, rfl, rfl, rfl, rfl, rfl, rfl, rfl, rfl, rfl, trivial⟩
                ·
                 intro y1 y2 y6 y8 y9 y12 y13 y15 y18 y180 T23 n23 ρ its hS h62
                 unfold g7_k11 at h62
                 clear h60 h61
                 refine pu ?_
                 exact la10 hS h62 ⟨rfl, rfl, rfl, rfl, rfl, rfl, rfl, rfl, rfl, rfl, trivial⟩
              ·
               intro y1 y2 y6 y8 y9 y12 y13 y15 y18 y181 T22 n22 ρ its hS h58
               unfold g7_k10 at h58
               clear h57
               refine dn ?_
               refine CV.cond h58 rfl (fun e h59 => ?_) (fun e h59 => ?_)
               ·
                clear h58
                subst e
                cases h59
               ·
                clear h58
                subst e
                refine CV.skip ?_
                refine PV.blockN ?_
                exact pa9 hS h59 ⟨rfl, rfl, rfl, rfl, rfl, rfl, rfl, rfl, rfl, trivial⟩
          ·
           intro y1 y2 y6 y8 y9 y12 y13 y15 y18 T17 n17 ρ its hS h46
           unfold g7_k7 at h46
           clear h45
           refine CV.region ?_
           refine mv ?_
           refine vy (V.add h46 rfl rfl) fun x122_33 h47 => ?_
           refine as_ ?_
           refine LV.done ?_
           exact pb9 hS h47 ⟨rfl, rfl, rfl, rfl, rfl, rfl, rfl, rfl, rfl, trivial⟩
         ·
          clear h42 h43 h44
          subst e
          refine CV.exit ?_
          refine PV.thenE ?_
          refine PV.thenE ?_
          refine PV.blockE ?_
          refine PV.thenN ?_
          refine sr ?_
          refine mv ?_
          refine vy (V.addS h45 rfl rfl) fun x184_65 h94 => ?_
          refine LV.call hS h94 (g11_ok _ _ _ _ ) hP rfl rfl rfl rfl fun x185_66 T26 n26 h95 ρ its hS => ?_
          refine mv ?_
          refine vy (V.ex h95 rfl) fun x186_67 h96 => ?_
          refine vy (V.ex h96 rfl) fun x187_68 h97 => ?_
          refine as_ ?_
          refine as_ ?_
          refine dn ?_
          refine sr ?_
          refine mv ?_
          refine LV.call hS h97 (g27_ok _ _ _ _ _ ) hP rfl rfl rfl rfl fun x190_69 T27 n27 h98 ρ its hS => ?_
          refine mv ?_
          refine vy (V.ex h98 rfl) fun x191_70 h99 => ?_
          refine vy (V.ex h99 rfl) fun x192_71 h100 => ?_
          refine vy (V.ex h100 rfl) fun x193_72 h101 => ?_
          refine as_ ?_
          refine as_ ?_
          refine as_ ?_
          refine dn ?_
          refine sr ?_
          refine mv ?_
          refine LV.bslice hS h101 rfl rfl Rnf.el46 rfl rfl rfl rfl fun x196_73 T28 n28 h102 ρ its hS hdr => ?_
          refine LV.call hS h102 (g27_ok _ _ _ _ _ ) hP rfl rfl rfl rfl fun x197_74 T29 n29 h103 ρ its hS => ?_
          refine mv ?_
          refine vy (V.ex h103 rfl) fun x198_75 h104 => ?_
          refine vy (V.ex h104 rfl) fun x199_76 h105 => ?_
          refine vy (V.ex h105 rfl) fun x200_77 h106 => ?_
          refine as_ ?_
          refine as_ ?_
          refine as_ ?_
          refine dn ?_
          refine CV.seq ?_
          refine sr ?_
          refine mv ?_
          refine vy (V.bin0 h106 rfl rfl) fun x202_78 h107 => ?_
          refine mv ?_
          refine ls4 X 6 25 27 210 [] (g7_k14 c0 m0 c1 m1 ro) 7 ?_ ?_
          ·
           rcases condK_inv h107 with ⟨e, h127⟩ | ⟨e, h127⟩
           ·
            clear h45 h94 h95 h96 h97 h98 h99 h100 h101 h102 h103 h104 h105 h106 h107
            subst e
            refine sk ?_
            refine sk ?_
            refine sk ?_
            refine sk ?_
            refine sk ?_
            refine sk ?_
            refine pu ?_
            exact la4 hS h127 ⟨rfl, rfl, rfl, rfl, trivial⟩
           ·
            clear h45 h94 h95 h96 h97 h98 h99 h100 h101 h102 h103 h104 h105 h106 h107
            subst e
            refine mv ?_
            refine mv ?_
            refine vy (V.lenT h127 rfl Rnf.ls9) fun x206_91 h128 => ?_
            refine LV.call hS h128 (g17_ok _ _ _ _ _ ) hP rfl rfl rfl rfl fun x207_92 T35 n35 h129 ρ its hS => ?_
            refine LV.call hS h129 (g16_ok _ _ _ _ _ ) hP rfl rfl rfl rfl fun x208_93 T36 n36 h130 ρ its hS => ?_
            refine vy (V.not h130 rfl) fun x209_94 h131 => ?_
            refine pu ?_
            exact la4 hS h131 ⟨rfl, rfl, rfl, rfl, trivial⟩
          ·
           intro y6 y25 y27 y210 T30 n30 ρ its hS h108
           unfold g7_k14 at h108
           clear h45 h94 h95 h96 h97 h98 h99 h100 h101 h102 h103 h104 h105 h106 h107
           refine mv ?_
           refine ls3 X 6 25 214 [] (g7_k15 c0 m0 c1 m1 ro) 3 ?_ ?_
           ·
            rcases condK_inv h108 with ⟨e, h125⟩ | ⟨e, h125⟩
            ·
             clear h108
             subst e
             refine sk ?_
             refine sk ?_
             refine pu ?_
             exact la3 hS h125 ⟨rfl, rfl, rfl, trivial⟩
            ·
             clear h108
             subst e
             refine mv ?_
             refine vy (V.bin0 h125 rfl rfl) fun x213_90 h126 => ?_
             refine pu ?_
             exact la3 hS h126 ⟨rfl, rfl, rfl, trivial⟩
           ·
            intro y6 y25 y214 T31 n31 ρ its hS h109
            unfold g7_k15 at h109
            clear h108
            refine dn ?_
            refine CV.cond h109 rfl (fun e h110 => ?_) (fun e h110 => ?_)
            ·
             clear h109
             subst e
             cases h110
            ·
             clear h109
             subst e
             refine CV.skip ?_
             refine PV.thenN ?_
             refine sr ?_
             refine mv ?_
             refine mv ?_
             refine vy (V.lenS h110 rfl Rnf.ls50) fun x217_79 h111 => ?_
             refine vy (V.sub h111 rfl rfl) fun x218_80 h112 => ?_
             refine vy (V.ia h112 rfl rfl Rnf.el50) fun x219_81 h113 => ?_
             refine vy (V.ldA hS h113 rfl Rnf.agg58) fun x220_82 h114 => ?_
             refine LV.alloc hS h114 rfl Rnf.zr58 rfl rfl rfl fun x28_83 T32 n32 h115 ρ its hS hdr => ?_
             refine LV.stA hS h115 rfl rfl rfl Rnf.agg58 rfl rfl rfl fun T33 its h116 hS => ?_
             refine dn ?_
             refine sr ?_
             refine vy (V.fa h116 rfl Rnf.fo58_1) fun x221_84 h117 => ?_
             refine vy (V.ld hS h117 rfl Rnf.one3) fun x222_85 h118 => ?_
             refine vy (V.eq h118 rfl rfl) fun x223_86 h119 => ?_
             refine mv ?_
             refine ls2 X 6 228 [] (g7_k16 c0 m0 c1 m1 ro) 4 ?_ ?_
             ·
              rcases condK_inv h119 with ⟨e, h121⟩ | ⟨e, h121⟩
              ·
               clear h110 h111 h112 h113 h114 h115 h116 h117 h118 h119
               subst e
               refine vy (V.fa h121 rfl Rnf.fo58_2) fun x225_87 h122 => ?_
               refine vy (V.ld hS h122 rfl Rnf.one3) fun x226_88 h123 => ?_
               refine vy (V.eq h123 rfl rfl) fun x227_89 h124 => ?_
               refine pu ?_
               exact la2 hS h124 ⟨rfl, rfl, trivial⟩
              ·
               clear h110 h111 h112 h113 h114 h115 h116 h117 h118 h119
               subst e
               refine sk ?_
               refine sk ?_
               refine sk ?_
               refine pu ?_
               exact la2 hS h121 ⟨rfl, rfl, trivial⟩
             ·
              intro y6 y228 T34 n34 ρ its hS h120
              unfold g7_k16 at h120
              clear h110 h111 h112 h113 h114 h115 h116 h117 h118 h119
              refine as_ ?_
              refine dn ?_
              refine CV.ret ?_
              cases h120
              exact PV.ret (by simp) Tryz.results7 hS (RS.tmp rfl RS.nil) rfl

end Go.Proofs.YtdepmlcnllofiaaGreatDoor.Rn
