/-
  Proved here: plain functions that do what the program's functions do, each with its proof.
-/
import Derived.Test.YtggoogbloaennaaDoorTrb
namespace Go.Proofs.YtggoogbloaennaaDoor.Tr
open Go.EY Go.EX Go.SX Go.RowKit
noncomputable def g65_k3 (ro : List HT) (y0 y3 y4 y5 y40 : AV) (T5 : HT) (n5 : Nat) : R :=
 .ok (.val y40) T5 n5
noncomputable def g65_k6 (ro : List HT) (y0 y3 y4 y5 y70 : AV) (T12 : HT) (n12 : Nat) : R :=
 .ok (.val y70) T12 n12
noncomputable def g65_k8 (ro : List HT) (y0 y3 y4 y5 y87 : AV) (T15 : HT) (n15 : Nat) : R :=
 .ok (.val y87) T15 n15
noncomputable def g65_k7 (ro : List HT) (y0 y3 y4 y5 y81 : AV) (T14 : HT) (n14 : Nat) : R :=
 condK 650073 y81
 (
  cutLoFK 650076 T14 ro y5 (.lit (.int .i64 (.ofNat 1))) 1 fun x85_25 =>
  callK (g83 ro y0 x85_25 (.lit (.func (.func 84) #[] #[])) T14 n14) fun x86_26 T16 n16 =>
  g65_k8 ro y0 y3 y4 y5 x86_26 T16 n16
 )
 (
  g65_k8 ro y0 y3 y4 y5 (.lit (.bool false)) T14 n14
 )
noncomputable def g65_k11 (ro : List HT) (y0 y3 y4 y5 y109 : AV) (T20 : HT) (n20 : Nat) : R :=
 .ok (.val y109) T20 n20
noncomputable def g65_k10 (ro : List HT) (y0 y3 y4 y5 y104 : AV) (T19 : HT) (n19 : Nat) : R :=
 condK 650097 y104
 (
  callK (g81 ro y0 y5 (.lit (.int .i64 (.ofNat 3))) (.lit (.int .i64 (.ofNat 4))) T19 n19) fun x108_32 T21 n21 =>
  g65_k11 ro y0 y3 y4 y5 x108_32 T21 n21
 )
 (
  g65_k11 ro y0 y3 y4 y5 (.lit (.bool false)) T19 n19
 )
noncomputable def g65_k9 (ro : List HT) (y0 y3 y4 y5 y97 : AV) (T18 : HT) (n18 : Nat) : R :=
 condK 650103 y97
 (
  iaK 650106 y5 (.lit (.int .i64 (.ofNat 1))) 1 fun x101_33 =>
  ldK 650107 T18 ro x101_33 fun x102_34 =>
  callK (scc1 4000 86 ro [y0, x102_34] T18 n18) fun x103_35 T22 n22 =>
  g65_k10 ro y0 y3 y4 y5 x103_35 T22 n22
 )
 (
  g65_k10 ro y0 y3 y4 y5 (.lit (.bool false)) T18 n18
 )
noncomputable def g65_k12 (ro : List HT) (y0 y3 y4 y5 y121 : AV) (T23 : HT) (n23 : Nat) : R :=
 .ok (.val y121) T23 n23
noncomputable def g65_k14 (ro : List HT) (y0 y3 y4 y5 y145 : AV) (T26 : HT) (n26 : Nat) : R :=
 .ok (.val y145) T26 n26
noncomputable def g65_k13 (ro : List HT) (y0 y3 y4 y5 y135 : AV) (T25 : HT) (n25 : Nat) : R :=
 condK 650142 y135
 (
  lenSK 650146 y5 fun x140_45 =>
  subK Tryd.prog 3 (.tmp 140) (.const (.int .i64 (.ofNat 1))) 650147 x140_45 (.lit (.int .i64 (.ofNat 1))) fun x141_46 =>
  iaK 650148 y5 x141_46 1 fun x142_47 =>
  ldK 650149 T25 ro x142_47 fun x143_48 =>
  callK (g89 ro y0 x143_48 (.lit (.int .i64 (.ofNat 47))) T25 n25) fun x144_49 T27 n27 =>
  g65_k14 ro y0 y3 y4 y5 x144_49 T27 n27
 )
 (
  g65_k14 ro y0 y3 y4 y5 (.lit (.bool false)) T25 n25
 )
noncomputable def g65_k15 (ro : List HT) (y0 y3 y4 y5 y155 : AV) (T29 : HT) (n29 : Nat) : R :=
 .ok (.val y155) T29 n29
noncomputable def g65_k5 (ro : List HT) (y0 y3 y4 y5 y9 y55 : AV) (T10 : HT) (n10 : Nat) : R :=
 condK 650045 y55
 (
  callK (g81 ro y0 y5 (.lit (.int .i64 (.ofNat 0))) (.lit (.int .i64 (.ofNat 1))) T10 n10) fun x60_17 T11 n11 =>
  .ok (.val x60_17) T11 n11
 )
 (
  eqK Tryd.prog 3 (.tmp 9) (.const (.int .i64 (.ofNat 10))) 650050 y9 (.lit (.int .i64 (.ofNat 10))) fun x62_18 =>
  condK 650052 x62_18
  (
   lenSK 650054 y5 fun x64_19 =>
   gtK Tryd.prog 3 (.tmp 64) (.const (.int .i64 (.ofNat 0))) 650055 x64_19 (.lit (.int .i64 (.ofNat 0))) fun x65_20 =>
   condK 650058 x65_20
   (
    callK (g82 ro y0 y5 T10 n10) fun x69_21 T13 n13 =>
    g65_k6 ro y0 y3 y4 y5 x69_21 T13 n13
   )
   (
    g65_k6 ro y0 y3 y4 y5 (.lit (.bool false)) T10 n10
   )
  )
  (
   eqK Tryd.prog 3 (.tmp 9) (.const (.int .i64 (.ofNat 14))) 650064 y9 (.lit (.int .i64 (.ofNat 14))) fun x72_22 =>
   condK 650066 x72_22
   (
    lenSK 650068 y5 fun x74_23 =>
    eqK Tryd.prog 3 (.tmp 74) (.const (.int .i64 (.ofNat 3))) 650069 x74_23 (.lit (.int .i64 (.ofNat 3))) fun x75_24 =>
    condK 650080 x75_24
    (
     cutHiK 650083 T10 ro y5 (.lit (.int .i64 (.ofNat 1))) fun x79_27 =>
     callK (g81 ro y0 x79_27 (.lit (.int .i64 (.ofNat 1))) (.lit (.int .i64 (.ofNat 1))) T10 n10) fun x80_28 T17 n17 =>
     g65_k7 ro y0 y3 y4 y5 x80_28 T17 n17
    )
    (
     g65_k7 ro y0 y3 y4 y5 (.lit (.bool false)) T10 n10
    )
   )
   (
    eqK Tryd.prog 3 (.tmp 9) (.const (.int .i64 (.ofNat 34))) 650087 y9 (.lit (.int .i64 (.ofNat 34))) fun x89_29 =>
    condK 650089 x89_29
    (
     lenSK 650091 y5 fun x91_30 =>
     eqK Tryd.prog 3 (.tmp 91) (.const (.int .i64 (.ofNat 3))) 650092 x91_30 (.lit (.int .i64 (.ofNat 3))) fun x92_31 =>
     condK 650111 x92_31
     (
      g65_k9 ro y0 y3 y4 y5 (.lit (.bool true)) T10 n10
     )
     (
      lenSK 650114 y5 fun x95_36 =>
      eqK Tryd.prog 3 (.tmp 95) (.const (.int .i64 (.ofNat 4))) 650115 x95_36 (.lit (.int .i64 (.ofNat 4))) fun x96_37 =>
      g65_k9 ro y0 y3 y4 y5 x96_37 T10 n10
     )
    )
    (
     eqK Tryd.prog 3 (.tmp 9) (.const (.int .i64 (.ofNat 42))) 650117 y9 (.lit (.int .i64 (.ofNat 42))) fun x111_38 =>
     condK 650119 x111_38
     (
      lenSK 650121 y5 fun x113_39 =>
      gtK Tryd.prog 3 (.tmp 113) (.const (.int .i64 (.ofNat 0))) 650122 x113_39 (.lit (.int .i64 (.ofNat 0))) fun x114_40 =>
      condK 650125 x114_40
      (
       callK (g83 ro y0 y5 (.fn (.func 87) [y0] []) T10 n10) fun x120_41 T24 n24 =>
       g65_k12 ro y0 y3 y4 y5 x120_41 T24 n24
      )
      (
       g65_k12 ro y0 y3 y4 y5 (.lit (.bool false)) T10 n10
      )
     )
     (
      eqK Tryd.prog 3 (.tmp 9) (.const (.int .i64 (.ofNat 45))) 650133 y9 (.lit (.int .i64 (.ofNat 45))) fun x123_42 =>
      condK 650135 x123_42
      (
       lenSK 650137 y5 fun x125_43 =>
       gtK Tryd.prog 3 (.tmp 125) (.const (.int .i64 (.ofNat 0))) 650138 x125_43 (.lit (.int .i64 (.ofNat 0))) fun x126_44 =>
       condK 650153 x126_44
       (
        lenSK 650157 y5 fun x131_50 =>
        subK Tryd.prog 3 (.tmp 131) (.const (.int .i64 (.ofNat 1))) 650158 x131_50 (.lit (.int .i64 (.ofNat 1))) fun x132_51 =>
        cutHiK 650159 T10 ro y5 x132_51 fun x133_52 =>
        callK (g83 ro y0 x133_52 (.lit (.func (.func 88) #[] #[])) T10 n10) fun x134_53 T28 n28 =>
        g65_k13 ro y0 y3 y4 y5 x134_53 T28 n28
       )
       (
        g65_k13 ro y0 y3 y4 y5 (.lit (.bool false)) T10 n10
       )
      )
      (
       eqK Tryd.prog 3 (.tmp 9) (.const (.int .i64 (.ofNat 47))) 650163 y9 (.lit (.int .i64 (.ofNat 47))) fun x147_54 =>
       condK 650165 x147_54
       (
        lenSK 650167 y5 fun x149_55 =>
        gtK Tryd.prog 3 (.tmp 149) (.const (.int .i64 (.ofNat 0))) 650168 x149_55 (.lit (.int .i64 (.ofNat 0))) fun x150_56 =>
        condK 650171 x150_56
        (
         callK (g83 ro y0 y5 (.lit (.func (.func 90) #[] #[])) T10 n10) fun x154_57 T30 n30 =>
         g65_k15 ro y0 y3 y4 y5 x154_57 T30 n30
        )
        (
         g65_k15 ro y0 y3 y4 y5 (.lit (.bool false)) T10 n10
        )
       )
       (
        faK 650178 y3 0 fun x157_58 =>
        ldK 650179 T10 ro x157_58 fun x158_59 =>
        callK (g92 ro y0 x158_59 y5 T10 n10) fun x160_60 T31 n31 =>
        .ok (.val x160_60) T31 n31
       )
      )
     )
    )
   )
  )
 )
noncomputable def g65_k4 (ro : List HT) (y0 y3 y4 y5 y9 y41 : AV) (T7 : HT) (n7 : Nat) : R :=
 condK 650033 y41
 (
  callK (g81 ro y0 y5 (.lit (.int .i64 (.ofNat 1))) (.lit (.int .i64 (.ofNat 1))) T7 n7) fun x49_14 T8 n8 =>
  .ok (.val x49_14) T8 n8
 )
 (
  eqK Tryd.prog 3 (.tmp 9) (.const (.int .i64 (.ofNat 20))) 650038 y9 (.lit (.int .i64 (.ofNat 20))) fun x51_15 =>
  condK 650040 x51_15
  (
   callK (g81 ro y0 y5 (.lit (.int .i64 (.ofNat 3))) (.lit (.int .i64 (.ofNat 3))) T7 n7) fun x54_16 T9 n9 =>
   .ok (.val x54_16) T9 n9
  )
  (
   eqK Tryd.prog 3 (.tmp 9) (.const (.int .i64 (.ofNat 41))) 650183 y9 (.lit (.int .i64 (.ofNat 41))) fun x56_61 =>
   condK 650185 x56_61
   (
    g65_k5 ro y0 y3 y4 y5 y9 (.lit (.bool true)) T7 n7
   )
   (
    eqK Tryd.prog 3 (.tmp 9) (.const (.int .i64 (.ofNat 46))) 650186 y9 (.lit (.int .i64 (.ofNat 46))) fun x57_62 =>
    g65_k5 ro y0 y3 y4 y5 y9 x57_62 T7 n7
   )
  )
 )
noncomputable def g65_k2 (ro : List HT) (y0 y3 y4 y5 y9 y24 : AV) (T3 : HT) (n3 : Nat) : R :=
 condK 650013 y24
 (
  callK (g81 ro y0 y5 (.lit (.int .i64 (.ofNat 0))) (.lit (.int .i64 (.ofNat 1048576))) T3 n3) fun x29_8 T4 n4 =>
  .ok (.val x29_8) T4 n4
 )
 (
  eqK Tryd.prog 3 (.tmp 9) (.const (.int .i64 (.ofNat 9))) 650018 y9 (.lit (.int .i64 (.ofNat 9))) fun x31_9 =>
  condK 650020 x31_9
  (
   lenSK 650022 y5 fun x33_10 =>
   bin0 Tryd.prog .rem 3 (.tmp 33) (.const (.int .i64 (.ofNat 2))) 650023 x33_10 (.lit (.int .i64 (.ofNat 2))) fun x34_11 =>
   eqK Tryd.prog 3 (.tmp 34) (.const (.int .i64 (.ofNat 0))) 650024 x34_11 (.lit (.int .i64 (.ofNat 0))) fun x35_12 =>
   condK 650027 x35_12
   (
    callK (g81 ro y0 y5 (.lit (.int .i64 (.ofNat 0))) (.lit (.int .i64 (.ofNat 1048576))) T3 n3) fun x39_13 T6 n6 =>
    g65_k3 ro y0 y3 y4 y5 x39_13 T6 n6
   )
   (
    g65_k3 ro y0 y3 y4 y5 (.lit (.bool false)) T3 n3
   )
  )
  (
   eqK Tryd.prog 3 (.tmp 9) (.const (.int .i64 (.ofNat 11))) 650188 y9 (.lit (.int .i64 (.ofNat 11))) fun x42_63 =>
   condK 650190 x42_63
   (
    g65_k4 ro y0 y3 y4 y5 y9 (.lit (.bool true)) T3 n3
   )
   (
    eqK Tryd.prog 3 (.tmp 9) (.const (.int .i64 (.ofNat 12))) 650191 y9 (.lit (.int .i64 (.ofNat 12))) fun x43_64 =>
    condK 650193 x43_64
    (
     g65_k4 ro y0 y3 y4 y5 y9 (.lit (.bool true)) T3 n3
    )
    (
     eqK Tryd.prog 3 (.tmp 9) (.const (.int .i64 (.ofNat 16))) 650194 y9 (.lit (.int .i64 (.ofNat 16))) fun x44_65 =>
     condK 650196 x44_65
     (
      g65_k4 ro y0 y3 y4 y5 y9 (.lit (.bool true)) T3 n3
     )
     (
      eqK Tryd.prog 3 (.tmp 9) (.const (.int .i64 (.ofNat 17))) 650197 y9 (.lit (.int .i64 (.ofNat 17))) fun x45_66 =>
      condK 650199 x45_66
      (
       g65_k4 ro y0 y3 y4 y5 y9 (.lit (.bool true)) T3 n3
      )
      (
       eqK Tryd.prog 3 (.tmp 9) (.const (.int .i64 (.ofNat 35))) 650200 y9 (.lit (.int .i64 (.ofNat 35))) fun x46_67 =>
       g65_k4 ro y0 y3 y4 y5 y9 x46_67 T3 n3
      )
     )
    )
   )
  )
 )
noncomputable def g65_k1 (ro : List HT) (y0 y3 y4 y5 y9 y10 : AV) (T2 : HT) (n2 : Nat) : R :=
 condK 650008 y10
 (
  lenSK 650010 y5 fun x22_6 =>
  eqK Tryd.prog 3 (.tmp 22) (.const (.int .i64 (.ofNat 0))) 650011 x22_6 (.lit (.int .i64 (.ofNat 0))) fun x23_7 =>
  .ok (.val x23_7) T2 n2
 )
 (
  eqK Tryd.prog 3 (.tmp 9) (.const (.int .i64 (.ofNat 7))) 650202 y9 (.lit (.int .i64 (.ofNat 7))) fun x25_68 =>
  condK 650204 x25_68
  (
   g65_k2 ro y0 y3 y4 y5 y9 (.lit (.bool true)) T2 n2
  )
  (
   eqK Tryd.prog 3 (.tmp 9) (.const (.int .i64 (.ofNat 8))) 650205 y9 (.lit (.int .i64 (.ofNat 8))) fun x26_69 =>
   g65_k2 ro y0 y3 y4 y5 y9 x26_69 T2 n2
  )
 )
noncomputable def g65 (ro : List HT) (a0 a1 : AV) (T : HT) (nx : Nat) : R :=
 boxK 650001 T nx a1 27 fun x3_1 T1 n1 =>
 faK 650003 x3_1 4 fun x6_2 =>
 ldK 650004 T1 ro x6_2 fun x7_3 =>
 faK 650006 x3_1 0 fun x8_4 =>
 ldK 650007 T1 ro x8_4 fun x9_5 =>
 eqK Tryd.prog 3 (.tmp 9) (.const (.int .i64 (.ofNat 1))) 650207 x9_5 (.lit (.int .i64 (.ofNat 1))) fun x11_70 =>
 condK 650209 x11_70
 (
  g65_k1 ro a0 x3_1 (.lit (.bool false)) x7_3 x9_5 (.lit (.bool true)) T1 n1
 )
 (
  eqK Tryd.prog 3 (.tmp 9) (.const (.int .i64 (.ofNat 2))) 650210 x9_5 (.lit (.int .i64 (.ofNat 2))) fun x12_71 =>
  condK 650212 x12_71
  (
   g65_k1 ro a0 x3_1 (.lit (.bool false)) x7_3 x9_5 (.lit (.bool true)) T1 n1
  )
  (
   eqK Tryd.prog 3 (.tmp 9) (.const (.int .i64 (.ofNat 3))) 650213 x9_5 (.lit (.int .i64 (.ofNat 3))) fun x13_72 =>
   condK 650215 x13_72
   (
    g65_k1 ro a0 x3_1 (.lit (.bool false)) x7_3 x9_5 (.lit (.bool true)) T1 n1
   )
   (
    eqK Tryd.prog 3 (.tmp 9) (.const (.int .i64 (.ofNat 4))) 650216 x9_5 (.lit (.int .i64 (.ofNat 4))) fun x14_73 =>
    condK 650218 x14_73
    (
     g65_k1 ro a0 x3_1 (.lit (.bool false)) x7_3 x9_5 (.lit (.bool true)) T1 n1
    )
    (
     eqK Tryd.prog 3 (.tmp 9) (.const (.int .i64 (.ofNat 5))) 650219 x9_5 (.lit (.int .i64 (.ofNat 5))) fun x15_74 =>
     condK 650221 x15_74
     (
      g65_k1 ro a0 x3_1 (.lit (.bool false)) x7_3 x9_5 (.lit (.bool true)) T1 n1
     )
     (
      eqK Tryd.prog 3 (.tmp 9) (.const (.int .i64 (.ofNat 6))) 650222 x9_5 (.lit (.int .i64 (.ofNat 6))) fun x16_75 =>
      condK 650224 x16_75
      (
       g65_k1 ro a0 x3_1 (.lit (.bool false)) x7_3 x9_5 (.lit (.bool true)) T1 n1
      )
      (
       eqK Tryd.prog 3 (.tmp 9) (.const (.int .i64 (.ofNat 15))) 650225 x9_5 (.lit (.int .i64 (.ofNat 15))) fun x17_76 =>
       condK 650227 x17_76
       (
        g65_k1 ro a0 x3_1 (.lit (.bool false)) x7_3 x9_5 (.lit (.bool true)) T1 n1
       )
       (
        eqK Tryd.prog 3 (.tmp 9) (.const (.int .i64 (.ofNat 38))) 650228 x9_5 (.lit (.int .i64 (.ofNat 38))) fun x18_77 =>
        condK 650230 x18_77
        (
         g65_k1 ro a0 x3_1 (.lit (.bool false)) x7_3 x9_5 (.lit (.bool true)) T1 n1
        )
        (
         eqK Tryd.prog 3 (.tmp 9) (.const (.int .i64 (.ofNat 39))) 650231 x9_5 (.lit (.int .i64 (.ofNat 39))) fun x19_78 =>
         condK 650233 x19_78
         (
          g65_k1 ro a0 x3_1 (.lit (.bool false)) x7_3 x9_5 (.lit (.bool true)) T1 n1
         )
         (
          eqK Tryd.prog 3 (.tmp 9) (.const (.int .i64 (.ofNat 40))) 650234 x9_5 (.lit (.int .i64 (.ofNat 40))) fun x20_79 =>
          g65_k1 ro a0 x3_1 (.lit (.bool false)) x7_3 x9_5 x20_79 T1 n1
         )
        )
       )
      )
     )
    )
   )
  )
 )
theorem g65_ok (ro : List HT) (a0 a1 : AV) (T : HT) (nx : Nat) : GOk Tryd.prog envE 65 [a0, a1] ro T nx (g65 ro a0 a1 T nx) := by
 refine GOk.of_body Tryd.func65 rfl Tryd.ntmps65 (by kernel_rfl) rfl fun r T' n' h1 w0 base ρ0 its hS hP => ?_
 unfold g65 at h1
 refine CV.sub [(0, a0), (1, a1)] ⟨rfl, rfl, trivial⟩ ?_
 refine CV.seq ?_
 refine CV.region ?_
 refine LV.box hS h1 rfl rfl rfl rfl rfl fun x3_1 T1 n1 h2 ρ its hS hdr => ?_
 refine LV.step (VAL.assign rfl) rfl rfl rfl ?_
 refine LV.done ?_
 refine PV.sub [(0, a0), (3, x3_1), (4, (.lit (.bool false)))] ⟨rfl, rfl, rfl, trivial⟩ ?_
 refine PV.thenN ?_
 refine CV.seq ?_
 refine CV.region ?_
 refine LV.by (V.fa h2 rfl Trf.fo27_4) rfl rfl rfl fun x6_2 h3 => ?_
 refine LV.by (V.ld hS h3 rfl Trf.one25) rfl rfl rfl fun x7_3 h4 => ?_
 refine LV.step (VAL.assign rfl) rfl rfl rfl ?_
 refine LV.done ?_
 refine PV.sub [(0, a0), (3, x3_1), (4, (.lit (.bool false))), (5, x7_3)] ⟨rfl, rfl, rfl, rfl, trivial⟩ ?_
 refine PV.thenN ?_
 refine CV.seq ?_
 refine CV.seq ?_
 refine CV.region ?_
 refine LV.by (V.fa h4 rfl Trf.fo27_0) rfl rfl rfl fun x8_4 h5 => ?_
 refine LV.by (V.ld hS h5 rfl Trf.one3) rfl rfl rfl fun x9_5 h6 => ?_
 refine LV.done ?_
 refine PV.sub [(0, a0), (3, x3_1), (4, (.lit (.bool false))), (5, x7_3), (9, x9_5)] ⟨rfl, rfl, rfl, rfl, rfl, trivial⟩ ?_
 refine PV.thenN ?_
 refine CV.block ?_
 refine CV.seam (E := envE) (ro := ro) (ρ0 := ρ0) (τ := AV × AV × AV × AV × AV × AV × HT × Nat) (fun t => [(0, t.1), (3, t.2.1), (4, t.2.2.1), (5, t.2.2.2.1), (9, t.2.2.2.2.1), (10, t.2.2.2.2.2.1)]) (fun t => t.2.2.2.2.2.2.1) (fun t => t.2.2.2.2.2.2.2) (fun t => g65_k1 ro  t.1 t.2.1 t.2.2.1 t.2.2.2.1 t.2.2.2.2.1 t.2.2.2.2.2.1 t.2.2.2.2.2.2.1 t.2.2.2.2.2.2.2 = .ok r T' n') ?_ ?_
 ·
  refine CV.seq ?_
  refine CV.region ?_
  refine LV.by (V.eq h6 rfl rfl) rfl rfl rfl fun x11_70 h130 => ?_
  refine LV.step (VAL.assign rfl) rfl rfl rfl ?_
  refine LV.done ?_
  refine PV.sub [(0, a0), (3, x3_1), (4, (.lit (.bool false))), (5, x7_3), (9, x9_5), (10, x11_70)] ⟨rfl, rfl, rfl, rfl, rfl, rfl, trivial⟩ ?_
  refine PV.thenN ?_
  refine CV.cond h130 rfl (fun e h131 => ?_) (fun e h131 => ?_)
  ·
   clear h1 h2 h3 h4 h5 h6 h130
   subst e
   refine CV.skip ?_
   exact PV.atSeam (a0, x3_1, (.lit (.bool false)), x7_3, x9_5, (.lit (.bool true)), T1, n1) hS h131 ⟨rfl, rfl, rfl, rfl, rfl, rfl, trivial⟩
  ·
   clear h1 h2 h3 h4 h5 h6 h130
   subst e
   refine CV.seq ?_
   refine CV.region ?_
   refine LV.by (V.eq h131 rfl rfl) rfl rfl rfl fun x12_71 h132 => ?_
   refine LV.step (VAL.assign rfl) rfl rfl rfl ?_
   refine LV.done ?_
   refine PV.sub [(0, a0), (3, x3_1), (4, (.lit (.bool false))), (5, x7_3), (9, x9_5), (10, x12_71)] ⟨rfl, rfl, rfl, rfl, rfl, rfl, trivial⟩ ?_
   refine PV.thenN ?_
   refine CV.cond h132 rfl (fun e h133 => ?_) (fun e h133 => ?_)
   ·
    clear h131 h132
    subst e
    refine CV.skip ?_
    exact PV.atSeam (a0, x3_1, (.lit (.bool false)), x7_3, x9_5, (.lit (.bool true)), T1, n1) hS h133 ⟨rfl, rfl, rfl, rfl, rfl, rfl, trivial⟩
   ·
    clear h131 h132
    subst e
    refine CV.seq ?_
    refine CV.region ?_
    refine LV.by (V.eq h133 rfl rfl) rfl rfl rfl fun x13_72 h134 => ?_
    refine LV.step (VAL.assign rfl) rfl rfl rfl ?_
    refine LV.done ?_
    refine PV.sub [(0, a0), (3, x3_1), (4, (.lit (.bool false))), (5, x7_3), (9, x9_5), (10, x13_72)] ⟨rfl, rfl, rfl, rfl, rfl, rfl, trivial⟩ ?_
    refine PV.thenN ?_
    refine CV.cond h134 rfl (fun e h135 => ?_) (fun e h135 => ?_)
    ·
     clear h133 h134
     subst e
     refine CV.skip ?_
     exact PV.atSeam (a0, x3_1, (.lit (.bool false)), x7_3, x9_5, (.lit (.bool true)), T1, n1) hS h135 ⟨rfl, rfl, rfl, rfl, rfl, rfl, trivial⟩
    ·
     clear h133 h134
     subst e
     refine CV.seq ?_
     refine CV.region ?_
     refine LV.by (V.eq h135 rfl rfl) rfl rfl rfl fun x14_73 h136 => ?_
     refine LV.step (VAL.assign rfl) rfl rfl rfl ?_
     refine LV.done ?_
     refine PV.sub [(0, a0), (3, x3_1), (4, (.lit (.bool false))), (5, x7_3), (9, x9_5), (10, x14_73)] ⟨rfl, rfl, rfl, rfl, rfl, rfl, trivial⟩ ?_
     refine PV.thenN ?_
     refine CV.cond h136 rfl (fun e h137 => ?_) (fun e h137 => ?_)
     ·
      clear h135 h136
      subst e
      refine CV.skip ?_
      exact PV.atSeam (a0, x3_1, (.lit (.bool false)), x7_3, x9_5, (.lit (.bool true)), T1, n1) hS h137 ⟨rfl, rfl, rfl, rfl, rfl, rfl, trivial⟩
     ·
      clear h135 h136
      subst e
      refine CV.seq ?_
      refine CV.region ?_
      refine LV.by (V.eq h137 rfl rfl) rfl rfl rfl fun x15_74 h138 => ?_
      refine LV.step (VAL.assign rfl) rfl rfl rfl ?_
      refine LV.done ?_
      refine PV.sub [(0, a0), (3, x3_1), (4, (.lit (.bool false))), (5, x7_3), (9, x9_5), (10, x15_74)] ⟨rfl, rfl, rfl, rfl, rfl, rfl, trivial⟩ ?_
      refine PV.thenN ?_
      refine CV.cond h138 rfl (fun e h139 => ?_) (fun e h139 => ?_)
      ·
       clear h137 h138
       subst e
       refine CV.skip ?_
       exact PV.atSeam (a0, x3_1, (.lit (.bool false)), x7_3, x9_5, (.lit (.bool true)), T1, n1) hS h139 ⟨rfl, rfl, rfl, rfl, rfl, rfl, trivial⟩
      ·
       clear h137 h138
       subst e
       refine CV.seq ?_
       refine CV.region ?_
       refine LV.by (V.eq h139 rfl rfl) rfl rfl rfl fun x16_75 h140 => ?_
       refine LV.step (VAL.assign rfl) rfl rfl rfl ?_
       refine LV.done ?_
       refine PV.sub [(0, a0), (3, x3_1), (4, (.lit (.bool false))), (5, x7_3), (9, x9_5), (10, x16_75)] ⟨rfl, rfl, rfl, rfl, rfl, rfl, trivial⟩ ?_
       refine PV.thenN ?_
       refine CV.cond h140 rfl (fun e h141 => ?_) (fun e h141 => ?_)
       ·
        clear h139 h140
        subst e
        refine CV.skip ?_
        exact PV.atSeam (a0, x3_1, (.lit (.bool false)), x7_3, x9_5, (.lit (.bool true)), T1, n1) hS h141 ⟨rfl, rfl, rfl, rfl, rfl, rfl, trivial⟩
       ·
        clear h139 h140
        subst e
        refine CV.seq ?_
        refine CV.region ?_
        refine LV.by (V.eq h141 rfl rfl) rfl rfl rfl fun x17_76 h142 => ?_
        refine LV.step (VAL.assign rfl) rfl rfl rfl ?_
        refine LV.done ?_
        refine PV.sub [(0, a0), (3, x3_1), (4, (.lit (.bool false))), (5, x7_3), (9, x9_5), (10, x17_76)] ⟨rfl, rfl, rfl, rfl, rfl, rfl, trivial⟩ ?_
        refine PV.thenN ?_
        refine CV.cond h142 rfl (fun e h143 => ?_) (fun e h143 => ?_)
        ·
         clear h141 h142
         subst e
         refine CV.skip ?_
         exact PV.atSeam (a0, x3_1, (.lit (.bool false)), x7_3, x9_5, (.lit (.bool true)), T1, n1) hS h143 ⟨rfl, rfl, rfl, rfl, rfl, rfl, trivial⟩
        ·
         clear h141 h142
         subst e
         refine CV.seq ?_
         refine CV.region ?_
         refine LV.by (V.eq h143 rfl rfl) rfl rfl rfl fun x18_77 h144 => ?_
         refine LV.step (VAL.assign rfl) rfl rfl rfl ?_
         refine LV.done ?_
         refine PV.sub [(0, a0), (3, x3_1), (4, (.lit (.bool false))), (5, x7_3), (9, x9_5), (10, x18_77)] ⟨rfl, rfl, rfl, rfl, rfl, rfl, trivial⟩ ?_
         refine PV.thenN ?_
         refine CV.cond h144 rfl (fun e h145 => ?_) (fun e h145 => ?_)
         ·
          clear h143 h144
          subst e
          refine CV.skip ?_
          exact PV.atSeam (a0, x3_1, (.lit (.bool false)), x7_3, x9_5, (.lit (.bool true)), T1, n1) hS h145 ⟨rfl, rfl, rfl, rfl, rfl, rfl, trivial⟩
         ·
          clear h143 h144
          subst e
          refine CV.seq ?_
          refine CV.region ?_
          refine LV.by (V.eq h145 rfl rfl) rfl rfl rfl fun x19_78 h146 => ?_
          refine LV.step (VAL.assign rfl) rfl rfl rfl ?_
          refine LV.done ?_
          refine PV.sub [(0, a0), (3, x3_1), (4, (.lit (.bool false))), (5, x7_3), (9, x9_5), (10, x19_78)] ⟨rfl, rfl, rfl, rfl, rfl, rfl, trivial⟩ ?_
          refine PV.thenN ?_
          refine CV.cond h146 rfl (fun e h147 => ?_) (fun e h147 => ?_)
          ·
           clear h145 h146
           subst e
           refine CV.skip ?_
           exact PV.atSeam (a0, x3_1, (.lit (.bool false)), x7_3, x9_5, (.lit (.bool true)), T1, n1) hS h147 ⟨rfl, rfl, rfl, rfl, rfl, rfl, trivial⟩
          ·
           clear h145 h146
           subst e
           refine CV.region ?_
           refine LV.by (V.eq h147 rfl rfl) rfl rfl rfl fun x20_79 h148 => ?_
           refine LV.step (VAL.assign rfl) rfl rfl rfl ?_
           refine LV.done ?_
           refine PV.sub [(0, a0), (3, x3_1), (4, (.lit (.bool false))), (5, x7_3), (9, x9_5), (10, x20_79)] ⟨rfl, rfl, rfl, rfl, rfl, rfl, trivial⟩ ?_
           exact PV.atSeam (a0, x3_1, (.lit (.bool false)), x7_3, x9_5, x20_79, T1, n1) hS h148 ⟨rfl, rfl, rfl, rfl, rfl, rfl, trivial⟩
 ·
  rintro ⟨y0, y3, y4, y5, y9, y10, T2, n2⟩ ρ its hQ h7
  have hS : EY.ST w0 base envE ρ0 ρ T2 ro n2 its := hQ
  clear hQ
  change CV _ _ _ _ _ _ _ _ [(0, y0), (3, y3), (4, y4), (5, y5), (9, y9), (10, y10)] _
  have h8 : g65_k1 ro y0 y3 y4 y5 y9 y10 T2 n2 = .ok r T' n' := h7
  unfold g65_k1 at h8
  clear h1 h2 h3 h4 h5 h6 h7
  refine CV.cond h8 rfl (fun e h9 => ?_) (fun e h9 => ?_)
  ·
   clear h8
   subst e
   refine CV.seq ?_
   refine CV.region ?_
   refine LV.step (VAL.move rfl) rfl rfl rfl ?_
   refine LV.by (V.lenS h9 rfl Trf.ls25) rfl rfl rfl fun x22_6 h10 => ?_
   refine LV.by (V.eq h10 rfl rfl) rfl rfl rfl fun x23_7 h11 => ?_
   refine LV.step (VAL.assign rfl) rfl rfl rfl ?_
   refine LV.done ?_
   refine PV.sub [(0, y0), (3, y3), (4, x23_7), (5, y5)] ⟨rfl, rfl, rfl, rfl, trivial⟩ ?_
   refine PV.thenN ?_
   refine CV.ret ?_
   refine PV.blockR ?_
   refine PV.thenR ?_
   cases h11
   exact PV.ret (by simp) Tryd.results65 hS (RS.tmp rfl RS.nil) rfl
  ·
   clear h8
   subst e
   refine CV.seam (E := envE) (ro := ro) (ρ0 := ρ0) (τ := AV × AV × AV × AV × AV × AV × HT × Nat) (fun t => [(0, t.1), (3, t.2.1), (4, t.2.2.1), (5, t.2.2.2.1), (9, t.2.2.2.2.1), (24, t.2.2.2.2.2.1)]) (fun t => t.2.2.2.2.2.2.1) (fun t => t.2.2.2.2.2.2.2) (fun t => g65_k2 ro  t.1 t.2.1 t.2.2.1 t.2.2.2.1 t.2.2.2.2.1 t.2.2.2.2.2.1 t.2.2.2.2.2.2.1 t.2.2.2.2.2.2.2 = .ok r T' n') ?_ ?_
   ·
    refine CV.seq ?_
    refine CV.region ?_
    refine LV.by (V.eq h9 rfl rfl) rfl rfl rfl fun x25_68 h127 => ?_
    refine LV.step (VAL.assign rfl) rfl rfl rfl ?_
    refine LV.done ?_
    refine PV.sub [(0, y0), (3, y3), (4, y4), (5, y5), (9, y9), (24, x25_68)] ⟨rfl, rfl, rfl, rfl, rfl, rfl, trivial⟩ ?_
    refine PV.thenN ?_
    refine CV.cond h127 rfl (fun e h128 => ?_) (fun e h128 => ?_)
    ·
     clear h9 h127
     subst e
     refine CV.skip ?_
     exact PV.atSeam (y0, y3, y4, y5, y9, (.lit (.bool true)), T2, n2) hS h128 ⟨rfl, rfl, rfl, rfl, rfl, rfl, trivial⟩
    ·
     clear h9 h127
     subst e
     refine CV.region ?_
     refine LV.by (V.eq h128 rfl rfl) rfl rfl rfl fun x26_69 h129 => ?_
     refine LV.step (VAL.assign rfl) rfl rfl rfl ?_
     refine LV.done ?_
     refine PV.sub [(0, y0), (3, y3), (4, y4), (5, y5), (9, y9), (24, x26_69)] ⟨rfl, rfl, rfl, rfl, rfl, rfl, trivial⟩ ?_
     exact PV.atSeam (y0, y3, y4, y5, y9, x26_69, T2, n2) hS h129 ⟨rfl, rfl, rfl, rfl, rfl, rfl, trivial⟩
   ·
    rintro ⟨y0, y3, y4, y5, y9, y24, T3, n3⟩ ρ its hQ h12
    have hS : EY.ST w0 base envE ρ0 ρ T3 ro n3 its := hQ
    clear hQ
    change CV _ _ _ _ _ _ _ _ [(0, y0), (3, y3), (4, y4), (5, y5), (9, y9), (24, y24)] _
    have h13 : g65_k2 ro y0 y3 y4 y5 y9 y24 T3 n3 = .ok r T' n' := h12
    unfold g65_k2 at h13
    clear h9 h12
    refine CV.cond h13 rfl (fun e h14 => ?_) (fun e h14 => ?_)
    ·
     clear h13
     subst e
     refine CV.seq ?_
     refine CV.region ?_
     refine LV.step (VAL.move rfl) rfl rfl rfl ?_
     refine LV.step (VAL.move rfl) rfl rfl rfl ?_
     refine LV.call hS h14 (g81_ok _ _ _ _ _ _ _ ) hP rfl rfl rfl rfl fun x29_8 T4 n4 h15 ρ its hS => ?_
     refine LV.step (VAL.assign rfl) rfl rfl rfl ?_
     refine LV.done ?_
     refine PV.sub [(0, y0), (3, y3), (4, x29_8), (5, y5)] ⟨rfl, rfl, rfl, rfl, trivial⟩ ?_
     refine PV.thenN ?_
     refine CV.ret ?_
     refine PV.blockR ?_
     refine PV.thenR ?_
     cases h15
     exact PV.ret (by simp) Tryd.results65 hS (RS.tmp rfl RS.nil) rfl
    ·
     clear h13
     subst e
     refine CV.seq ?_
     refine CV.region ?_
     refine LV.by (V.eq h14 rfl rfl) rfl rfl rfl fun x31_9 h16 => ?_
     refine LV.step (VAL.assign rfl) rfl rfl rfl ?_
     refine LV.done ?_
     refine PV.sub [(0, y0), (3, y3), (4, y4), (5, y5), (9, y9), (30, x31_9)] ⟨rfl, rfl, rfl, rfl, rfl, rfl, trivial⟩ ?_
     refine PV.thenN ?_
     refine CV.cond h16 rfl (fun e h17 => ?_) (fun e h17 => ?_)
     ·
      clear h14 h16
      subst e
      refine CV.seq ?_
      refine CV.region ?_
      refine LV.step (VAL.move rfl) rfl rfl rfl ?_
      refine LV.by (V.lenS h17 rfl Trf.ls25) rfl rfl rfl fun x33_10 h18 => ?_
      refine LV.by (V.bin0 h18 rfl rfl) rfl rfl rfl fun x34_11 h19 => ?_
      refine LV.by (V.eq h19 rfl rfl) rfl rfl rfl fun x35_12 h20 => ?_
      refine LV.step (VAL.move rfl) rfl rfl rfl ?_
      refine LV.seam (E := envE) (ro := ro) (ρ0 := ρ0) (τ := AV × AV × AV × AV × AV × HT × Nat) (fun t => [(0, t.1), (3, t.2.1), (4, t.2.2.1), (5, t.2.2.2.1), (40, t.2.2.2.2.1)]) (fun t => t.2.2.2.2.2.1) (fun t => t.2.2.2.2.2.2) (fun t => g65_k3 ro  t.1 t.2.1 t.2.2.1 t.2.2.2.1 t.2.2.2.2.1 t.2.2.2.2.2.1 t.2.2.2.2.2.2 = .ok r T' n') 4 ?_ ?_
      ·
       rcases condK_inv h20 with ⟨e, h23⟩ | ⟨e, h23⟩
       ·
        clear h17 h18 h19 h20
        subst e
        refine LV.step (VAL.move rfl) rfl rfl rfl ?_
        refine LV.step (VAL.move rfl) rfl rfl rfl ?_
        refine LV.call hS h23 (g81_ok _ _ _ _ _ _ _ ) hP rfl rfl rfl rfl fun x39_13 T6 n6 h24 ρ its hS => ?_
        refine LV.step (VAL.pure rfl) rfl rfl rfl ?_
        exact LV.atSeam (y0, y3, y4, y5, x39_13, T6, n6) hS h24 ⟨rfl, rfl, rfl, rfl, rfl, trivial⟩
       ·
        clear h17 h18 h19 h20
        subst e
        refine LV.skip rfl rfl rfl ?_
        refine LV.skip rfl rfl rfl ?_
        refine LV.skip rfl rfl rfl ?_
        refine LV.step (VAL.pure rfl) rfl rfl rfl ?_
        exact LV.atSeam (y0, y3, y4, y5, (.lit (.bool false)), T3, n3) hS h23 ⟨rfl, rfl, rfl, rfl, rfl, trivial⟩
      ·
       rintro ⟨y0, y3, y4, y5, y40, T5, n5⟩ ρ its hQ h21
       have hS : EY.ST w0 base envE ρ0 ρ T5 ro n5 its := hQ
       clear hQ
       change LV _ _ _ _ _ _ _ _ _ [(0, y0), (3, y3), (4, y4), (5, y5), (40, y40)] _
       have h22 : g65_k3 ro y0 y3 y4 y5 y40 T5 n5 = .ok r T' n' := h21
       unfold g65_k3 at h22
       clear h17 h18 h19 h20 h21
       refine LV.step (VAL.assign rfl) rfl rfl rfl ?_
       refine LV.done ?_
       refine PV.sub [(0, y0), (3, y3), (4, y40), (5, y5)] ⟨rfl, rfl, rfl, rfl, trivial⟩ ?_
       refine PV.thenN ?_
       refine CV.ret ?_
       refine PV.blockR ?_
       refine PV.thenR ?_
       cases h22
       exact PV.ret (by simp) Tryd.results65 hS (RS.tmp rfl RS.nil) rfl
     ·
      clear h14 h16
      subst e
      refine CV.seam (E := envE) (ro := ro) (ρ0 := ρ0) (τ := AV × AV × AV × AV × AV × AV × HT × Nat) (fun t => [(0, t.1), (3, t.2.1), (4, t.2.2.1), (5, t.2.2.2.1), (9, t.2.2.2.2.1), (41, t.2.2.2.2.2.1)]) (fun t => t.2.2.2.2.2.2.1) (fun t => t.2.2.2.2.2.2.2) (fun t => g65_k4 ro  t.1 t.2.1 t.2.2.1 t.2.2.2.1 t.2.2.2.2.1 t.2.2.2.2.2.1 t.2.2.2.2.2.2.1 t.2.2.2.2.2.2.2 = .ok r T' n') ?_ ?_
      ·
       refine CV.seq ?_
       refine CV.region ?_
       refine LV.by (V.eq h17 rfl rfl) rfl rfl rfl fun x42_63 h118 => ?_
       refine LV.step (VAL.assign rfl) rfl rfl rfl ?_
       refine LV.done ?_
       refine PV.sub [(0, y0), (3, y3), (4, y4), (5, y5), (9, y9), (41, x42_63)] ⟨rfl, rfl, rfl, rfl, rfl, rfl, trivial⟩ ?_
       refine PV.thenN ?_
       refine CV.cond h118 rfl (fun e h119 => ?_) (fun e h119 => ?_)
       ·
        clear h17 h118
        subst e
        refine CV.skip ?_
        exact PV.atSeam (y0, y3, y4, y5, y9, (.lit (.bool true)), T3, n3) hS h119 ⟨rfl, rfl, rfl, rfl, rfl, rfl, trivial⟩
       ·
        clear h17 h118
        subst e
        refine CV.seq ?_
        refine CV.region ?_
        refine LV.by (V.eq h119 rfl rfl) rfl rfl rfl fun x43_64 h120 => ?_
        refine LV.step (VAL.assign rfl) rfl rfl rfl ?_
        refine LV.done ?_
        refine PV.sub [(0, y0), (3, y3), (4, y4), (5, y5), (9, y9), (41, x43_64)] ⟨rfl, rfl, rfl, rfl, rfl, rfl, trivial⟩ ?_
        refine PV.thenN ?_
        refine CV.cond h120 rfl (fun e h121 => ?_) (fun e h121 => ?_)
        ·
         clear h119 h120
         subst e
         refine CV.skip ?_
         exact PV.atSeam (y0, y3, y4, y5, y9, (.lit (.bool true)), T3, n3) hS h121 ⟨rfl, rfl, rfl, rfl, rfl, rfl, trivial⟩
        ·
         clear h119 h120
         subst e
         refine CV.seq ?_
         refine CV.region ?_
         refine LV.by (V.eq h121 rfl rfl) rfl rfl rfl fun x44_65 h122 => ?_
         refine LV.step (VAL.assign rfl) rfl rfl rfl ?_
         refine LV.done ?_
         refine PV.sub [(0, y0), (3, y3), (4, y4), (5, y5), (9, y9), (41, x44_65)] ⟨rfl, rfl, rfl, rfl, rfl, rfl, trivial⟩ ?_
         refine PV.thenN ?_
         refine CV.cond h122 rfl (fun e h123 => ?_) (fun e h123 => ?_)
         ·
          clear h121 h122
          subst e
          refine CV.skip ?_
          exact PV.atSeam (y0, y3, y4, y5, y9, (.lit (.bool true)), T3, n3) hS h123 ⟨rfl, rfl, rfl, rfl, rfl, rfl, trivial⟩
         ·
          clear h121 h122
          subst e
          refine CV.seq ?_
          refine CV.region ?_
          refine LV.by (V.eq h123 rfl rfl) rfl rfl rfl fun x45_66 h124 => ?_
          refine LV.step (VAL.assign rfl) rfl rfl rfl ?_
          refine LV.done ?_
          refine PV.sub [(0, y0), (3, y3), (4, y4), (5, y5), (9, y9), (41, x45_66)] ⟨rfl, rfl, rfl, rfl, rfl, rfl, trivial⟩ ?_
          refine PV.thenN ?_
          refine CV.cond h124 rfl (fun e h125 => ?_) (fun e h125 => ?_)
          ·
           clear h123 h124
           subst e
           refine CV.skip ?_
           exact PV.atSeam (y0, y3, y4, y5, y9, (.lit (.bool true)), T3, n3) hS h125 ⟨rfl, rfl, rfl, rfl, rfl, rfl, trivial⟩
          ·
           clear h123 h124
           subst e
           refine CV.region ?_
           refine LV.by (V.eq h125 rfl rfl) rfl rfl rfl fun x46_67 h126 => ?_
           refine LV.step (VAL.assign rfl) rfl rfl rfl ?_
           refine LV.done ?_
           refine PV.sub [(0, y0), (3, y3), (4, y4), (5, y5), (9, y9), (41, x46_67)] ⟨rfl, rfl, rfl, rfl, rfl, rfl, trivial⟩ ?_
           exact PV.atSeam (y0, y3, y4, y5, y9, x46_67, T3, n3) hS h126 ⟨rfl, rfl, rfl, rfl, rfl, rfl, trivial⟩
      ·
       rintro ⟨y0, y3, y4, y5, y9, y41, T7, n7⟩ ρ its hQ h25
       have hS : EY.ST w0 base envE ρ0 ρ T7 ro n7 its := hQ
       clear hQ
       change CV _ _ _ _ _ _ _ _ [(0, y0), (3, y3), (4, y4), (5, y5), (9, y9), (41, y41)] _
       have h26 : g65_k4 ro y0 y3 y4 y5 y9 y41 T7 n7 = .ok r T' n' := h25
       unfold g65_k4 at h26
       clear h17 h25
       refine CV.cond h26 rfl (fun e h27 => ?_) (fun e h27 => ?_)
       ·
        clear h26
        subst e
        refine CV.seq ?_
        refine CV.region ?_
        refine LV.step (VAL.move rfl) rfl rfl rfl ?_
        refine LV.step (VAL.move rfl) rfl rfl rfl ?_
        refine LV.call hS h27 (g81_ok _ _ _ _ _ _ _ ) hP rfl rfl rfl rfl fun x49_14 T8 n8 h28 ρ its hS => ?_
        refine LV.step (VAL.assign rfl) rfl rfl rfl ?_
        refine LV.done ?_
        refine PV.sub [(0, y0), (3, y3), (4, x49_14), (5, y5)] ⟨rfl, rfl, rfl, rfl, trivial⟩ ?_
        refine PV.thenN ?_
        refine CV.ret ?_
        refine PV.blockR ?_
        refine PV.thenR ?_
        cases h28
        exact PV.ret (by simp) Tryd.results65 hS (RS.tmp rfl RS.nil) rfl
       ·
        clear h26
        subst e
        refine CV.seq ?_
        refine CV.region ?_
        refine LV.by (V.eq h27 rfl rfl) rfl rfl rfl fun x51_15 h29 => ?_
        refine LV.step (VAL.assign rfl) rfl rfl rfl ?_
        refine LV.done ?_
        refine PV.sub [(0, y0), (3, y3), (4, y4), (5, y5), (9, y9), (50, x51_15)] ⟨rfl, rfl, rfl, rfl, rfl, rfl, trivial⟩ ?_
        refine PV.thenN ?_
        refine CV.cond h29 rfl (fun e h30 => ?_) (fun e h30 => ?_)
        ·
         clear h27 h29
         subst e
         refine CV.seq ?_
         refine CV.region ?_
         refine LV.step (VAL.move rfl) rfl rfl rfl ?_
         refine LV.step (VAL.move rfl) rfl rfl rfl ?_
         refine LV.call hS h30 (g81_ok _ _ _ _ _ _ _ ) hP rfl rfl rfl rfl fun x54_16 T9 n9 h31 ρ its hS => ?_
         refine LV.step (VAL.assign rfl) rfl rfl rfl ?_
         refine LV.done ?_
         refine PV.sub [(0, y0), (3, y3), (4, x54_16), (5, y5)] ⟨rfl, rfl, rfl, rfl, trivial⟩ ?_
         refine PV.thenN ?_
         refine CV.ret ?_
         refine PV.blockR ?_
         refine PV.thenR ?_
         cases h31
         exact PV.ret (by simp) Tryd.results65 hS (RS.tmp rfl RS.nil) rfl
        ·
         clear h27 h29
         subst e
         refine CV.seam (E := envE) (ro := ro) (ρ0 := ρ0) (τ := AV × AV × AV × AV × AV × AV × HT × Nat) (fun t => [(0, t.1), (3, t.2.1), (4, t.2.2.1), (5, t.2.2.2.1), (9, t.2.2.2.2.1), (55, t.2.2.2.2.2.1)]) (fun t => t.2.2.2.2.2.2.1) (fun t => t.2.2.2.2.2.2.2) (fun t => g65_k5 ro  t.1 t.2.1 t.2.2.1 t.2.2.2.1 t.2.2.2.2.1 t.2.2.2.2.2.1 t.2.2.2.2.2.2.1 t.2.2.2.2.2.2.2 = .ok r T' n') ?_ ?_
         ·
          refine CV.seq ?_
          refine CV.region ?_
          refine LV.by (V.eq h30 rfl rfl) rfl rfl rfl fun x56_61 h115 => ?_
          refine LV.step (VAL.assign rfl) rfl rfl rfl ?_
          refine LV.done ?_
          refine PV.sub [(0, y0), (3, y3), (4, y4), (5, y5), (9, y9), (55, x56_61)] ⟨rfl, rfl, rfl, rfl, rfl, rfl, trivial⟩ ?_
          refine PV.thenN ?_
          refine CV.cond h115 rfl (fun e h116 => ?_) (fun e h116 => ?_)
          ·
           clear h30 h115
           subst e
           refine CV.skip ?_
           exact PV.atSeam (y0, y3, y4, y5, y9, (.lit (.bool true)), T7, n7) hS h116 ⟨rfl, rfl, rfl, rfl, rfl, rfl, trivial⟩
          ·
           clear h30 h115
           subst e
           refine CV.region ?_
           refine LV.by (V.eq h116 rfl rfl) rfl rfl rfl fun x57_62 h117 => ?_
           refine LV.step (VAL.assign rfl) rfl rfl rfl ?_
           refine LV.done ?_
           refine PV.sub [(0, y0), (3, y3), (4, y4), (5, y5), (9, y9), (55, x57_62)] ⟨rfl, rfl, rfl, rfl, rfl, rfl, trivial⟩ ?_
           exact PV.atSeam (y0, y3, y4, y5, y9, x57_62, T7, n7) hS h117 ⟨rfl, rfl, rfl, rfl, rfl, rfl, trivial⟩
         ·
          rintro ⟨y0, y3, y4, y5, y9, y55, T10, n10⟩ ρ its hQ h32
          have hS : EY.ST w0 base envE ρ0 ρ T10 ro n10 its := hQ
          clear hQ
          change CV _ _ _ _ _ _ _ _ [(0, y0), (3, y3), (4, y4), (5, y5), (9, y9), (55, y55)] _
          have h33 : g65_k5 ro y0 y3 y4 y5 y9 y55 T10 n10 = .ok r T' n' := h32
          unfold g65_k5 at h33
          clear h30 h32
          refine CV.cond h33 rfl (fun e h34 => ?_) (fun e h34 => ?_)
          ·
           clear h33
           subst e
           refine CV.seq ?_
           refine CV.region ?_
           refine LV.step (VAL.move rfl) rfl rfl rfl ?_
           refine LV.step (VAL.move rfl) rfl rfl rfl ?_
           refine LV.call hS h34 (g81_ok _ _ _ _ _ _ _ ) hP rfl rfl rfl rfl fun x60_17 T11 n11 h35 ρ its hS => ?_
           refine LV.step (VAL.assign rfl) rfl rfl rfl ?_
           refine LV.done ?_
           refine PV.sub [(0, y0), (3, y3), (4, x60_17), (5, y5)] ⟨rfl, rfl, rfl, rfl, trivial⟩ ?_
           refine PV.thenN ?_
           refine CV.ret ?_
           refine PV.blockR ?_
           refine PV.thenR ?_
           cases h35
           exact PV.ret (by simp) Tryd.results65 hS (RS.tmp rfl RS.nil) rfl
          ·
           clear h33
           subst e
           refine CV.seq ?_
           refine CV.region ?_
           refine LV.by (V.eq h34 rfl rfl) rfl rfl rfl fun x62_18 h36 => ?_
           refine LV.step (VAL.assign rfl) rfl rfl rfl ?_
           refine LV.done ?_
           refine PV.sub [(0, y0), (3, y3), (4, y4), (5, y5), (9, y9), (61, x62_18)] ⟨rfl, rfl, rfl, rfl, rfl, rfl, trivial⟩ ?_
           refine PV.thenN ?_
           refine CV.cond h36 rfl (fun e h37 => ?_) (fun e h37 => ?_)
           ·
            clear h34 h36
            subst e
            refine CV.seq ?_
            refine CV.region ?_
            refine LV.step (VAL.move rfl) rfl rfl rfl ?_
            refine LV.by (V.lenS h37 rfl Trf.ls25) rfl rfl rfl fun x64_19 h38 => ?_
            refine LV.by (V.gt h38 rfl rfl) rfl rfl rfl fun x65_20 h39 => ?_
            refine LV.step (VAL.move rfl) rfl rfl rfl ?_
            refine LV.seam (E := envE) (ro := ro) (ρ0 := ρ0) (τ := AV × AV × AV × AV × AV × HT × Nat) (fun t => [(0, t.1), (3, t.2.1), (4, t.2.2.1), (5, t.2.2.2.1), (70, t.2.2.2.2.1)]) (fun t => t.2.2.2.2.2.1) (fun t => t.2.2.2.2.2.2) (fun t => g65_k6 ro  t.1 t.2.1 t.2.2.1 t.2.2.2.1 t.2.2.2.2.1 t.2.2.2.2.2.1 t.2.2.2.2.2.2 = .ok r T' n') 4 ?_ ?_
            ·
             rcases condK_inv h39 with ⟨e, h42⟩ | ⟨e, h42⟩
             ·
              clear h37 h38 h39
              subst e
              refine LV.step (VAL.move rfl) rfl rfl rfl ?_
              refine LV.step (VAL.move rfl) rfl rfl rfl ?_
              refine LV.call hS h42 (g82_ok _ _ _ _ _ ) hP rfl rfl rfl rfl fun x69_21 T13 n13 h43 ρ its hS => ?_
              refine LV.step (VAL.pure rfl) rfl rfl rfl ?_
              exact LV.atSeam (y0, y3, y4, y5, x69_21, T13, n13) hS h43 ⟨rfl, rfl, rfl, rfl, rfl, trivial⟩
             ·
              clear h37 h38 h39
              subst e
              refine LV.skip rfl rfl rfl ?_
              refine LV.skip rfl rfl rfl ?_
              refine LV.skip rfl rfl rfl ?_
              refine LV.step (VAL.pure rfl) rfl rfl rfl ?_
              exact LV.atSeam (y0, y3, y4, y5, (.lit (.bool false)), T10, n10) hS h42 ⟨rfl, rfl, rfl, rfl, rfl, trivial⟩
            ·
             rintro ⟨y0, y3, y4, y5, y70, T12, n12⟩ ρ its hQ h40
             have hS : EY.ST w0 base envE ρ0 ρ T12 ro n12 its := hQ
             clear hQ
             change LV _ _ _ _ _ _ _ _ _ [(0, y0), (3, y3), (4, y4), (5, y5), (70, y70)] _
             have h41 : g65_k6 ro y0 y3 y4 y5 y70 T12 n12 = .ok r T' n' := h40
             unfold g65_k6 at h41
             clear h37 h38 h39 h40
             refine LV.step (VAL.assign rfl) rfl rfl rfl ?_
             refine LV.done ?_
             refine PV.sub [(0, y0), (3, y3), (4, y70), (5, y5)] ⟨rfl, rfl, rfl, rfl, trivial⟩ ?_
             refine PV.thenN ?_
             refine CV.ret ?_
             refine PV.blockR ?_
             refine PV.thenR ?_
             cases h41
             exact PV.ret (by simp) Tryd.results65 hS (RS.tmp rfl RS.nil) rfl
           ·
            clear h34 h36
            subst e
            refine CV.seq ?_
            refine CV.region ?_
            refine LV.by (V.eq h37 rfl rfl) rfl rfl rfl fun x72_22 h44 => ?_
            refine LV.step (VAL.assign rfl) rfl rfl rfl ?_
            refine LV.done ?_
            refine PV.sub [(0, y0), (3, y3), (4, y4), (5, y5), (9, y9), (71, x72_22)] ⟨rfl, rfl, rfl, rfl, rfl, rfl, trivial⟩ ?_
            refine PV.thenN ?_
            refine CV.cond h44 rfl (fun e h45 => ?_) (fun e h45 => ?_)
            ·
             clear h37 h44
             subst e
             refine CV.seq ?_
             refine CV.region ?_
             refine LV.step (VAL.move rfl) rfl rfl rfl ?_
             refine LV.by (V.lenS h45 rfl Trf.ls25) rfl rfl rfl fun x74_23 h46 => ?_
             refine LV.by (V.eq h46 rfl rfl) rfl rfl rfl fun x75_24 h47 => ?_
             refine LV.step (VAL.move rfl) rfl rfl rfl ?_
             refine LV.seam (E := envE) (ro := ro) (ρ0 := ρ0) (τ := AV × AV × AV × AV × AV × HT × Nat) (fun t => [(0, t.1), (3, t.2.1), (4, t.2.2.1), (5, t.2.2.2.1), (81, t.2.2.2.2.1)]) (fun t => t.2.2.2.2.2.1) (fun t => t.2.2.2.2.2.2) (fun t => g65_k7 ro  t.1 t.2.1 t.2.2.1 t.2.2.2.1 t.2.2.2.2.1 t.2.2.2.2.2.1 t.2.2.2.2.2.2 = .ok r T' n') 5 ?_ ?_
             ·
              rcases condK_inv h47 with ⟨e, h55⟩ | ⟨e, h55⟩
              ·
               clear h45 h46 h47
               subst e
               refine LV.step (VAL.move rfl) rfl rfl rfl ?_
               refine LV.step (VAL.move rfl) rfl rfl rfl ?_
               refine LV.by (V.cutHi hS h55 rfl rfl Trf.el25) rfl rfl rfl fun x79_27 h56 => ?_
               refine LV.call hS h56 (g81_ok _ _ _ _ _ _ _ ) hP rfl rfl rfl rfl fun x80_28 T17 n17 h57 ρ its hS => ?_
               refine LV.step (VAL.pure rfl) rfl rfl rfl ?_
               exact LV.atSeam (y0, y3, y4, y5, x80_28, T17, n17) hS h57 ⟨rfl, rfl, rfl, rfl, rfl, trivial⟩
              ·
               clear h45 h46 h47
               subst e
               refine LV.skip rfl rfl rfl ?_
               refine LV.skip rfl rfl rfl ?_
               refine LV.skip rfl rfl rfl ?_
               refine LV.skip rfl rfl rfl ?_
               refine LV.step (VAL.pure rfl) rfl rfl rfl ?_
               exact LV.atSeam (y0, y3, y4, y5, (.lit (.bool false)), T10, n10) hS h55 ⟨rfl, rfl, rfl, rfl, rfl, trivial⟩
             ·
              rintro ⟨y0, y3, y4, y5, y81, T14, n14⟩ ρ its hQ h48
              have hS : EY.ST w0 base envE ρ0 ρ T14 ro n14 its := hQ
              clear hQ
              change LV _ _ _ _ _ _ _ _ _ [(0, y0), (3, y3), (4, y4), (5, y5), (81, y81)] _
              have h49 : g65_k7 ro y0 y3 y4 y5 y81 T14 n14 = .ok r T' n' := h48
              unfold g65_k7 at h49
              clear h45 h46 h47 h48
              refine LV.step (VAL.move rfl) rfl rfl rfl ?_
              refine LV.seam (E := envE) (ro := ro) (ρ0 := ρ0) (τ := AV × AV × AV × AV × AV × HT × Nat) (fun t => [(0, t.1), (3, t.2.1), (4, t.2.2.1), (5, t.2.2.2.1), (87, t.2.2.2.2.1)]) (fun t => t.2.2.2.2.2.1) (fun t => t.2.2.2.2.2.2) (fun t => g65_k8 ro  t.1 t.2.1 t.2.2.1 t.2.2.2.1 t.2.2.2.2.1 t.2.2.2.2.2.1 t.2.2.2.2.2.2 = .ok r T' n') 5 ?_ ?_
              ·
               rcases condK_inv h49 with ⟨e, h52⟩ | ⟨e, h52⟩
               ·
                clear h49
                subst e
                refine LV.step (VAL.move rfl) rfl rfl rfl ?_
                refine LV.step (VAL.move rfl) rfl rfl rfl ?_
                refine LV.cutLoF hS h52 rfl rfl rfl Trf.el25 rfl rfl rfl fun x85_25 h53 => ?_
                refine LV.call hS h53 (g83_ok _ _ _ _ _ _ ) hP rfl rfl rfl rfl fun x86_26 T16 n16 h54 ρ its hS => ?_
                refine LV.step (VAL.pure rfl) rfl rfl rfl ?_
                exact LV.atSeam (y0, y3, y4, y5, x86_26, T16, n16) hS h54 ⟨rfl, rfl, rfl, rfl, rfl, trivial⟩
               ·
                clear h49
                subst e
                refine LV.skip rfl rfl rfl ?_
                refine LV.skip rfl rfl rfl ?_
                refine LV.skip rfl rfl rfl ?_
                refine LV.skip rfl rfl rfl ?_
                refine LV.step (VAL.pure rfl) rfl rfl rfl ?_
                exact LV.atSeam (y0, y3, y4, y5, (.lit (.bool false)), T14, n14) hS h52 ⟨rfl, rfl, rfl, rfl, rfl, trivial⟩
              ·
               rintro ⟨y0, y3, y4, y5, y87, T15, n15⟩ ρ its hQ h50
               have hS : EY.ST w0 base envE ρ0 ρ T15 ro n15 its := hQ
               clear hQ
               change LV _ _ _ _ _ _ _ _ _ [(0, y0), (3, y3), (4, y4), (5, y5), (87, y87)] _
               have h51 : g65_k8 ro y0 y3 y4 y5 y87 T15 n15 = .ok r T' n' := h50
               unfold g65_k8 at h51
               clear h49 h50
               refine LV.step (VAL.assign rfl) rfl rfl rfl ?_
               refine LV.done ?_
               refine PV.sub [(0, y0), (3, y3), (4, y87), (5, y5)] ⟨rfl, rfl, rfl, rfl, trivial⟩ ?_
               refine PV.thenN ?_
               refine CV.ret ?_
               refine PV.blockR ?_
               refine PV.thenR ?_
               cases h51
               exact PV.ret (by simp) Tryd.results65 hS (RS.tmp rfl RS.nil) rfl
            ·
             clear h37 h44
             subst e
             refine CV.seq ?_
             refine CV.region ?_
             refine LV.by (V.eq h45 rfl rfl) rfl rfl rfl fun x89_29 h58 => ?_
             refine LV.step (VAL.assign rfl) rfl rfl rfl ?_
             refine LV.done ?_
             refine PV.sub [(0, y0), (3, y3), (4, y4), (5, y5), (9, y9), (88, x89_29)] ⟨rfl, rfl, rfl, rfl, rfl, rfl, trivial⟩ ?_
             refine PV.thenN ?_
             refine CV.cond h58 rfl (fun e h59 => ?_) (fun e h59 => ?_)
             ·
              clear h45 h58
              subst e
              refine CV.seq ?_
              refine CV.region ?_
              refine LV.step (VAL.move rfl) rfl rfl rfl ?_
              refine LV.by (V.lenS h59 rfl Trf.ls25) rfl rfl rfl fun x91_30 h60 => ?_
              refine LV.by (V.eq h60 rfl rfl) rfl rfl rfl fun x92_31 h61 => ?_
              refine LV.step (VAL.move rfl) rfl rfl rfl ?_
              refine LV.seam (E := envE) (ro := ro) (ρ0 := ρ0) (τ := AV × AV × AV × AV × AV × HT × Nat) (fun t => [(0, t.1), (3, t.2.1), (4, t.2.2.1), (5, t.2.2.2.1), (97, t.2.2.2.2.1)]) (fun t => t.2.2.2.2.2.1) (fun t => t.2.2.2.2.2.2) (fun t => g65_k9 ro  t.1 t.2.1 t.2.2.1 t.2.2.2.1 t.2.2.2.2.1 t.2.2.2.2.2.1 t.2.2.2.2.2.2 = .ok r T' n') 4 ?_ ?_
              ·
               rcases condK_inv h61 with ⟨e, h74⟩ | ⟨e, h74⟩
               ·
                clear h59 h60 h61
                subst e
                refine LV.skip rfl rfl rfl ?_
                refine LV.skip rfl rfl rfl ?_
                refine LV.skip rfl rfl rfl ?_
                refine LV.step (VAL.pure rfl) rfl rfl rfl ?_
                exact LV.atSeam (y0, y3, y4, y5, (.lit (.bool true)), T10, n10) hS h74 ⟨rfl, rfl, rfl, rfl, rfl, trivial⟩
               ·
                clear h59 h60 h61
                subst e
                refine LV.step (VAL.move rfl) rfl rfl rfl ?_
                refine LV.by (V.lenS h74 rfl Trf.ls25) rfl rfl rfl fun x95_36 h75 => ?_
                refine LV.by (V.eq h75 rfl rfl) rfl rfl rfl fun x96_37 h76 => ?_
                refine LV.step (VAL.pure rfl) rfl rfl rfl ?_
                exact LV.atSeam (y0, y3, y4, y5, x96_37, T10, n10) hS h76 ⟨rfl, rfl, rfl, rfl, rfl, trivial⟩
              ·
               rintro ⟨y0, y3, y4, y5, y97, T18, n18⟩ ρ its hQ h62
               have hS : EY.ST w0 base envE ρ0 ρ T18 ro n18 its := hQ
               clear hQ
               change LV _ _ _ _ _ _ _ _ _ [(0, y0), (3, y3), (4, y4), (5, y5), (97, y97)] _
               have h63 : g65_k9 ro y0 y3 y4 y5 y97 T18 n18 = .ok r T' n' := h62
               unfold g65_k9 at h63
               clear h59 h60 h61 h62
               refine LV.step (VAL.move rfl) rfl rfl rfl ?_
               refine LV.seam (E := envE) (ro := ro) (ρ0 := ρ0) (τ := AV × AV × AV × AV × AV × HT × Nat) (fun t => [(0, t.1), (3, t.2.1), (4, t.2.2.1), (5, t.2.2.2.1), (104, t.2.2.2.2.1)]) (fun t => t.2.2.2.2.2.1) (fun t => t.2.2.2.2.2.2) (fun t => g65_k10 ro  t.1 t.2.1 t.2.2.1 t.2.2.2.1 t.2.2.2.2.1 t.2.2.2.2.2.1 t.2.2.2.2.2.2 = .ok r T' n') 6 ?_ ?_
               ·
                rcases condK_inv h63 with ⟨e, h70⟩ | ⟨e, h70⟩
                ·
                 clear h63
                 subst e
                 refine LV.step (VAL.move rfl) rfl rfl rfl ?_
                 refine LV.step (VAL.move rfl) rfl rfl rfl ?_
                 refine LV.by (V.ia h70 rfl rfl Trf.el25) rfl rfl rfl fun x101_33 h71 => ?_
                 refine LV.by (V.ld hS h71 rfl Trf.one3) rfl rfl rfl fun x102_34 h72 => ?_
                 refine LV.call hS h72 (scc1_ok _ _ _ _ _ _) hP rfl rfl rfl rfl fun x103_35 T22 n22 h73 ρ its hS => ?_
                 refine LV.step (VAL.pure rfl) rfl rfl rfl ?_
                 exact LV.atSeam (y0, y3, y4, y5, x103_35, T22, n22) hS h73 ⟨rfl, rfl, rfl, rfl, rfl, trivial⟩
                ·
                 clear h63
                 subst e
                 refine LV.skip rfl rfl rfl ?_
                 refine LV.skip rfl rfl rfl ?_
                 refine LV.skip rfl rfl rfl ?_
                 refine LV.skip rfl rfl rfl ?_
                 refine LV.skip rfl rfl rfl ?_
                 refine LV.step (VAL.pure rfl) rfl rfl rfl ?_
                 exact LV.atSeam (y0, y3, y4, y5, (.lit (.bool false)), T18, n18) hS h70 ⟨rfl, rfl, rfl, rfl, rfl, trivial⟩
               ·
                rintro ⟨y0, y3, y4, y5, y104, T19, n19⟩ ρ its hQ h64
                have hS : EY.ST w0 base envE ρ0 ρ T19 ro n19 its := hQ
                clear hQ
                change LV _ _ _ _ _ _ _ _ _ [(0, y0), (3, y3), (4, y4), (5, y5), (104, y104)] _
                have h65 : g65_k10 ro y0 y3 y4 y5 y104 T19 n19 = .ok r T' n' := h64
                unfold g65_k10 at h65
                clear h63 h64
                refine LV.step (VAL.move rfl) rfl rfl rfl ?_
                refine LV.seam (E := envE) (ro := ro) (ρ0 := ρ0) (τ := AV × AV × AV × AV × AV × HT × Nat) (fun t => [(0, t.1), (3, t.2.1), (4, t.2.2.1), (5, t.2.2.2.1), (109, t.2.2.2.2.1)]) (fun t => t.2.2.2.2.2.1) (fun t => t.2.2.2.2.2.2) (fun t => g65_k11 ro  t.1 t.2.1 t.2.2.1 t.2.2.2.1 t.2.2.2.2.1 t.2.2.2.2.2.1 t.2.2.2.2.2.2 = .ok r T' n') 4 ?_ ?_
                ·
                 rcases condK_inv h65 with ⟨e, h68⟩ | ⟨e, h68⟩
                 ·
                  clear h65
                  subst e
                  refine LV.step (VAL.move rfl) rfl rfl rfl ?_
                  refine LV.step (VAL.move rfl) rfl rfl rfl ?_
                  refine LV.call hS h68 (g81_ok _ _ _ _ _ _ _ ) hP rfl rfl rfl rfl fun x108_32 T21 n21 h69 ρ its hS => ?_
                  refine LV.step (VAL.pure rfl) rfl rfl rfl ?_
                  exact LV.atSeam (y0, y3, y4, y5, x108_32, T21, n21) hS h69 ⟨rfl, rfl, rfl, rfl, rfl, trivial⟩
                 ·
                  clear h65
                  subst e
                  refine LV.skip rfl rfl rfl ?_
                  refine LV.skip rfl rfl rfl ?_
                  refine LV.skip rfl rfl rfl ?_
                  refine LV.step (VAL.pure rfl) rfl rfl rfl ?_
                  exact LV.atSeam (y0, y3, y4, y5, (.lit (.bool false)), T19, n19) hS h68 ⟨rfl, rfl, rfl, rfl, rfl, trivial⟩
                ·
                 rintro ⟨y0, y3, y4, y5, y109, T20, n20⟩ ρ its hQ h66
                 have hS : EY.ST w0 base envE ρ0 ρ T20 ro n20 its := hQ
                 clear hQ
                 change LV _ _ _ _ _ _ _ _ _ [(0, y0), (3, y3), (4, y4), (5, y5), (109, y109)] _
                 have h67 : g65_k11 ro y0 y3 y4 y5 y109 T20 n20 = .ok r T' n' := h66
                 unfold g65_k11 at h67
                 clear h65 h66
                 refine LV.step (VAL.assign rfl) rfl rfl rfl ?_
                 refine LV.done ?_
                 refine PV.sub [(0, y0), (3, y3), (4, y109), (5, y5)] ⟨rfl, rfl, rfl, rfl, trivial⟩ ?_
                 refine PV.thenN ?_
                 refine CV.ret ?_
                 refine PV.blockR ?_
                 refine PV.thenR ?_
                 cases h67
                 exact PV.ret (by simp) Tryd.results65 hS (RS.tmp rfl RS.nil) rfl
             ·
              clear h45 h58
              subst e
              refine CV.seq ?_
              refine CV.region ?_
              refine LV.by (V.eq h59 rfl rfl) rfl rfl rfl fun x111_38 h77 => ?_
              refine LV.step (VAL.assign rfl) rfl rfl rfl ?_
              refine LV.done ?_
              refine PV.sub [(0, y0), (3, y3), (4, y4), (5, y5), (9, y9), (110, x111_38)] ⟨rfl, rfl, rfl, rfl, rfl, rfl, trivial⟩ ?_
              refine PV.thenN ?_
              refine CV.cond h77 rfl (fun e h78 => ?_) (fun e h78 => ?_)
              ·
               clear h59 h77
               subst e
               refine CV.seq ?_
               refine CV.region ?_
               refine LV.step (VAL.move rfl) rfl rfl rfl ?_
               refine LV.by (V.lenS h78 rfl Trf.ls25) rfl rfl rfl fun x113_39 h79 => ?_
               refine LV.by (V.gt h79 rfl rfl) rfl rfl rfl fun x114_40 h80 => ?_
               refine LV.step (VAL.move rfl) rfl rfl rfl ?_
               refine LV.seam (E := envE) (ro := ro) (ρ0 := ρ0) (τ := AV × AV × AV × AV × AV × HT × Nat) (fun t => [(0, t.1), (3, t.2.1), (4, t.2.2.1), (5, t.2.2.2.1), (121, t.2.2.2.2.1)]) (fun t => t.2.2.2.2.2.1) (fun t => t.2.2.2.2.2.2) (fun t => g65_k12 ro  t.1 t.2.1 t.2.2.1 t.2.2.2.1 t.2.2.2.2.1 t.2.2.2.2.2.1 t.2.2.2.2.2.2 = .ok r T' n') 6 ?_ ?_
               ·
                rcases condK_inv h80 with ⟨e, h83⟩ | ⟨e, h83⟩
                ·
                 clear h78 h79 h80
                 subst e
                 refine LV.step (VAL.move rfl) rfl rfl rfl ?_
                 refine LV.step (VAL.move rfl) rfl rfl rfl ?_
                 refine LV.step (VAL.move rfl) rfl rfl rfl ?_
                 refine LV.step (VAL.pure rfl) rfl rfl rfl ?_
                 refine LV.call hS h83 (g83_ok _ _ _ _ _ _ ) hP rfl rfl rfl rfl fun x120_41 T24 n24 h84 ρ its hS => ?_
                 refine LV.step (VAL.pure rfl) rfl rfl rfl ?_
                 exact LV.atSeam (y0, y3, y4, y5, x120_41, T24, n24) hS h84 ⟨rfl, rfl, rfl, rfl, rfl, trivial⟩
                ·
                 clear h78 h79 h80
                 subst e
                 refine LV.skip rfl rfl rfl ?_
                 refine LV.skip rfl rfl rfl ?_
                 refine LV.skip rfl rfl rfl ?_
                 refine LV.skip rfl rfl rfl ?_
                 refine LV.skip rfl rfl rfl ?_
                 refine LV.step (VAL.pure rfl) rfl rfl rfl ?_
                 exact LV.atSeam (y0, y3, y4, y5, (.lit (.bool false)), T10, n10) hS h83 ⟨rfl, rfl, rfl, rfl, rfl, trivial⟩
               ·
                rintro ⟨y0, y3, y4, y5, y121, T23, n23⟩ ρ its hQ h81
                have hS : EY.ST w0 base envE ρ0 ρ T23 ro n23 its := hQ
                clear hQ
                change LV _ _ _ _ _ _ _ _ _ [(0, y0), (3, y3), (4, y4), (5, y5), (121, y121)] _
                have h82 : g65_k12 ro y0 y3 y4 y5 y121 T23 n23 = .ok r T' n' := h81
                unfold g65_k12 at h82
                clear h78 h79 h80 h81
                refine LV.step (VAL.assign rfl) rfl rfl rfl ?_
                refine LV.done ?_
                refine PV.sub [(0, y0), (3, y3), (4, y121), (5, y5)] ⟨rfl, rfl, rfl, rfl, trivial⟩ ?_
                refine PV.thenN ?_
                refine CV.ret ?_
                refine PV.blockR ?_
                refine PV.thenR ?_
                cases h82
                exact PV.ret (by simp) Tryd.results65 hS (RS.tmp rfl RS.nil) rfl
              ·
               clear h59 h77
               subst e
               refine CV.seq ?_
               refine CV.region ?_
               refine LV.by (V.eq h78 rfl rfl) rfl rfl rfl fun x123_42 h85 => ?_
               refine LV.step (VAL.assign rfl) rfl rfl rfl ?_
               refine LV.done ?_
               refine PV.sub [(0, y0), (3, y3), (4, y4), (5, y5), (9, y9), (122, x123_42)] ⟨rfl, rfl, rfl, rfl, rfl, rfl, trivial⟩ ?_
               refine PV.thenN ?_
               refine CV.cond h85 rfl (fun e h86 => ?_) (fun e h86 => ?_)
               ·
                clear h78 h85
                subst e
                refine CV.seq ?_
                refine CV.region ?_
                refine LV.step (VAL.move rfl) rfl rfl rfl ?_
                refine LV.by (V.lenS h86 rfl Trf.ls25) rfl rfl rfl fun x125_43 h87 => ?_
                refine LV.by (V.gt h87 rfl rfl) rfl rfl rfl fun x126_44 h88 => ?_
                refine LV.step (VAL.move rfl) rfl rfl rfl ?_
                refine LV.seam (E := envE) (ro := ro) (ρ0 := ρ0) (τ := AV × AV × AV × AV × AV × HT × Nat) (fun t => [(0, t.1), (3, t.2.1), (4, t.2.2.1), (5, t.2.2.2.1), (135, t.2.2.2.2.1)]) (fun t => t.2.2.2.2.2.1) (fun t => t.2.2.2.2.2.2) (fun t => g65_k13 ro  t.1 t.2.1 t.2.2.1 t.2.2.2.1 t.2.2.2.2.1 t.2.2.2.2.2.1 t.2.2.2.2.2.2 = .ok r T' n') 8 ?_ ?_
                ·
                 rcases condK_inv h88 with ⟨e, h99⟩ | ⟨e, h99⟩
                 ·
                  clear h86 h87 h88
                  subst e
                  refine LV.step (VAL.move rfl) rfl rfl rfl ?_
                  refine LV.step (VAL.move rfl) rfl rfl rfl ?_
                  refine LV.step (VAL.move rfl) rfl rfl rfl ?_
                  refine LV.by (V.lenS h99 rfl Trf.ls25) rfl rfl rfl fun x131_50 h100 => ?_
                  refine LV.by (V.sub h100 rfl rfl) rfl rfl rfl fun x132_51 h101 => ?_
                  refine LV.by (V.cutHi hS h101 rfl rfl Trf.el25) rfl rfl rfl fun x133_52 h102 => ?_
                  refine LV.call hS h102 (g83_ok _ _ _ _ _ _ ) hP rfl rfl rfl rfl fun x134_53 T28 n28 h103 ρ its hS => ?_
                  refine LV.step (VAL.pure rfl) rfl rfl rfl ?_
                  exact LV.atSeam (y0, y3, y4, y5, x134_53, T28, n28) hS h103 ⟨rfl, rfl, rfl, rfl, rfl, trivial⟩
                 ·
                  clear h86 h87 h88
                  subst e
                  refine LV.skip rfl rfl rfl ?_
                  refine LV.skip rfl rfl rfl ?_
                  refine LV.skip rfl rfl rfl ?_
                  refine LV.skip rfl rfl rfl ?_
                  refine LV.skip rfl rfl rfl ?_
                  refine LV.skip rfl rfl rfl ?_
                  refine LV.skip rfl rfl rfl ?_
                  refine LV.step (VAL.pure rfl) rfl rfl rfl ?_
                  exact LV.atSeam (y0, y3, y4, y5, (.lit (.bool false)), T10, n10) hS h99 ⟨rfl, rfl, rfl, rfl, rfl, trivial⟩
                ·
                 rintro ⟨y0, y3, y4, y5, y135, T25, n25⟩ ρ its hQ h89
                 have hS : EY.ST w0 base envE ρ0 ρ T25 ro n25 its := hQ
                 clear hQ
                 change LV _ _ _ _ _ _ _ _ _ [(0, y0), (3, y3), (4, y4), (5, y5), (135, y135)] _
                 have h90 : g65_k13 ro y0 y3 y4 y5 y135 T25 n25 = .ok r T' n' := h89
                 unfold g65_k13 at h90
                 clear h86 h87 h88 h89
                 refine LV.step (VAL.move rfl) rfl rfl rfl ?_
                 refine LV.seam (E := envE) (ro := ro) (ρ0 := ρ0) (τ := AV × AV × AV × AV × AV × HT × Nat) (fun t => [(0, t.1), (3, t.2.1), (4, t.2.2.1), (5, t.2.2.2.1), (145, t.2.2.2.2.1)]) (fun t => t.2.2.2.2.2.1) (fun t => t.2.2.2.2.2.2) (fun t => g65_k14 ro  t.1 t.2.1 t.2.2.1 t.2.2.2.1 t.2.2.2.2.1 t.2.2.2.2.2.1 t.2.2.2.2.2.2 = .ok r T' n') 9 ?_ ?_
                 ·
                  rcases condK_inv h90 with ⟨e, h93⟩ | ⟨e, h93⟩
                  ·
                   clear h90
                   subst e
                   refine LV.step (VAL.move rfl) rfl rfl rfl ?_
                   refine LV.step (VAL.move rfl) rfl rfl rfl ?_
                   refine LV.step (VAL.move rfl) rfl rfl rfl ?_
                   refine LV.by (V.lenS h93 rfl Trf.ls25) rfl rfl rfl fun x140_45 h94 => ?_
                   refine LV.by (V.sub h94 rfl rfl) rfl rfl rfl fun x141_46 h95 => ?_
                   refine LV.by (V.ia h95 rfl rfl Trf.el25) rfl rfl rfl fun x142_47 h96 => ?_
                   refine LV.by (V.ld hS h96 rfl Trf.one3) rfl rfl rfl fun x143_48 h97 => ?_
                   refine LV.call hS h97 (g89_ok _ _ _ _ _ _ ) hP rfl rfl rfl rfl fun x144_49 T27 n27 h98 ρ its hS => ?_
                   refine LV.step (VAL.pure rfl) rfl rfl rfl ?_
                   exact LV.atSeam (y0, y3, y4, y5, x144_49, T27, n27) hS h98 ⟨rfl, rfl, rfl, rfl, rfl, trivial⟩
                  ·
                   clear h90
                   subst e
                   refine LV.skip rfl rfl rfl ?_
                   refine LV.skip rfl rfl rfl ?_
                   refine LV.skip rfl rfl rfl ?_
                   refine LV.skip rfl rfl rfl ?_
                   refine LV.skip rfl rfl rfl ?_
                   refine LV.skip rfl rfl rfl ?_
                   refine LV.skip rfl rfl rfl ?_
                   refine LV.skip rfl rfl rfl ?_
                   refine LV.step (VAL.pure rfl) rfl rfl rfl ?_
                   exact LV.atSeam (y0, y3, y4, y5, (.lit (.bool false)), T25, n25) hS h93 ⟨rfl, rfl, rfl, rfl, rfl, trivial⟩
                 ·
                  rintro ⟨y0, y3, y4, y5, y145, T26, n26⟩ ρ its hQ h91
                  have hS : EY.ST w0 base envE ρ0 ρ T26 ro n26 its := hQ
                  clear hQ
                  change LV _ _ _ _ _ _ _ _ _ [(0, y0), (3, y3), (4, y4), (5, y5), (145, y145)] _
                  have h92 : g65_k14 ro y0 y3 y4 y5 y145 T26 n26 = .ok r T' n' := h91
                  unfold g65_k14 at h92
                  clear h90 h91
                  refine LV.step (VAL.assign rfl) rfl rfl rfl ?_
                  refine LV.done ?_
                  refine PV.sub [(0, y0), (3, y3), (4, y145), (5, y5)] ⟨rfl, rfl, rfl, rfl, trivial⟩ ?_
                  refine PV.thenN ?_
                  refine CV.ret ?_
                  refine PV.blockR ?_
                  refine PV.thenR ?_
                  cases h92
                  exact PV.ret (by simp) Tryd.results65 hS (RS.tmp rfl RS.nil) rfl
               ·
                clear h78 h85
                subst e
                refine CV.seq ?_
                refine CV.region ?_
                refine LV.by (V.eq h86 rfl rfl) rfl rfl rfl fun x147_54 h104 => ?_
                refine LV.step (VAL.assign rfl) rfl rfl rfl ?_
                refine LV.done ?_
                refine PV.sub [(0, y0), (3, y3), (4, y4), (5, y5), (146, x147_54)] ⟨rfl, rfl, rfl, rfl, rfl, trivial⟩ ?_
                refine PV.thenN ?_
                refine CV.cond h104 rfl (fun e h105 => ?_) (fun e h105 => ?_)
                ·
                 clear h86 h104
                 subst e
                 refine CV.seq ?_
                 refine CV.region ?_
                 refine LV.step (VAL.move rfl) rfl rfl rfl ?_
                 refine LV.by (V.lenS h105 rfl Trf.ls25) rfl rfl rfl fun x149_55 h106 => ?_
                 refine LV.by (V.gt h106 rfl rfl) rfl rfl rfl fun x150_56 h107 => ?_
                 refine LV.step (VAL.move rfl) rfl rfl rfl ?_
                 refine LV.seam (E := envE) (ro := ro) (ρ0 := ρ0) (τ := AV × AV × AV × AV × AV × HT × Nat) (fun t => [(0, t.1), (3, t.2.1), (4, t.2.2.1), (5, t.2.2.2.1), (155, t.2.2.2.2.1)]) (fun t => t.2.2.2.2.2.1) (fun t => t.2.2.2.2.2.2) (fun t => g65_k15 ro  t.1 t.2.1 t.2.2.1 t.2.2.2.1 t.2.2.2.2.1 t.2.2.2.2.2.1 t.2.2.2.2.2.2 = .ok r T' n') 4 ?_ ?_
                 ·
                  rcases condK_inv h107 with ⟨e, h110⟩ | ⟨e, h110⟩
                  ·
                   clear h105 h106 h107
                   subst e
                   refine LV.step (VAL.move rfl) rfl rfl rfl ?_
                   refine LV.step (VAL.move rfl) rfl rfl rfl ?_
                   refine LV.call hS h110 (g83_ok _ _ _ _ _ _ ) hP rfl rfl rfl rfl fun x154_57 T30 n30 h111 ρ its hS => ?_
                   refine LV.step (VAL.pure rfl) rfl rfl rfl ?_
                   exact LV.atSeam (y0, y3, y4, y5, x154_57, T30, n30) hS h111 ⟨rfl, rfl, rfl, rfl, rfl, trivial⟩
                  ·
                   clear h105 h106 h107
                   subst e
                   refine LV.skip rfl rfl rfl ?_
                   refine LV.skip rfl rfl rfl ?_
                   refine LV.skip rfl rfl rfl ?_
                   refine LV.step (VAL.pure rfl) rfl rfl rfl ?_
                   exact LV.atSeam (y0, y3, y4, y5, (.lit (.bool false)), T10, n10) hS h110 ⟨rfl, rfl, rfl, rfl, rfl, trivial⟩
                 ·
                  rintro ⟨y0, y3, y4, y5, y155, T29, n29⟩ ρ its hQ h108
                  have hS : EY.ST w0 base envE ρ0 ρ T29 ro n29 its := hQ
                  clear hQ
                  change LV _ _ _ _ _ _ _ _ _ [(0, y0), (3, y3), (4, y4), (5, y5), (155, y155)] _
                  have h109 : g65_k15 ro y0 y3 y4 y5 y155 T29 n29 = .ok r T' n' := h108
                  unfold g65_k15 at h109
                  clear h105 h106 h107 h108
                  refine LV.step (VAL.assign rfl) rfl rfl rfl ?_
                  refine LV.done ?_
                  refine PV.sub [(0, y0), (3, y3), (4, y155), (5, y5)] ⟨rfl, rfl, rfl, rfl, trivial⟩ ?_
                  refine PV.thenN ?_
                  refine CV.ret ?_
                  refine PV.blockR ?_
                  refine PV.thenR ?_
                  cases h109
                  exact PV.ret (by simp) Tryd.results65 hS (RS.tmp rfl RS.nil) rfl
                ·
                 clear h86 h104
                 subst e
                 refine CV.skip ?_
                 refine PV.blockN ?_
                 refine PV.thenN ?_
                 refine CV.seq ?_
                 refine CV.region ?_
                 refine LV.step (VAL.move rfl) rfl rfl rfl ?_
                 refine LV.by (V.fa h105 rfl Trf.fo27_0) rfl rfl rfl fun x157_58 h112 => ?_
                 refine LV.by (V.ld hS h112 rfl Trf.one3) rfl rfl rfl fun x158_59 h113 => ?_
                 refine LV.step (VAL.move rfl) rfl rfl rfl ?_
                 refine LV.call hS h113 (g92_ok _ _ _ _ _ _ ) hP rfl rfl rfl rfl fun x160_60 T31 n31 h114 ρ its hS => ?_
                 refine LV.step (VAL.assign rfl) rfl rfl rfl ?_
                 refine LV.done ?_
                 refine PV.sub [(4, x160_60)] ⟨rfl, trivial⟩ ?_
                 refine PV.thenN ?_
                 refine CV.ret ?_
                 cases h114
                 exact PV.ret (by simp) Tryd.results65 hS (RS.tmp rfl RS.nil) rfl
noncomputable def g66_k2 (ro : List HT) (lp1 : AV → AV → AV → AV → HT → Nat → R) (y0 y2 y5 y6 y18 : AV) (T2 : HT) (n2 : Nat) : R :=
 condK 660014 y18
 (
  .ok (.val (.lit (.bool false))) T2 n2
 )
 (
  addK Tryd.prog 3 (.tmp 6) (.const (.int .i64 (.ofNat 1))) 660016 y6 (.lit (.int .i64 (.ofNat 1))) fun x19_5 =>
  lp1 y0 y2 y5 x19_5 T2 n2
 )
noncomputable def g66_k3 (ro : List HT) (y2 y35 : AV) (T3 : HT) (n3 : Nat) : R :=
 .ok (.val y35) T3 n3
noncomputable def g66_k5 (ro : List HT) (y2 y34 : AV) (T5 : HT) (n5 : Nat) : R :=
 g66_k3 ro y2 y34 T5 n5
noncomputable def g66_k4 (ro : List HT) (y0 y2 y29 : AV) (T4 : HT) (n4 : Nat) : R :=
 condK 660036 y29
 (
  lenTK 660038 y0 fun x32_10 =>
  leK Tryd.prog 3 (.tmp 32) (.const (.int .i64 (.ofNat 600))) 660039 x32_10 (.lit (.int .i64 (.ofNat 600))) fun x33_11 =>
  g66_k5 ro y2 x33_11 T4 n4
 )
 (
  g66_k5 ro y2 (.lit (.bool false)) T4 n4
 )
noncomputable def g66_b1 (ro : List HT) (lp1 : AV → AV → AV → AV → HT → Nat → R) (y0 y2 y5 y6 : AV) (T1 : HT) (n1 : Nat) : R :=
 ltK Tryd.prog 3 (.tmp 6) (.tmp 5) 660005 y6 y5 fun x7_2 =>
 condK 660006 x7_2
 (
  ixK 660011 y0 y6 fun x11_3 =>
  ltK Tryd.prog 5 (.tmp 11) (.const (.int .u8 (.ofNat 48))) 660012 x11_3 (.lit (.int .u8 (.ofNat 48))) fun x12_4 =>
  condK 660018 x12_4
  (
   g66_k2 ro lp1 y0 y2 y5 y6 (.lit (.bool true)) T1 n1
  )
  (
   ixK 660022 y0 y6 fun x16_6 =>
   gtK Tryd.prog 5 (.tmp 16) (.const (.int .u8 (.ofNat 57))) 660023 x16_6 (.lit (.int .u8 (.ofNat 57))) fun x17_7 =>
   g66_k2 ro lp1 y0 y2 y5 y6 x17_7 T1 n1
  )
 )
 (
  eqSK Tryd.prog 9 (.tmp 20) (.const (.string ⟨⟨[48]⟩⟩)) 660026 y0 (.lit (.string ⟨⟨[48]⟩⟩)) fun x21_8 =>
  condK 660029 x21_8
  (
   g66_k3 ro y2 (.lit (.bool true)) T1 n1
  )
  (
   neSK Tryd.prog 9 (.tmp 23) (.const (.string ⟨⟨[]⟩⟩)) 660032 y0 (.lit (.string ⟨⟨[]⟩⟩)) fun x24_9 =>
   condK 660042 x24_9
   (
    ixK 660044 y0 (.lit (.int .i64 (.ofNat 0))) fun x27_12 =>
    neK Tryd.prog 5 (.tmp 27) (.const (.int .u8 (.ofNat 48))) 660045 x27_12 (.lit (.int .u8 (.ofNat 48))) fun x28_13 =>
    g66_k4 ro y0 y2 x28_13 T1 n1
   )
   (
    g66_k4 ro y0 y2 (.lit (.bool false)) T1 n1
   )
  )
 )
noncomputable def g66_l1 (ro : List HT) (fuel : Nat) : AV → AV → AV → AV → HT → Nat → R :=
  Nat.rec (motive := fun _ => AV → AV → AV → AV → HT → Nat → R) (fun _ _ _ _ _ _ => .bad 660048) (fun _ lp => g66_b1 ro lp) fuel
noncomputable def g66 (ro : List HT) (a0 : AV) (T : HT) (nx : Nat) : R :=
 lenTK 660003 a0 fun x5_1 =>
 g66_l1 ro 100000 a0 (.lit (.bool false)) x5_1 (.lit (.int .i64 (.ofNat 0))) T nx
theorem g66_ok (ro : List HT) (a0 : AV) (T : HT) (nx : Nat) : GOk Tryd.prog envE 66 [a0] ro T nx (g66 ro a0 T nx) := by
 refine GOk.of_body Tryd.func66 rfl Tryd.ntmps66 (by kernel_rfl) rfl fun r T' n' h1 w0 base ρ0 its hS hP => ?_
 unfold g66 at h1
 refine CV.sub [(0, a0)] ⟨rfl, trivial⟩ ?_
 refine CV.seq ?_
 refine CV.region ?_
 refine LV.step (VAL.assign rfl) rfl rfl rfl ?_
 refine LV.done ?_
 refine PV.sub [(0, a0), (2, (.lit (.bool false)))] ⟨rfl, rfl, trivial⟩ ?_
 refine PV.thenN ?_
 refine CV.seq ?_
 refine CV.seq ?_
 refine CV.region ?_
 refine LV.step (VAL.move rfl) rfl rfl rfl ?_
 refine LV.by (V.lenT h1 rfl Trf.ls9) rfl rfl rfl fun x5_1 h2 => ?_
 refine LV.step (VAL.move rfl) rfl rfl rfl ?_
 refine LV.done ?_
 refine PV.sub [(0, a0), (2, (.lit (.bool false))), (5, x5_1), (6, (.lit (.int .i64 (.ofNat 0))))] ⟨rfl, rfl, rfl, rfl, trivial⟩ ?_
 refine PV.thenN ?_
 refine CV.block ?_
 refine CV.loop (E := envE) (ro := ro) (ρ0 := ρ0) (τ := AV × AV × AV × AV × HT × Nat) (fun t => [(0, t.1), (2, t.2.1), (5, t.2.2.1), (6, t.2.2.2.1)]) (fun t => t.2.2.2.2.1) (fun t => t.2.2.2.2.2) (fun f t => g66_l1 ro f t.1 t.2.1 t.2.2.1 t.2.2.2.1 t.2.2.2.2.1 t.2.2.2.2.2 = .ok r T' n') 100000 (a0, (.lit (.bool false)), x5_1, (.lit (.int .i64 (.ofNat 0))), T, nx) hS h2 ⟨rfl, rfl, rfl, rfl, trivial⟩ ?_
 rintro (_ | f1) ⟨y0, y2, y5, y6, T1, n1⟩ ρ its hQ h3
 · cases h3
 have hS : EY.ST w0 base envE ρ0 ρ T1 ro n1 its := hQ
 clear hQ
 change CV _ _ _ _ _ _ _ _ [(0, y0), (2, y2), (5, y5), (6, y6)] _
 have h4 : g66_b1 ro (g66_l1 ro f1) y0 y2 y5 y6 T1 n1 = .ok r T' n' := h3
 unfold g66_b1 at h4
 clear h1 h2 h3
 refine CV.seq ?_
 refine CV.region ?_
 refine LV.by (V.lt h4 rfl rfl) rfl rfl rfl fun x7_2 h5 => ?_
 refine LV.done ?_
 refine PV.sub [(0, y0), (2, y2), (5, y5), (6, y6), (7, x7_2)] ⟨rfl, rfl, rfl, rfl, rfl, trivial⟩ ?_
 refine PV.thenN ?_
 refine CV.seq ?_
 refine CV.cond h5 rfl (fun e h6 => ?_) (fun e h6 => ?_)
 ·
  clear h4 h5
  subst e
  refine CV.skip ?_
  refine PV.thenN ?_
  refine CV.seq ?_
  refine CV.block ?_
  refine CV.seq ?_
  refine CV.region ?_
  refine LV.step (VAL.move rfl) rfl rfl rfl ?_
  refine LV.step (VAL.assign rfl) rfl rfl rfl ?_
  refine LV.done ?_
  refine PV.sub [(0, y0), (2, y2), (3, y6), (5, y5), (6, y6)] ⟨rfl, rfl, rfl, rfl, rfl, trivial⟩ ?_
  refine PV.thenN ?_
  refine CV.seq ?_
  refine CV.region ?_
  refine LV.step (VAL.move rfl) rfl rfl rfl ?_
  refine LV.step (VAL.move rfl) rfl rfl rfl ?_
  refine LV.by (V.ix h6 rfl rfl Trf.st9) rfl rfl rfl fun x11_3 h7 => ?_
  refine LV.by (V.lt h7 rfl rfl) rfl rfl rfl fun x12_4 h8 => ?_
  refine LV.step (VAL.move rfl) rfl rfl rfl ?_
  refine LV.seam (E := envE) (ro := ro) (ρ0 := ρ0) (τ := AV × AV × AV × AV × AV × HT × Nat) (fun t => [(0, t.1), (2, t.2.1), (5, t.2.2.1), (6, t.2.2.2.1), (18, t.2.2.2.2.1)]) (fun t => t.2.2.2.2.2.1) (fun t => t.2.2.2.2.2.2) (fun t => g66_k2 ro (g66_l1 ro f1)  t.1 t.2.1 t.2.2.1 t.2.2.2.1 t.2.2.2.2.1 t.2.2.2.2.2.1 t.2.2.2.2.2.2 = .ok r T' n') 5 ?_ ?_
  ·
   rcases condK_inv h8 with ⟨e, h13⟩ | ⟨e, h13⟩
   ·
    clear h6 h7 h8
    subst e
    refine LV.skip rfl rfl rfl ?_
    refine LV.skip rfl rfl rfl ?_
    refine LV.skip rfl rfl rfl ?_
    refine LV.skip rfl rfl rfl ?_
    refine LV.step (VAL.pure rfl) rfl rfl rfl ?_
    exact LV.atSeam (y0, y2, y5, y6, (.lit (.bool true)), T1, n1) hS h13 ⟨rfl, rfl, rfl, rfl, rfl, trivial⟩
   ·
    clear h6 h7 h8
    subst e
    refine LV.step (VAL.move rfl) rfl rfl rfl ?_
    refine LV.step (VAL.move rfl) rfl rfl rfl ?_
    refine LV.by (V.ix h13 rfl rfl Trf.st9) rfl rfl rfl fun x16_6 h14 => ?_
    refine LV.by (V.gt h14 rfl rfl) rfl rfl rfl fun x17_7 h15 => ?_
    refine LV.step (VAL.pure rfl) rfl rfl rfl ?_
    exact LV.atSeam (y0, y2, y5, y6, x17_7, T1, n1) hS h15 ⟨rfl, rfl, rfl, rfl, rfl, trivial⟩
  ·
   rintro ⟨y0, y2, y5, y6, y18, T2, n2⟩ ρ its hQ h9
   have hS : EY.ST w0 base envE ρ0 ρ T2 ro n2 its := hQ
   clear hQ
   change LV _ _ _ _ _ _ _ _ _ [(0, y0), (2, y2), (5, y5), (6, y6), (18, y18)] _
   have h10 : g66_k2 ro (g66_l1 ro f1) y0 y2 y5 y6 y18 T2 n2 = .ok r T' n' := h9
   unfold g66_k2 at h10
   clear h6 h7 h8 h9
   refine LV.done ?_
   refine PV.sub [(0, y0), (2, y2), (5, y5), (6, y6), (18, y18)] ⟨rfl, rfl, rfl, rfl, rfl, trivial⟩ ?_
   refine PV.thenN ?_
   refine CV.cond h10 rfl (fun e h11 => ?_) (fun e h11 => ?_)
   ·
    clear h10
    subst e
    refine CV.seq ?_
    refine CV.region ?_
    refine LV.step (VAL.assign rfl) rfl rfl rfl ?_
    refine LV.done ?_
    refine PV.sub [(0, y0), (2, (.lit (.bool false))), (5, y5), (6, y6)] ⟨rfl, rfl, rfl, rfl, trivial⟩ ?_
    refine PV.thenN ?_
    refine CV.ret ?_
    refine PV.blockR ?_
    refine PV.thenR ?_
    refine PV.thenR ?_
    refine PV.blockR ?_
    refine PV.thenR ?_
    cases h11
    exact PV.ret (by simp) Tryd.results66 hS (RS.tmp rfl RS.nil) rfl
   ·
    clear h10
    subst e
    refine CV.skip ?_
    refine PV.blockN ?_
    refine PV.thenN ?_
    refine CV.region ?_
    refine LV.by (V.add h11 rfl rfl) rfl rfl rfl fun x19_5 h12 => ?_
    refine LV.step (VAL.move rfl) rfl rfl rfl ?_
    refine LV.done ?_
    refine PV.sub [(0, y0), (2, y2), (5, y5), (6, x19_5)] ⟨rfl, rfl, rfl, rfl, trivial⟩ ?_
    exact PV.atSeam (τ := Nat × AV × AV × AV × AV × HT × Nat) (f1, y0, y2, y5, x19_5, T2, n2) hS ⟨Nat.lt_succ_self _, h12⟩ ⟨rfl, rfl, rfl, rfl, trivial⟩
 ·
  clear h4 h5
  subst e
  refine CV.exit ?_
  refine PV.thenE ?_
  refine PV.thenE ?_
  refine PV.blockE ?_
  refine PV.thenN ?_
  refine CV.seq ?_
  refine CV.region ?_
  refine LV.step (VAL.move rfl) rfl rfl rfl ?_
  refine LV.by (V.eqS h6 rfl rfl) rfl rfl rfl fun x21_8 h16 => ?_
  refine LV.step (VAL.move rfl) rfl rfl rfl ?_
  refine LV.seam (E := envE) (ro := ro) (ρ0 := ρ0) (τ := AV × AV × HT × Nat) (fun t => [(2, t.1), (35, t.2.1)]) (fun t => t.2.2.1) (fun t => t.2.2.2) (fun t => g66_k3 ro  t.1 t.2.1 t.2.2.1 t.2.2.2 = .ok r T' n') 13 ?_ ?_
  ·
   rcases condK_inv h16 with ⟨e, h19⟩ | ⟨e, h19⟩
   ·
    clear h6 h16
    subst e
    refine LV.skip rfl rfl rfl ?_
    refine LV.skip rfl rfl rfl ?_
    refine LV.skip rfl rfl rfl ?_
    refine LV.skip rfl rfl rfl ?_
    refine LV.skip rfl rfl rfl ?_
    refine LV.skip rfl rfl rfl ?_
    refine LV.skip rfl rfl rfl ?_
    refine LV.skip rfl rfl rfl ?_
    refine LV.skip rfl rfl rfl ?_
    refine LV.skip rfl rfl rfl ?_
    refine LV.skip rfl rfl rfl ?_
    refine LV.skip rfl rfl rfl ?_
    refine LV.step (VAL.pure rfl) rfl rfl rfl ?_
    exact LV.atSeam (y2, (.lit (.bool true)), T1, n1) hS h19 ⟨rfl, rfl, trivial⟩
   ·
    clear h6 h16
    subst e
    refine LV.step (VAL.move rfl) rfl rfl rfl ?_
    refine LV.by (V.neS h19 rfl rfl) rfl rfl rfl fun x24_9 h20 => ?_
    refine LV.step (VAL.move rfl) rfl rfl rfl ?_
    refine LV.seam (E := envE) (ro := ro) (ρ0 := ρ0) (τ := AV × AV × AV × HT × Nat) (fun t => [(0, t.1), (2, t.2.1), (29, t.2.2.1), (22, (.lit (.bool false)))]) (fun t => t.2.2.2.1) (fun t => t.2.2.2.2) (fun t => g66_k4 ro  t.1 t.2.1 t.2.2.1 t.2.2.2.1 t.2.2.2.2 = .ok r T' n') 4 ?_ ?_
    ·
     rcases condK_inv h20 with ⟨e, h28⟩ | ⟨e, h28⟩
     ·
      clear h19 h20
      subst e
      refine LV.step (VAL.move rfl) rfl rfl rfl ?_
      refine LV.by (V.ix h28 rfl rfl Trf.st9) rfl rfl rfl fun x27_12 h29 => ?_
      refine LV.by (V.ne h29 rfl rfl) rfl rfl rfl fun x28_13 h30 => ?_
      refine LV.step (VAL.pure rfl) rfl rfl rfl ?_
      exact LV.atSeam (y0, y2, x28_13, T1, n1) hS h30 ⟨rfl, rfl, rfl, rfl, trivial⟩
     ·
      clear h19 h20
      subst e
      refine LV.skip rfl rfl rfl ?_
      refine LV.skip rfl rfl rfl ?_
      refine LV.skip rfl rfl rfl ?_
      refine LV.step (VAL.pure rfl) rfl rfl rfl ?_
      exact LV.atSeam (y0, y2, (.lit (.bool false)), T1, n1) hS h28 ⟨rfl, rfl, rfl, rfl, trivial⟩
    ·
     rintro ⟨y0, y2, y29, T4, n4⟩ ρ its hQ h21
     have hS : EY.ST w0 base envE ρ0 ρ T4 ro n4 its := hQ
     clear hQ
     change LV _ _ _ _ _ _ _ _ _ [(0, y0), (2, y2), (29, y29), (22, (.lit (.bool false)))] _
     have h22 : g66_k4 ro y0 y2 y29 T4 n4 = .ok r T' n' := h21
     unfold g66_k4 at h22
     clear h19 h20 h21
     refine LV.step (VAL.move rfl) rfl rfl rfl ?_
     refine LV.seam (E := envE) (ro := ro) (ρ0 := ρ0) (τ := AV × AV × HT × Nat) (fun t => [(2, t.1), (34, t.2.1), (22, (.lit (.bool false)))]) (fun t => t.2.2.1) (fun t => t.2.2.2) (fun t => g66_k5 ro  t.1 t.2.1 t.2.2.1 t.2.2.2 = .ok r T' n') 4 ?_ ?_
     ·
      rcases condK_inv h22 with ⟨e, h25⟩ | ⟨e, h25⟩
      ·
       clear h22
       subst e
       refine LV.step (VAL.move rfl) rfl rfl rfl ?_
       refine LV.by (V.lenT h25 rfl Trf.ls9) rfl rfl rfl fun x32_10 h26 => ?_
       refine LV.by (V.le h26 rfl rfl) rfl rfl rfl fun x33_11 h27 => ?_
       refine LV.step (VAL.pure rfl) rfl rfl rfl ?_
       exact LV.atSeam (y2, x33_11, T4, n4) hS h27 ⟨rfl, rfl, rfl, trivial⟩
      ·
       clear h22
       subst e
       refine LV.skip rfl rfl rfl ?_
       refine LV.skip rfl rfl rfl ?_
       refine LV.skip rfl rfl rfl ?_
       refine LV.step (VAL.pure rfl) rfl rfl rfl ?_
       exact LV.atSeam (y2, (.lit (.bool false)), T4, n4) hS h25 ⟨rfl, rfl, rfl, trivial⟩
     ·
      rintro ⟨y2, y34, T5, n5⟩ ρ its hQ h23
      have hS : EY.ST w0 base envE ρ0 ρ T5 ro n5 its := hQ
      clear hQ
      change LV _ _ _ _ _ _ _ _ _ [(2, y2), (34, y34), (22, (.lit (.bool false)))] _
      have h24 : g66_k5 ro y2 y34 T5 n5 = .ok r T' n' := h23
      unfold g66_k5 at h24
      clear h22 h23
      refine LV.step (VAL.pure rfl) rfl rfl rfl ?_
      exact LV.atSeam (y2, y34, T5, n5) hS h24 ⟨rfl, rfl, trivial⟩
  ·
   rintro ⟨y2, y35, T3, n3⟩ ρ its hQ h17
   have hS : EY.ST w0 base envE ρ0 ρ T3 ro n3 its := hQ
   clear hQ
   change LV _ _ _ _ _ _ _ _ _ [(2, y2), (35, y35)] _
   have h18 : g66_k3 ro y2 y35 T3 n3 = .ok r T' n' := h17
   unfold g66_k3 at h18
   clear h6 h16 h17
   refine LV.step (VAL.assign rfl) rfl rfl rfl ?_
   refine LV.done ?_
   refine PV.sub [(2, y35)] ⟨rfl, trivial⟩ ?_
   refine PV.thenN ?_
   refine CV.ret ?_
   cases h18
   exact PV.ret (by simp) Tryd.results66 hS (RS.tmp rfl RS.nil) rfl
noncomputable def g35_k2 (ro : List HT) (y0 y3 y4 y20 : AV) (T4 : HT) (n4 : Nat) : R :=
 .ok (.val y20) T4 n4
noncomputable def g35_k3 (ro : List HT) (y0 y3 y4 y30 : AV) (T7 : HT) (n7 : Nat) : R :=
 .ok (.val y30) T7 n7
noncomputable def g35_k5 (ro : List HT) (y4 y44 : AV) (T11 : HT) (n11 : Nat) : R :=
 .ok (.val y44) T11 n11
noncomputable def g35_k4 (ro : List HT) (y0 y3 y4 y31 : AV) (T9 : HT) (n9 : Nat) : R :=
 condK 350031 y31
 (
  ldAK 350033 T9 ro y3 5 fun x35_15 =>
  callK (g65 ro y0 x35_15 T9 n9) fun x36_16 T10 n10 =>
  .ok (.val x36_16) T10 n10
 )
 (
  faK 350036 y3 3 fun x37_17 =>
  ldK 350037 T9 ro x37_17 fun x38_18 =>
  eqSK Tryd.prog 9 (.tmp 38) (.const (.string ⟨⟨[]⟩⟩)) 350038 x38_18 (.lit (.string ⟨⟨[]⟩⟩)) fun x39_19 =>
  condK 350041 x39_19
  (
   ldAK 350043 T9 ro y3 5 fun x42_20 =>
   callK (g65 ro y0 x42_20 T9 n9) fun x43_21 T12 n12 =>
   g35_k5 ro y4 x43_21 T12 n12
  )
  (
   g35_k5 ro y4 (.lit (.bool false)) T9 n9
  )
 )
noncomputable def g35_k1 (ro : List HT) (y0 y3 y4 y6 y7 : AV) (T2 : HT) (n2 : Nat) : R :=
 condK 350005 y7
 (
  faK 350006 y3 3 fun x13_4 =>
  ldK 350007 T2 ro x13_4 fun x14_5 =>
  callK (g25 ro x14_5 T2 n2) fun x15_6 T3 n3 =>
  condK 350011 x15_6
  (
   ldAK 350013 T3 ro y3 5 fun x18_7 =>
   callK (g65 ro y0 x18_7 T3 n3) fun x19_8 T5 n5 =>
   g35_k2 ro y0 y3 y4 x19_8 T5 n5
  )
  (
   g35_k2 ro y0 y3 y4 (.lit (.bool false)) T3 n3
  )
 )
 (
  eqK Tryd.prog 3 (.tmp 6) (.const (.int .i64 (.ofNat 4))) 350017 y6 (.lit (.int .i64 (.ofNat 4))) fun x22_9 =>
  condK 350019 x22_9
  (
   faK 350020 y3 3 fun x23_10 =>
   ldK 350021 T2 ro x23_10 fun x24_11 =>
   callK (g66 ro x24_11 T2 n2) fun x25_12 T6 n6 =>
   condK 350025 x25_12
   (
    ldAK 350027 T6 ro y3 5 fun x28_13 =>
    callK (g65 ro y0 x28_13 T6 n6) fun x29_14 T8 n8 =>
    g35_k3 ro y0 y3 y4 x29_14 T8 n8
   )
   (
    g35_k3 ro y0 y3 y4 (.lit (.bool false)) T6 n6
   )
  )
  (
   eqK Tryd.prog 3 (.tmp 6) (.const (.int .i64 (.ofNat 5))) 350047 y6 (.lit (.int .i64 (.ofNat 5))) fun x32_22 =>
   condK 350049 x32_22
   (
    g35_k4 ro y0 y3 y4 (.lit (.bool true)) T2 n2
   )
   (
    eqK Tryd.prog 3 (.tmp 6) (.const (.int .i64 (.ofNat 42))) 350050 y6 (.lit (.int .i64 (.ofNat 42))) fun x33_23 =>
    g35_k4 ro y0 y3 y4 x33_23 T2 n2
   )
  )
 )
noncomputable def g35 (ro : List HT) (a0 a1 : AV) (T : HT) (nx : Nat) : R :=
 boxK 350001 T nx a1 27 fun x3_1 T1 n1 =>
 faK 350003 x3_1 0 fun x5_2 =>
 ldK 350004 T1 ro x5_2 fun x6_3 =>
 eqK Tryd.prog 3 (.tmp 6) (.const (.int .i64 (.ofNat 6))) 350052 x6_3 (.lit (.int .i64 (.ofNat 6))) fun x8_24 =>
 condK 350054 x8_24
 (
  g35_k1 ro a0 x3_1 (.lit (.bool false)) x6_3 (.lit (.bool true)) T1 n1
 )
 (
  eqK Tryd.prog 3 (.tmp 6) (.const (.int .i64 (.ofNat 11))) 350055 x6_3 (.lit (.int .i64 (.ofNat 11))) fun x9_25 =>
  condK 350057 x9_25
  (
   g35_k1 ro a0 x3_1 (.lit (.bool false)) x6_3 (.lit (.bool true)) T1 n1
  )
  (
   eqK Tryd.prog 3 (.tmp 6) (.const (.int .i64 (.ofNat 12))) 350058 x6_3 (.lit (.int .i64 (.ofNat 12))) fun x10_26 =>
   condK 350060 x10_26
   (
    g35_k1 ro a0 x3_1 (.lit (.bool false)) x6_3 (.lit (.bool true)) T1 n1
   )
   (
    eqK Tryd.prog 3 (.tmp 6) (.const (.int .i64 (.ofNat 45))) 350061 x6_3 (.lit (.int .i64 (.ofNat 45))) fun x11_27 =>
    condK 350063 x11_27
    (
     g35_k1 ro a0 x3_1 (.lit (.bool false)) x6_3 (.lit (.bool true)) T1 n1
    )
    (
     eqK Tryd.prog 3 (.tmp 6) (.const (.int .i64 (.ofNat 46))) 350064 x6_3 (.lit (.int .i64 (.ofNat 46))) fun x12_28 =>
     g35_k1 ro a0 x3_1 (.lit (.bool false)) x6_3 x12_28 T1 n1
    )
   )
  )
 )
theorem g35_ok (ro : List HT) (a0 a1 : AV) (T : HT) (nx : Nat) : GOk Tryd.prog envE 35 [a0, a1] ro T nx (g35 ro a0 a1 T nx) := by
 refine GOk.of_body Tryd.func35 rfl Tryd.ntmps35 (by kernel_rfl) rfl fun r T' n' h1 w0 base ρ0 its hS hP => ?_
 unfold g35 at h1
 refine CV.sub [(0, a0), (1, a1)] ⟨rfl, rfl, trivial⟩ ?_
 refine CV.seq ?_
 refine CV.region ?_
 refine LV.box hS h1 rfl rfl rfl rfl rfl fun x3_1 T1 n1 h2 ρ its hS hdr => ?_
 refine LV.step (VAL.assign rfl) rfl rfl rfl ?_
 refine LV.done ?_
 refine PV.sub [(0, a0), (3, x3_1), (4, (.lit (.bool false)))] ⟨rfl, rfl, rfl, trivial⟩ ?_
 refine PV.thenN ?_
 refine CV.seq ?_
 refine CV.seq ?_
 refine CV.region ?_
 refine LV.by (V.fa h2 rfl Trf.fo27_0) rfl rfl rfl fun x5_2 h3 => ?_
 refine LV.by (V.ld hS h3 rfl Trf.one3) rfl rfl rfl fun x6_3 h4 => ?_
 refine LV.done ?_
 refine PV.sub [(0, a0), (3, x3_1), (4, (.lit (.bool false))), (6, x6_3)] ⟨rfl, rfl, rfl, rfl, trivial⟩ ?_
 refine PV.thenN ?_
 refine CV.block ?_
 refine CV.seam (E := envE) (ro := ro) (ρ0 := ρ0) (τ := AV × AV × AV × AV × AV × HT × Nat) (fun t => [(0, t.1), (3, t.2.1), (4, t.2.2.1), (6, t.2.2.2.1), (7, t.2.2.2.2.1)]) (fun t => t.2.2.2.2.2.1) (fun t => t.2.2.2.2.2.2) (fun t => g35_k1 ro  t.1 t.2.1 t.2.2.1 t.2.2.2.1 t.2.2.2.2.1 t.2.2.2.2.2.1 t.2.2.2.2.2.2 = .ok r T' n') ?_ ?_
 ·
  refine CV.seq ?_
  refine CV.region ?_
  refine LV.by (V.eq h4 rfl rfl) rfl rfl rfl fun x8_24 h42 => ?_
  refine LV.step (VAL.assign rfl) rfl rfl rfl ?_
  refine LV.done ?_
  refine PV.sub [(0, a0), (3, x3_1), (4, (.lit (.bool false))), (6, x6_3), (7, x8_24)] ⟨rfl, rfl, rfl, rfl, rfl, trivial⟩ ?_
  refine PV.thenN ?_
  refine CV.cond h42 rfl (fun e h43 => ?_) (fun e h43 => ?_)
  ·
   clear h1 h2 h3 h4 h42
   subst e
   refine CV.skip ?_
   exact PV.atSeam (a0, x3_1, (.lit (.bool false)), x6_3, (.lit (.bool true)), T1, n1) hS h43 ⟨rfl, rfl, rfl, rfl, rfl, trivial⟩
  ·
   clear h1 h2 h3 h4 h42
   subst e
   refine CV.seq ?_
   refine CV.region ?_
   refine LV.by (V.eq h43 rfl rfl) rfl rfl rfl fun x9_25 h44 => ?_
   refine LV.step (VAL.assign rfl) rfl rfl rfl ?_
   refine LV.done ?_
   refine PV.sub [(0, a0), (3, x3_1), (4, (.lit (.bool false))), (6, x6_3), (7, x9_25)] ⟨rfl, rfl, rfl, rfl, rfl, trivial⟩ ?_
   refine PV.thenN ?_
   refine CV.cond h44 rfl (fun e h45 => ?_) (fun e h45 => ?_)
   ·
    clear h43 h44
    subst e
    refine CV.skip ?_
    exact PV.atSeam (a0, x3_1, (.lit (.bool false)), x6_3, (.lit (.bool true)), T1, n1) hS h45 ⟨rfl, rfl, rfl, rfl, rfl, trivial⟩
   ·
    clear h43 h44
    subst e
    refine CV.seq ?_
    refine CV.region ?_
    refine LV.by (V.eq h45 rfl rfl) rfl rfl rfl fun x10_26 h46 => ?_
    refine LV.step (VAL.assign rfl) rfl rfl rfl ?_
    refine LV.done ?_
    refine PV.sub [(0, a0), (3, x3_1), (4, (.lit (.bool false))), (6, x6_3), (7, x10_26)] ⟨rfl, rfl, rfl, rfl, rfl, trivial⟩ ?_
    refine PV.thenN ?_
    refine CV.cond h46 rfl (fun e h47 => ?_) (fun e h47 => ?_)
    ·
     clear h45 h46
     subst e
     refine CV.skip ?_
     exact PV.atSeam (a0, x3_1, (.lit (.bool false)), x6_3, (.lit (.bool true)), T1, n1) hS h47 ⟨rfl, rfl, rfl, rfl, rfl, trivial⟩
    ·
     clear h45 h46
     subst e
     refine CV.seq ?_
     refine CV.region ?_
     refine LV.by (V.eq h47 rfl rfl) rfl rfl rfl fun x11_27 h48 => ?_
     refine LV.step (VAL.assign rfl) rfl rfl rfl ?_
     refine LV.done ?_
     refine PV.sub [(0, a0), (3, x3_1), (4, (.lit (.bool false))), (6, x6_3), (7, x11_27)] ⟨rfl, rfl, rfl, rfl, rfl, trivial⟩ ?_
     refine PV.thenN ?_
     refine CV.cond h48 rfl (fun e h49 => ?_) (fun e h49 => ?_)
     ·
      clear h47 h48
      subst e
      refine CV.skip ?_
      exact PV.atSeam (a0, x3_1, (.lit (.bool false)), x6_3, (.lit (.bool true)), T1, n1) hS h49 ⟨rfl, rfl, rfl, rfl, rfl, trivial⟩
     ·
      clear h47 h48
      subst e
      refine CV.region ?_
      refine LV.by (V.eq h49 rfl rfl) rfl rfl rfl fun x12_28 h50 => ?_
      refine LV.step (VAL.assign rfl) rfl rfl rfl ?_
      refine LV.done ?_
      refine PV.sub [(0, a0), (3, x3_1), (4, (.lit (.bool false))), (6, x6_3), (7, x12_28)] ⟨rfl, rfl, rfl, rfl, rfl, trivial⟩ ?_
      exact PV.atSeam (a0, x3_1, (.lit (.bool false)), x6_3, x12_28, T1, n1) hS h50 ⟨rfl, rfl, rfl, rfl, rfl, trivial⟩
 ·
  rintro ⟨y0, y3, y4, y6, y7, T2, n2⟩ ρ its hQ h5
  have hS : EY.ST w0 base envE ρ0 ρ T2 ro n2 its := hQ
  clear hQ
  change CV _ _ _ _ _ _ _ _ [(0, y0), (3, y3), (4, y4), (6, y6), (7, y7)] _
  have h6 : g35_k1 ro y0 y3 y4 y6 y7 T2 n2 = .ok r T' n' := h5
  unfold g35_k1 at h6
  clear h1 h2 h3 h4 h5
  refine CV.cond h6 rfl (fun e h7 => ?_) (fun e h7 => ?_)
  ·
   clear h6
   subst e
   refine CV.seq ?_
   refine CV.region ?_
   refine LV.by (V.fa h7 rfl Trf.fo27_3) rfl rfl rfl fun x13_4 h8 => ?_
   refine LV.by (V.ld hS h8 rfl Trf.one9) rfl rfl rfl fun x14_5 h9 => ?_
   refine LV.call hS h9 (g25_ok _ _ _ _ ) hP rfl rfl rfl rfl fun x15_6 T3 n3 h10 ρ its hS => ?_
   refine LV.step (VAL.move rfl) rfl rfl rfl ?_
   refine LV.seam (E := envE) (ro := ro) (ρ0 := ρ0) (τ := AV × AV × AV × AV × HT × Nat) (fun t => [(0, t.1), (3, t.2.1), (4, t.2.2.1), (20, t.2.2.2.1)]) (fun t => t.2.2.2.2.1) (fun t => t.2.2.2.2.2) (fun t => g35_k2 ro  t.1 t.2.1 t.2.2.1 t.2.2.2.1 t.2.2.2.2.1 t.2.2.2.2.2 = .ok r T' n') 4 ?_ ?_
   ·
    rcases condK_inv h10 with ⟨e, h13⟩ | ⟨e, h13⟩
    ·
     clear h7 h8 h9 h10
     subst e
     refine LV.step (VAL.move rfl) rfl rfl rfl ?_
     refine LV.by (V.ldA hS h13 rfl Trf.agg27) rfl rfl rfl fun x18_7 h14 => ?_
     refine LV.call hS h14 (g65_ok _ _ _ _ _ ) hP rfl rfl rfl rfl fun x19_8 T5 n5 h15 ρ its hS => ?_
     refine LV.step (VAL.pure rfl) rfl rfl rfl ?_
     exact LV.atSeam (y0, y3, y4, x19_8, T5, n5) hS h15 ⟨rfl, rfl, rfl, rfl, trivial⟩
    ·
     clear h7 h8 h9 h10
     subst e
     refine LV.skip rfl rfl rfl ?_
     refine LV.skip rfl rfl rfl ?_
     refine LV.skip rfl rfl rfl ?_
     refine LV.step (VAL.pure rfl) rfl rfl rfl ?_
     exact LV.atSeam (y0, y3, y4, (.lit (.bool false)), T3, n3) hS h13 ⟨rfl, rfl, rfl, rfl, trivial⟩
   ·
    rintro ⟨y0, y3, y4, y20, T4, n4⟩ ρ its hQ h11
    have hS : EY.ST w0 base envE ρ0 ρ T4 ro n4 its := hQ
    clear hQ
    change LV _ _ _ _ _ _ _ _ _ [(0, y0), (3, y3), (4, y4), (20, y20)] _
    have h12 : g35_k2 ro y0 y3 y4 y20 T4 n4 = .ok r T' n' := h11
    unfold g35_k2 at h12
    clear h7 h8 h9 h10 h11
    refine LV.step (VAL.assign rfl) rfl rfl rfl ?_
    refine LV.done ?_
    refine PV.sub [(0, y0), (3, y3), (4, y20)] ⟨rfl, rfl, rfl, trivial⟩ ?_
    refine PV.thenN ?_
    refine CV.ret ?_
    refine PV.blockR ?_
    refine PV.thenR ?_
    cases h12
    exact PV.ret (by simp) Tryd.results35 hS (RS.tmp rfl RS.nil) rfl
  ·
   clear h6
   subst e
   refine CV.seq ?_
   refine CV.region ?_
   refine LV.by (V.eq h7 rfl rfl) rfl rfl rfl fun x22_9 h16 => ?_
   refine LV.step (VAL.assign rfl) rfl rfl rfl ?_
   refine LV.done ?_
   refine PV.sub [(0, y0), (3, y3), (4, y4), (6, y6), (21, x22_9)] ⟨rfl, rfl, rfl, rfl, rfl, trivial⟩ ?_
   refine PV.thenN ?_
   refine CV.cond h16 rfl (fun e h17 => ?_) (fun e h17 => ?_)
   ·
    clear h7 h16
    subst e
    refine CV.seq ?_
    refine CV.region ?_
    refine LV.by (V.fa h17 rfl Trf.fo27_3) rfl rfl rfl fun x23_10 h18 => ?_
    refine LV.by (V.ld hS h18 rfl Trf.one9) rfl rfl rfl fun x24_11 h19 => ?_
    refine LV.call hS h19 (g66_ok _ _ _ _ ) hP rfl rfl rfl rfl fun x25_12 T6 n6 h20 ρ its hS => ?_
    refine LV.step (VAL.move rfl) rfl rfl rfl ?_
    refine LV.seam (E := envE) (ro := ro) (ρ0 := ρ0) (τ := AV × AV × AV × AV × HT × Nat) (fun t => [(0, t.1), (3, t.2.1), (4, t.2.2.1), (30, t.2.2.2.1)]) (fun t => t.2.2.2.2.1) (fun t => t.2.2.2.2.2) (fun t => g35_k3 ro  t.1 t.2.1 t.2.2.1 t.2.2.2.1 t.2.2.2.2.1 t.2.2.2.2.2 = .ok r T' n') 4 ?_ ?_
    ·
     rcases condK_inv h20 with ⟨e, h23⟩ | ⟨e, h23⟩
     ·
      clear h17 h18 h19 h20
      subst e
      refine LV.step (VAL.move rfl) rfl rfl rfl ?_
      refine LV.by (V.ldA hS h23 rfl Trf.agg27) rfl rfl rfl fun x28_13 h24 => ?_
      refine LV.call hS h24 (g65_ok _ _ _ _ _ ) hP rfl rfl rfl rfl fun x29_14 T8 n8 h25 ρ its hS => ?_
      refine LV.step (VAL.pure rfl) rfl rfl rfl ?_
      exact LV.atSeam (y0, y3, y4, x29_14, T8, n8) hS h25 ⟨rfl, rfl, rfl, rfl, trivial⟩
     ·
      clear h17 h18 h19 h20
      subst e
      refine LV.skip rfl rfl rfl ?_
      refine LV.skip rfl rfl rfl ?_
      refine LV.skip rfl rfl rfl ?_
      refine LV.step (VAL.pure rfl) rfl rfl rfl ?_
      exact LV.atSeam (y0, y3, y4, (.lit (.bool false)), T6, n6) hS h23 ⟨rfl, rfl, rfl, rfl, trivial⟩
    ·
     rintro ⟨y0, y3, y4, y30, T7, n7⟩ ρ its hQ h21
     have hS : EY.ST w0 base envE ρ0 ρ T7 ro n7 its := hQ
     clear hQ
     change LV _ _ _ _ _ _ _ _ _ [(0, y0), (3, y3), (4, y4), (30, y30)] _
     have h22 : g35_k3 ro y0 y3 y4 y30 T7 n7 = .ok r T' n' := h21
     unfold g35_k3 at h22
     clear h17 h18 h19 h20 h21
     refine LV.step (VAL.assign rfl) rfl rfl rfl ?_
     refine LV.done ?_
     refine PV.sub [(0, y0), (3, y3), (4, y30)] ⟨rfl, rfl, rfl, trivial⟩ ?_
     refine PV.thenN ?_
     refine CV.ret ?_
     refine PV.blockR ?_
     refine PV.thenR ?_
     cases h22
     exact PV.ret (by simp) Tryd.results35 hS (RS.tmp rfl RS.nil) rfl
   ·
    clear h7 h16
    subst e
    refine CV.seam (E := envE) (ro := ro) (ρ0 := ρ0) (τ := AV × AV × AV × AV × HT × Nat) (fun t => [(0, t.1), (3, t.2.1), (4, t.2.2.1), (31, t.2.2.2.1)]) (fun t => t.2.2.2.2.1) (fun t => t.2.2.2.2.2) (fun t => g35_k4 ro  t.1 t.2.1 t.2.2.1 t.2.2.2.1 t.2.2.2.2.1 t.2.2.2.2.2 = .ok r T' n') ?_ ?_
    ·
     refine CV.seq ?_
     refine CV.region ?_
     refine LV.by (V.eq h17 rfl rfl) rfl rfl rfl fun x32_22 h39 => ?_
     refine LV.step (VAL.assign rfl) rfl rfl rfl ?_
     refine LV.done ?_
     refine PV.sub [(0, y0), (3, y3), (4, y4), (6, y6), (31, x32_22)] ⟨rfl, rfl, rfl, rfl, rfl, trivial⟩ ?_
     refine PV.thenN ?_
     refine CV.cond h39 rfl (fun e h40 => ?_) (fun e h40 => ?_)
     ·
      clear h17 h39
      subst e
      refine CV.skip ?_
      exact PV.atSeam (y0, y3, y4, (.lit (.bool true)), T2, n2) hS h40 ⟨rfl, rfl, rfl, rfl, trivial⟩
     ·
      clear h17 h39
      subst e
      refine CV.region ?_
      refine LV.by (V.eq h40 rfl rfl) rfl rfl rfl fun x33_23 h41 => ?_
      refine LV.step (VAL.assign rfl) rfl rfl rfl ?_
      refine LV.done ?_
      refine PV.sub [(0, y0), (3, y3), (4, y4), (31, x33_23)] ⟨rfl, rfl, rfl, rfl, trivial⟩ ?_
      exact PV.atSeam (y0, y3, y4, x33_23, T2, n2) hS h41 ⟨rfl, rfl, rfl, rfl, trivial⟩
    ·
     rintro ⟨y0, y3, y4, y31, T9, n9⟩ ρ its hQ h26
     have hS : EY.ST w0 base envE ρ0 ρ T9 ro n9 its := hQ
     clear hQ
     change CV _ _ _ _ _ _ _ _ [(0, y0), (3, y3), (4, y4), (31, y31)] _
     have h27 : g35_k4 ro y0 y3 y4 y31 T9 n9 = .ok r T' n' := h26
     unfold g35_k4 at h27
     clear h17 h26
     refine CV.cond h27 rfl (fun e h28 => ?_) (fun e h28 => ?_)
     ·
      clear h27
      subst e
      refine CV.seq ?_
      refine CV.region ?_
      refine LV.step (VAL.move rfl) rfl rfl rfl ?_
      refine LV.by (V.ldA hS h28 rfl Trf.agg27) rfl rfl rfl fun x35_15 h29 => ?_
      refine LV.call hS h29 (g65_ok _ _ _ _ _ ) hP rfl rfl rfl rfl fun x36_16 T10 n10 h30 ρ its hS => ?_
      refine LV.step (VAL.assign rfl) rfl rfl rfl ?_
      refine LV.done ?_
      refine PV.sub [(0, y0), (3, y3), (4, x36_16)] ⟨rfl, rfl, rfl, trivial⟩ ?_
      refine PV.thenN ?_
      refine CV.ret ?_
      refine PV.blockR ?_
      refine PV.thenR ?_
      cases h30
      exact PV.ret (by simp) Tryd.results35 hS (RS.tmp rfl RS.nil) rfl
     ·
      clear h27
      subst e
      refine CV.skip ?_
      refine PV.blockN ?_
      refine PV.thenN ?_
      refine CV.seq ?_
      refine CV.region ?_
      refine LV.by (V.fa h28 rfl Trf.fo27_3) rfl rfl rfl fun x37_17 h31 => ?_
      refine LV.by (V.ld hS h31 rfl Trf.one9) rfl rfl rfl fun x38_18 h32 => ?_
      refine LV.by (V.eqS h32 rfl rfl) rfl rfl rfl fun x39_19 h33 => ?_
      refine LV.step (VAL.move rfl) rfl rfl rfl ?_
      refine LV.seam (E := envE) (ro := ro) (ρ0 := ρ0) (τ := AV × AV × HT × Nat) (fun t => [(4, t.1), (44, t.2.1)]) (fun t => t.2.2.1) (fun t => t.2.2.2) (fun t => g35_k5 ro  t.1 t.2.1 t.2.2.1 t.2.2.2 = .ok r T' n') 4 ?_ ?_
      ·
       rcases condK_inv h33 with ⟨e, h36⟩ | ⟨e, h36⟩
       ·
        clear h28 h31 h32 h33
        subst e
        refine LV.step (VAL.move rfl) rfl rfl rfl ?_
        refine LV.by (V.ldA hS h36 rfl Trf.agg27) rfl rfl rfl fun x42_20 h37 => ?_
        refine LV.call hS h37 (g65_ok _ _ _ _ _ ) hP rfl rfl rfl rfl fun x43_21 T12 n12 h38 ρ its hS => ?_
        refine LV.step (VAL.pure rfl) rfl rfl rfl ?_
        exact LV.atSeam (y4, x43_21, T12, n12) hS h38 ⟨rfl, rfl, trivial⟩
       ·
        clear h28 h31 h32 h33
        subst e
        refine LV.skip rfl rfl rfl ?_
        refine LV.skip rfl rfl rfl ?_
        refine LV.skip rfl rfl rfl ?_
        refine LV.step (VAL.pure rfl) rfl rfl rfl ?_
        exact LV.atSeam (y4, (.lit (.bool false)), T9, n9) hS h36 ⟨rfl, rfl, trivial⟩
      ·
       rintro ⟨y4, y44, T11, n11⟩ ρ its hQ h34
       have hS : EY.ST w0 base envE ρ0 ρ T11 ro n11 its := hQ
       clear hQ
       change LV _ _ _ _ _ _ _ _ _ [(4, y4), (44, y44)] _
       have h35 : g35_k5 ro y4 y44 T11 n11 = .ok r T' n' := h34
       unfold g35_k5 at h35
       clear h28 h31 h32 h33 h34
       refine LV.step (VAL.assign rfl) rfl rfl rfl ?_
       refine LV.done ?_
       refine PV.sub [(4, y44)] ⟨rfl, trivial⟩ ?_
       refine PV.thenN ?_
       refine CV.ret ?_
       cases h35
       exact PV.ret (by simp) Tryd.results35 hS (RS.tmp rfl RS.nil) rfl

end Go.Proofs.YtggoogbloaennaaDoor.Tr
