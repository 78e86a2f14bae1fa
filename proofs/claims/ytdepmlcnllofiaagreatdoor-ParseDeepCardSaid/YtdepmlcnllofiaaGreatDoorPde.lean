/-
  Proved here: plain functions that do what the program's functions do, each with its proof.
-/
import Derived.Test.YtdepmlcnllofiaaGreatDoorPdd
namespace Go.Proofs.YtdepmlcnllofiaaGreatDoor.Pd
open Go.EY Go.EX Go.SX Go.RowKit
noncomputable def g45_k4 (ro : List HT) (y37 : AV) (T6 : HT) (n6 : Nat) : R :=
 .ok (.val y37) T6 n6
noncomputable def g45_k3 (ro : List HT) (y2 y3 y30 : AV) (T5 : HT) (n5 : Nat) : R :=
 condK 450014 y30
 (
  faK 450015 y2 4 fun x32_8 =>
  ldK 450016 T5 ro x32_8 fun x33_9 =>
  faK 450017 y3 4 fun x34_10 =>
  ldK 450018 T5 ro x34_10 fun x35_11 =>
  eqSK Tryz.prog 9 (.tmp 33) (.tmp 35) 450019 x33_9 x35_11 fun x36_12 =>
  g45_k4 ro x36_12 T5 n5
 )
 (
  g45_k4 ro (.lit (.bool false)) T5 n5
 )
noncomputable def g45_k2 (ro : List HT) (y2 y3 y23 : AV) (T4 : HT) (n4 : Nat) : R :=
 condK 450022 y23
 (
  faK 450023 y2 3 fun x25_13 =>
  ldK 450024 T4 ro x25_13 fun x26_14 =>
  faK 450025 y3 3 fun x27_15 =>
  ldK 450026 T4 ro x27_15 fun x28_16 =>
  bin0 Tryz.prog .eql 4 (.tmp 26) (.tmp 28) 450027 x26_14 x28_16 fun x29_17 =>
  g45_k3 ro y2 y3 x29_17 T4 n4
 )
 (
  g45_k3 ro y2 y3 (.lit (.bool false)) T4 n4
 )
noncomputable def g45_k1 (ro : List HT) (y2 y3 y16 : AV) (T3 : HT) (n3 : Nat) : R :=
 condK 450030 y16
 (
  faK 450031 y2 2 fun x18_18 =>
  ldK 450032 T3 ro x18_18 fun x19_19 =>
  faK 450033 y3 2 fun x20_20 =>
  ldK 450034 T3 ro x20_20 fun x21_21 =>
  eqK Tryz.prog 3 (.tmp 19) (.tmp 21) 450035 x19_19 x21_21 fun x22_22 =>
  g45_k2 ro y2 y3 x22_22 T3 n3
 )
 (
  g45_k2 ro y2 y3 (.lit (.bool false)) T3 n3
 )
noncomputable def g45 (ro : List HT) (a0 a1 : AV) (T : HT) (nx : Nat) : R :=
 boxK 450001 T nx a0 36 fun x2_1 T1 n1 =>
 boxK 450002 T1 n1 a1 36 fun x3_2 T2 n2 =>
 faK 450004 x2_1 0 fun x5_3 =>
 ldK 450005 T2 ro x5_3 fun x6_4 =>
 faK 450006 x3_2 0 fun x7_5 =>
 ldK 450007 T2 ro x7_5 fun x8_6 =>
 eqK Tryz.prog 3 (.tmp 6) (.tmp 8) 450008 x6_4 x8_6 fun x9_7 =>
 condK 450038 x9_7
 (
  faK 450039 x2_1 1 fun x11_23 =>
  ldK 450040 T2 ro x11_23 fun x12_24 =>
  faK 450041 x3_2 1 fun x13_25 =>
  ldK 450042 T2 ro x13_25 fun x14_26 =>
  bin0 Tryz.prog .eql 4 (.tmp 12) (.tmp 14) 450043 x12_24 x14_26 fun x15_27 =>
  g45_k1 ro x2_1 x3_2 x15_27 T2 n2
 )
 (
  g45_k1 ro x2_1 x3_2 (.lit (.bool false)) T2 n2
 )
theorem g45_ok (ro : List HT) (a0 a1 : AV) (T : HT) (nx : Nat) : GOk Tryz.prog envE 45 [a0, a1] ro T nx (g45 ro a0 a1 T nx) := by
 refine GOk.of_body Tryz.func45 rfl Tryz.ntmps45 (by kernel_rfl) rfl fun r T' n' h1 w0 base ρ0 its hS hP => ?_
 have X : CtxW envE ρ0 ro r T' n' := trivial
 unfold g45 at h1
 refine sr ?_
 refine LV.box hS h1 rfl rfl rfl rfl rfl fun x2_1 T1 n1 h2 ρ its hS hdr => ?_
 refine LV.box hS h2 rfl rfl rfl rfl rfl fun x3_2 T2 n2 h3 ρ its hS hdr => ?_
 refine as_ ?_
 refine dn ?_
 refine sr ?_
 refine vy (V.fa h3 rfl Pdf.fo36_0) fun x5_3 h4 => ?_
 refine vy (V.ld hS h4 rfl Pdf.one3) fun x6_4 h5 => ?_
 refine vy (V.fa h5 rfl Pdf.fo36_0) fun x7_5 h6 => ?_
 refine vy (V.ld hS h6 rfl Pdf.one3) fun x8_6 h7 => ?_
 refine vy (V.eq h7 rfl rfl) fun x9_7 h8 => ?_
 refine mv ?_
 refine ls3 X 2 3 16 [(4, (.lit (.bool false)))] (g45_k1 ro) 6 ?_ ?_
 ·
  rcases condK_inv h8 with ⟨e, h31⟩ | ⟨e, h31⟩
  ·
   clear h1 h2 h3 h4 h5 h6 h7 h8
   subst e
   refine vy (V.fa h31 rfl Pdf.fo36_1) fun x11_23 h32 => ?_
   refine vy (V.ld hS h32 rfl Pdf.one4) fun x12_24 h33 => ?_
   refine vy (V.fa h33 rfl Pdf.fo36_1) fun x13_25 h34 => ?_
   refine vy (V.ld hS h34 rfl Pdf.one4) fun x14_26 h35 => ?_
   refine vy (V.bin0 h35 rfl rfl) fun x15_27 h36 => ?_
   refine pu ?_
   exact la3 hS h36 ⟨rfl, rfl, rfl, rfl, trivial⟩
  ·
   clear h1 h2 h3 h4 h5 h6 h7 h8
   subst e
   refine sk ?_
   refine sk ?_
   refine sk ?_
   refine sk ?_
   refine sk ?_
   refine pu ?_
   exact la3 hS h31 ⟨rfl, rfl, rfl, rfl, trivial⟩
 ·
  intro y2 y3 y16 T3 n3 ρ its hS h9
  unfold g45_k1 at h9
  clear h1 h2 h3 h4 h5 h6 h7 h8
  refine mv ?_
  refine ls3 X 2 3 23 [(4, (.lit (.bool false)))] (g45_k2 ro) 6 ?_ ?_
  ·
   rcases condK_inv h9 with ⟨e, h25⟩ | ⟨e, h25⟩
   ·
    clear h9
    subst e
    refine vy (V.fa h25 rfl Pdf.fo36_2) fun x18_18 h26 => ?_
    refine vy (V.ld hS h26 rfl Pdf.one3) fun x19_19 h27 => ?_
    refine vy (V.fa h27 rfl Pdf.fo36_2) fun x20_20 h28 => ?_
    refine vy (V.ld hS h28 rfl Pdf.one3) fun x21_21 h29 => ?_
    refine vy (V.eq h29 rfl rfl) fun x22_22 h30 => ?_
    refine pu ?_
    exact la3 hS h30 ⟨rfl, rfl, rfl, rfl, trivial⟩
   ·
    clear h9
    subst e
    refine sk ?_
    refine sk ?_
    refine sk ?_
    refine sk ?_
    refine sk ?_
    refine pu ?_
    exact la3 hS h25 ⟨rfl, rfl, rfl, rfl, trivial⟩
  ·
   intro y2 y3 y23 T4 n4 ρ its hS h10
   unfold g45_k2 at h10
   clear h9
   refine mv ?_
   refine ls3 X 2 3 30 [(4, (.lit (.bool false)))] (g45_k3 ro) 6 ?_ ?_
   ·
    rcases condK_inv h10 with ⟨e, h19⟩ | ⟨e, h19⟩
    ·
     clear h10
     subst e
     refine vy (V.fa h19 rfl Pdf.fo36_3) fun x25_13 h20 => ?_
     refine vy (V.ld hS h20 rfl Pdf.one4) fun x26_14 h21 => ?_
     refine vy (V.fa h21 rfl Pdf.fo36_3) fun x27_15 h22 => ?_
     refine vy (V.ld hS h22 rfl Pdf.one4) fun x28_16 h23 => ?_
     refine vy (V.bin0 h23 rfl rfl) fun x29_17 h24 => ?_
     refine pu ?_
     exact la3 hS h24 ⟨rfl, rfl, rfl, rfl, trivial⟩
    ·
     clear h10
     subst e
     refine sk ?_
     refine sk ?_
     refine sk ?_
     refine sk ?_
     refine sk ?_
     refine pu ?_
     exact la3 hS h19 ⟨rfl, rfl, rfl, rfl, trivial⟩
   ·
    intro y2 y3 y30 T5 n5 ρ its hS h11
    unfold g45_k3 at h11
    clear h10
    refine mv ?_
    refine ls1 X 37 [(4, (.lit (.bool false)))] (g45_k4 ro) 6 ?_ ?_
    ·
     rcases condK_inv h11 with ⟨e, h13⟩ | ⟨e, h13⟩
     ·
      clear h11
      subst e
      refine vy (V.fa h13 rfl Pdf.fo36_4) fun x32_8 h14 => ?_
      refine vy (V.ld hS h14 rfl Pdf.one9) fun x33_9 h15 => ?_
      refine vy (V.fa h15 rfl Pdf.fo36_4) fun x34_10 h16 => ?_
      refine vy (V.ld hS h16 rfl Pdf.one9) fun x35_11 h17 => ?_
      refine vy (V.eqS h17 rfl rfl) fun x36_12 h18 => ?_
      refine pu ?_
      exact la1 hS h18 ⟨rfl, rfl, trivial⟩
     ·
      clear h11
      subst e
      refine sk ?_
      refine sk ?_
      refine sk ?_
      refine sk ?_
      refine sk ?_
      refine pu ?_
      exact la1 hS h13 ⟨rfl, rfl, trivial⟩
    ·
     intro y37 T6 n6 ρ its hS h12
     unfold g45_k4 at h12
     clear h11
     refine as_ ?_
     refine dn ?_
     refine CV.ret ?_
     cases h12
     exact PV.ret (by simp) Tryz.results45 hS (RS.tmp rfl RS.nil) rfl
noncomputable def g16 (ro : List HT) (a0 a1 : AV) (T : HT) (nx : Nat) : R :=
 boxK 160001 T nx a1 36 fun x3_1 T1 n1 =>
 ldAQK 160004 T1 ro [x3_1] x3_1 5 fun x7_2 =>
 callK (g15 ro a0 T1 n1) fun x6_3 T2 n2 =>
 keepK 160006 T1 T2 [x3_1] <|
 callK (g45 ro x6_3 x7_2 T2 n2) fun x8_4 T3 n3 =>
 .ok (.val x8_4) T3 n3
theorem g16_ok (ro : List HT) (a0 a1 : AV) (T : HT) (nx : Nat) : GOk Tryz.prog envE 16 [a0, a1] ro T nx (g16 ro a0 a1 T nx) := by
 refine GOk.of_body Tryz.func16 rfl Tryz.ntmps16 (by kernel_rfl) rfl fun r T' n' h1 w0 base ρ0 its hS hP => ?_
 have X : CtxW envE ρ0 ro r T' n' := trivial
 unfold g16 at h1
 refine sr ?_
 refine LV.box hS h1 rfl rfl rfl rfl rfl fun x3_1 T1 n1 h2 ρ its hS hdr => ?_
 refine as_ ?_
 refine dn ?_
 refine CV.seq ?_
 refine CV.regionMS hS [x3_1] [(0, .anywhere), (2, .held), (1, .alone), (3, .alone), (4, .alone)] rfl (fun c a a' w hd hq => PanicOk.root (P := Tryz.prog) (fn := Tryz.f16) (w0 := w0) (base := base) (E := envE) (ro := ro) (r := r) (T' := T') (n' := n') (ρ0 := ρ0) c a a' w hd hq) (by kernel_rfl) ?_
 have hK := KeepS.start [x3_1] hS
 have hR := hS
 have hP0 := hP
 replace hP := PK.up hR hP
 replace hS := hR.root
 refine MV.step0 (i := 0) rfl (VAL.move rfl) rfl rfl rfl ?_
 refine MV.lift1 (i := 2) rfl hK (V.ldAQ hS h2 rfl Pdf.agg36) rfl rfl rfl [] (by kernel_rfl) fun x7_2 h3 => ?_
 refine MV.force (i := 1) rfl ?_
 refine LV.call hS h3 (g15_ok _ _ _ _ ) hP rfl rfl rfl rfl fun x6_3 T2 n2 h4 ρ its hS => ?_
 obtain ⟨hK, h5⟩ := KeepS.step hR hS h4
 refine LV.nextM [2] (by kernel_rfl) (fun _ => hK) ?_
 refine MV.force (i := 3) rfl ?_
 refine LV.call hS h5 (g45_ok _ _ _ _ _ ) hP rfl rfl rfl rfl fun x8_4 T3 n3 h6 ρ its hS => ?_
 refine LV.nextM [] (by kernel_rfl) (fun z => absurd rfl z) ?_
 refine MV.force (i := 4) rfl ?_
 refine as_ ?_
 refine LV.nextM [] (by kernel_rfl) (fun z => absurd rfl z) ?_
 replace hS := hR.up hS
 replace hP := hP0
 refine mdn ?_
 refine CV.ret ?_
 cases h6
 exact PV.ret (by simp) Tryz.results16 hS (RS.tmp rfl RS.nil) rfl
noncomputable def g4_k2 (c1a : AV) (c1b : AV) (c1 : AV) (c2a : AV) (c2b : AV) (c2 : AV) (ro : List HT) (lp1 : AV → AV → AV → AV → AV → AV → AV → HT → Nat → R) (y0 y1 y4 y5 y6 y7 y8 : AV) (T3 : HT) (n3 : Nat) : R :=
 addK Tryz.prog 3 (.tmp 30) (.const (.int .i64 (.ofNat 1))) 40028 y8 (.lit (.int .i64 (.ofNat 1))) fun x31_5 =>
 lp1 y0 y1 y4 y5 y6 y7 x31_5 T3 n3
noncomputable def g4_k7 (c1a : AV) (c1b : AV) (c1 : AV) (c2a : AV) (c2b : AV) (c2 : AV) (ro : List HT) (y1 y4 y5 y7 y10 y11 y12 y91 : AV) (T9 : HT) (n9 : Nat) : R :=
 .ok (.val y91) T9 n9
noncomputable def g4_k6 (c1a : AV) (c1b : AV) (c1 : AV) (c2a : AV) (c2b : AV) (c2 : AV) (ro : List HT) (y1 y4 y5 y7 y10 y11 y12 y86 : AV) (T8 : HT) (n8 : Nat) : R :=
 condK 40089 y86
 (
  callK (g12 ro y10 T8 n8) fun x89_21 T10 n10 =>
  bin0 Tryz.prog .eql 25 (.tmp 89) (.const (.nilIface)) 40092 x89_21 (.lit (.nilIface)) fun x90_22 =>
  g4_k7 c1a c1b c1 c2a c2b c2 ro y1 y4 y5 y7 y10 y11 y12 x90_22 T10 n10
 )
 (
  g4_k7 c1a c1b c1 c2a c2b c2 ro y1 y4 y5 y7 y10 y11 y12 (.lit (.bool false)) T8 n8
 )
noncomputable def g4_k11 (c1a : AV) (c1b : AV) (c1 : AV) (c2a : AV) (c2b : AV) (c2 : AV) (ro : List HT) (y4 y118 : AV) (T14 : HT) (n14 : Nat) : R :=
 .ok (.val y118) T14 n14
noncomputable def g4_k10 (c1a : AV) (c1b : AV) (c1 : AV) (c2a : AV) (c2b : AV) (c2 : AV) (ro : List HT) (y4 y11 y14 y112 : AV) (T13 : HT) (n13 : Nat) : R :=
 condK 40109 y112
 (
  callK (g17 ro (.lit (.int .i64 (.ofNat 108))) y14 T13 n13) fun x116_26 T15 n15 =>
  callK (g16 ro y11 x116_26 T15 n15) fun x117_27 T16 n16 =>
  g4_k11 c1a c1b c1 c2a c2b c2 ro y4 x117_27 T16 n16
 )
 (
  g4_k11 c1a c1b c1 c2a c2b c2 ro y4 (.lit (.bool false)) T13 n13
 )
noncomputable def g4_k9 (c1a : AV) (c1b : AV) (c1 : AV) (c2a : AV) (c2b : AV) (c2 : AV) (ro : List HT) (y4 y5 y10 y11 y14 : AV) (T12 : HT) (n12 : Nat) : R :=
 condK 40116 y5
 (
  lenSK 40118 y10 fun x110_28 =>
  eqK Tryz.prog 3 (.tmp 110) (.const (.int .i64 (.ofNat 0))) 40119 x110_28 (.lit (.int .i64 (.ofNat 0))) fun x111_29 =>
  g4_k10 c1a c1b c1 c2a c2b c2 ro y4 y11 y14 x111_29 T12 n12
 )
 (
  g4_k10 c1a c1b c1 c2a c2b c2 ro y4 y11 y14 (.lit (.bool false)) T12 n12
 )
noncomputable def g4_k8 (c1a : AV) (c1b : AV) (c1 : AV) (c2a : AV) (c2b : AV) (c2 : AV) (ro : List HT) (y1 y4 y5 y7 y10 y11 y12 y14 : AV) (T11 : HT) (n11 : Nat) : R :=
 eqK Tryz.prog 3 (.tmp 100) (.const (.int .i64 (.ofNat 3))) 40123 y1 (.lit (.int .i64 (.ofNat 3))) fun x101_30 =>
 condK 40124 x101_30
 (
  bin0 Tryz.prog .mul 3 (.tmp 102) (.tmp 103) 40127 y12 y7 fun x104_31 =>
  addK Tryz.prog 3 (.const (.int .i64 (.ofNat 4))) (.tmp 104) 40128 (.lit (.int .i64 (.ofNat 4))) x104_31 fun x105_32 =>
  addK Tryz.prog 3 (.tmp 105) (.const (.int .i64 (.ofNat 2))) 40129 x105_32 (.lit (.int .i64 (.ofNat 2))) fun x106_33 =>
  g4_k9 c1a c1b c1 c2a c2b c2 ro y4 y5 y10 y11 x106_33 T11 n11
 )
 (
  g4_k9 c1a c1b c1 c2a c2b c2 ro y4 y5 y10 y11 y14 T11 n11
 )
noncomputable def g4_k5 (c1a : AV) (c1b : AV) (c1 : AV) (c2a : AV) (c2b : AV) (c2 : AV) (ro : List HT) (y1 y4 y5 y7 y10 y11 y12 y13 : AV) (T7 : HT) (n7 : Nat) : R :=
 leK Tryz.prog 3 (.tmp 79) (.tmp 80) 40083 y13 y12 fun x81_20 =>
 condK 40084 x81_20
 (
  condK 40095 y5
  (
   bin0 Tryz.prog .eql 25 (.tmp 84) (.const (.nilIface)) 40097 y11 (.lit (.nilIface)) fun x85_23 =>
   g4_k6 c1a c1b c1 c2a c2b c2 ro y1 y4 (.lit (.bool true)) y7 y10 y11 y12 x85_23 T7 n7
  )
  (
   g4_k6 c1a c1b c1 c2a c2b c2 ro y1 y4 (.lit (.bool false)) y7 y10 y11 y12 (.lit (.bool false)) T7 n7
  )
 )
 (
  bin0 Tryz.prog .mul 3 (.tmp 92) (.tmp 93) 40102 y12 y7 fun x94_24 =>
  addK Tryz.prog 3 (.const (.int .i64 (.ofNat 4))) (.tmp 94) 40103 (.lit (.int .i64 (.ofNat 4))) x94_24 fun x95_25 =>
  eqK Tryz.prog 3 (.tmp 96) (.const (.int .i64 (.ofNat 2))) 40132 y1 (.lit (.int .i64 (.ofNat 2))) fun x97_34 =>
  condK 40133 x97_34
  (
   addK Tryz.prog 3 (.const (.int .i64 (.ofNat 4))) (.tmp 98) 40135 (.lit (.int .i64 (.ofNat 4))) y12 fun x99_35 =>
   g4_k8 c1a c1b c1 c2a c2b c2 ro y1 y4 y5 y7 y10 y11 y12 x99_35 T7 n7
  )
  (
   g4_k8 c1a c1b c1 c2a c2b c2 ro y1 y4 y5 y7 y10 y11 y12 x95_25 T7 n7
  )
 )
noncomputable def g4_k12 (c1a : AV) (c1b : AV) (c1 : AV) (c2a : AV) (c2b : AV) (c2 : AV) (ro : List HT) (y1 y4 y5 y7 y10 y11 y13 y78 : AV) (T17 : HT) (n17 : Nat) : R :=
 .ok (.val y78) T17 n17
noncomputable def g4_k4 (c1a : AV) (c1b : AV) (c1 : AV) (c2a : AV) (c2b : AV) (c2 : AV) (ro : List HT) (lp3 : AV → AV → AV → AV → AV → AV → AV → HT → Nat → R) (y0 y1 y4 y5 y6 y7 y9 y55 : AV) (T5 : HT) (n5 : Nat) : R :=
 condK 40064 y55
 (
  addSK Tryz.prog 9 (.tmp 58) (.const (.string ⟨⟨[41]⟩⟩)) 40066 y6 (.lit (.string ⟨⟨[41]⟩⟩)) fun x59_15 =>
  addK Tryz.prog 3 (.tmp 56) (.const (.int .i64 (.ofNat 1))) 40069 y9 (.lit (.int .i64 (.ofNat 1))) fun x57_16 =>
  lp3 y0 y1 y4 y5 x59_15 y7 x57_16 T5 n5
 )
 (
  callK (g11 ro y6 T5 n5) fun x62_17 T6 n6 =>
  exK 40074 x62_17 0 fun x63_18 =>
  exK 40075 x62_17 1 fun x64_19 =>
  eqK Tryz.prog 3 (.tmp 66) (.const (.int .i64 (.ofNat 2))) 40138 y1 (.lit (.int .i64 (.ofNat 2))) fun x67_36 =>
  condK 40139 x67_36
  (
   bin0 Tryz.prog .mul 3 (.const (.int .i64 (.ofNat 2))) (.tmp 68) 40141 (.lit (.int .i64 (.ofNat 2))) y0 fun x69_37 =>
   gtK Tryz.prog 3 (.tmp 70) (.const (.int .i64 (.ofNat 60))) 40144 y0 (.lit (.int .i64 (.ofNat 60))) fun x71_38 =>
   condK 40145 x71_38
   (
    condK 40149 y5
    (
     callK (g15 ro x64_19 T6 n6) fun x75_39 T18 n18 =>
     fdK 40152 x75_39 0 fun x76_40 =>
     eqK Tryz.prog 3 (.tmp 76) (.const (.int .i64 (.ofNat 101))) 40153 x76_40 (.lit (.int .i64 (.ofNat 101))) fun x77_41 =>
     g4_k12 c1a c1b c1 c2a c2b c2 ro y1 y4 (.lit (.bool true)) y7 x63_18 x64_19 x69_37 x77_41 T18 n18
    )
    (
     g4_k12 c1a c1b c1 c2a c2b c2 ro y1 y4 (.lit (.bool false)) y7 x63_18 x64_19 x69_37 (.lit (.bool false)) T6 n6
    )
   )
   (
    g4_k5 c1a c1b c1 c2a c2b c2 ro y1 y4 y5 y7 x63_18 x64_19 (.lit (.int .i64 (.ofNat 60))) x69_37 T6 n6
   )
  )
  (
   g4_k5 c1a c1b c1 c2a c2b c2 ro y1 y4 y5 y7 x63_18 x64_19 (.lit (.int .i64 (.ofNat 60))) y0 T6 n6
  )
 )
noncomputable def g4_b3 (c1a : AV) (c1b : AV) (c1 : AV) (c2a : AV) (c2b : AV) (c2 : AV) (ro : List HT) (lp3 : AV → AV → AV → AV → AV → AV → AV → HT → Nat → R) (y0 y1 y4 y5 y6 y7 y9 : AV) (T4 : HT) (n4 : Nat) : R :=
 ltK Tryz.prog 3 (.tmp 49) (.tmp 50) 40062 y9 y0 fun x51_14 =>
 condK 40156 x51_14
 (
  eqK Tryz.prog 3 (.tmp 53) (.const (.int .i64 (.ofNat 2))) 40158 y1 (.lit (.int .i64 (.ofNat 2))) fun x54_42 =>
  g4_k4 c1a c1b c1 c2a c2b c2 ro lp3 y0 y1 y4 y5 y6 y7 y9 x54_42 T4 n4
 )
 (
  g4_k4 c1a c1b c1 c2a c2b c2 ro lp3 y0 y1 y4 y5 y6 y7 y9 (.lit (.bool false)) T4 n4
 )
noncomputable def g4_b1 (c1a : AV) (c1b : AV) (c1 : AV) (c2a : AV) (c2b : AV) (c2 : AV) (ro : List HT) (lp1 : AV → AV → AV → AV → AV → AV → AV → HT → Nat → R) (y0 y1 y4 y5 y6 y7 y8 : AV) (T2 : HT) (n2 : Nat) : R :=
 ltK Tryz.prog 3 (.tmp 27) (.tmp 28) 40025 y8 y0 fun x29_4 =>
 condK 40026 x29_4
 (
  eqK Tryz.prog 3 (.tmp 32) (.const (.int .i64 (.ofNat 0))) 40031 y1 (.lit (.int .i64 (.ofNat 0))) fun x36_6 =>
  condK 40033 x36_6
  (
   addSK Tryz.prog 9 (.tmp 37) (.const (.string ⟨⟨[45]⟩⟩)) 40035 y6 (.lit (.string ⟨⟨[45]⟩⟩)) fun x38_7 =>
   g4_k2 c1a c1b c1 c2a c2b c2 ro lp1 y0 y1 y4 y5 x38_7 y7 y8 T2 n2
  )
  (
   eqK Tryz.prog 3 (.tmp 32) (.const (.int .i64 (.ofNat 1))) 40037 y1 (.lit (.int .i64 (.ofNat 1))) fun x40_8 =>
   condK 40039 x40_8
   (
    addSK Tryz.prog 9 (.tmp 41) (.const (.string ⟨⟨[110, 111, 116, 32]⟩⟩)) 40041 y6 (.lit (.string ⟨⟨[110, 111, 116, 32]⟩⟩)) fun x42_9 =>
    g4_k2 c1a c1b c1 c2a c2b c2 ro lp1 y0 y1 y4 y5 x42_9 (.lit (.int .i64 (.ofNat 4))) y8 T2 n2
   )
   (
    eqK Tryz.prog 3 (.tmp 32) (.const (.int .i64 (.ofNat 2))) 40044 y1 (.lit (.int .i64 (.ofNat 2))) fun x44_10 =>
    condK 40046 x44_10
    (
     addSK Tryz.prog 9 (.tmp 45) (.const (.string ⟨⟨[40, 45]⟩⟩)) 40048 y6 (.lit (.string ⟨⟨[40, 45]⟩⟩)) fun x46_11 =>
     g4_k2 c1a c1b c1 c2a c2b c2 ro lp1 y0 y1 y4 y5 x46_11 (.lit (.int .i64 (.ofNat 2))) y8 T2 n2
    )
    (
     addSK Tryz.prog 9 (.tmp 33) (.const (.string ⟨⟨[49, 32, 105, 102, 32, 50, 32, 101, 108, 115, 101, 32]⟩⟩)) 40052 y6 (.lit (.string ⟨⟨[49, 32, 105, 102, 32, 50, 32, 101, 108, 115, 101, 32]⟩⟩)) fun x34_12 =>
     g4_k2 c1a c1b c1 c2a c2b c2 ro lp1 y0 y1 y4 y5 x34_12 (.lit (.int .i64 (.ofNat 12))) y8 T2 n2
    )
   )
  )
 )
 (
  addSK Tryz.prog 9 (.tmp 47) (.const (.string ⟨⟨[121]⟩⟩)) 40056 y6 (.lit (.string ⟨⟨[121]⟩⟩)) fun x48_13 =>
  lpf7 40059 (g4_b3 c1a c1b c1 c2a c2b c2 ro) 100000 y0 y1 y4 y5 x48_13 y7 (.lit (.int .i64 (.ofNat 0))) T2 n2
 )
noncomputable def g4 (c1a : AV) (c1b : AV) (c1 : AV) (c2a : AV) (c2b : AV) (c2 : AV) (ro : List HT) (q0 q1 : AV) (T : HT) (nx : Nat) : R :=
 callK (.ok (.val (.lit (.bool true))) T nx) fun x15_1 T1 n1 =>
 notK 40005 x15_1 fun x17_2 =>
 condK 40006 x17_2
 (
  .bad 40007
 )
 (
  addK Tryz.prog 3 (.tmp 21) (.const (.int .i64 (.ofNat 1))) 40012 c1 (.lit (.int .i64 (.ofNat 1))) fun x22_3 =>
  lpf7 40022 (g4_b1 c1a c1b c1 c2a c2b c2 ro) 100000 x22_3 c2 (.lit (.bool false)) x15_1 (.lit (.string ⟨⟨[120, 32, 61, 32]⟩⟩)) (.lit (.int .i64 (.ofNat 1))) (.lit (.int .i64 (.ofNat 0))) T1 n1
 )
theorem g4_ok (c1a : AV) (c1b : AV) (c1 : AV) (c2a : AV) (c2b : AV) (c2 : AV) (q0 q1 : AV) (hOc1a : ∀ (W : World → Prop) (ρ : Rho) (af : AF), evalA af (.tmp 18) = some q0 → VAL Tryz.prog W ρ af (.binOp .rem 3 (.tmp 18) (.const (.int .i64 (.ofNat 80))) 3) c1a) (hOc1b : ∀ (W : World → Prop) (ρ : Rho) (af : AF), evalA af (.tmp 19) = some c1a → VAL Tryz.prog W ρ af (.binOp .add 3 (.tmp 19) (.const (.int .i64 (.ofNat 80))) 3) c1b) (hOc1 : ∀ (W : World → Prop) (ρ : Rho) (af : AF), evalA af (.tmp 20) = some c1b → VAL Tryz.prog W ρ af (.binOp .rem 3 (.tmp 20) (.const (.int .i64 (.ofNat 80))) 3) c1) (hOc2a : ∀ (W : World → Prop) (ρ : Rho) (af : AF), evalA af (.tmp 23) = some q1 → VAL Tryz.prog W ρ af (.binOp .rem 3 (.tmp 23) (.const (.int .i64 (.ofNat 4))) 3) c2a) (hOc2b : ∀ (W : World → Prop) (ρ : Rho) (af : AF), evalA af (.tmp 24) = some c2a → VAL Tryz.prog W ρ af (.binOp .add 3 (.tmp 24) (.const (.int .i64 (.ofNat 4))) 3) c2b) (hOc2 : ∀ (W : World → Prop) (ρ : Rho) (af : AF), evalA af (.tmp 25) = some c2b → VAL Tryz.prog W ρ af (.binOp .rem 3 (.tmp 25) (.const (.int .i64 (.ofNat 4))) 3) c2) (ro : List HT) (T : HT) (nx : Nat) (hF : GOk Tryz.prog envE 10 [] ro T nx (.ok (.val (.lit (.bool true))) T nx)) : GOk Tryz.prog envE 4 [q0, q1] ro T nx (g4 c1a c1b c1 c2a c2b c2 ro q0 q1 T nx) := by
 refine GOk.of_body Tryz.func4 rfl Tryz.ntmps4 (by kernel_rfl) rfl fun r T' n' h1 w0 base ρ0 its hS hP => ?_
 have X : CtxW envE ρ0 ro r T' n' := trivial
 unfold g4 at h1
 refine sr ?_
 refine as_ ?_
 refine dn ?_
 refine sr ?_
 refine LV.call hS h1 (hF) hP rfl rfl rfl rfl fun x15_1 T1 n1 h2 ρ its hS => ?_
 refine as_ ?_
 refine dn ?_
 refine CV.seq ?_
 refine sr ?_
 refine mv ?_
 refine vy (V.not h2 rfl) fun x17_2 h3 => ?_
 refine dn ?_
 refine CV.cond h3 rfl (fun e h4 => ?_) (fun e h4 => ?_)
 ·
  clear h1 h2 h3
  subst e
  cases h4
 ·
  clear h1 h2 h3
  subst e
  refine CV.skip ?_
  refine PV.thenN ?_
  refine sr ?_
  refine mv ?_
  refine sv (hOc1a _ _ _ rfl) ?_
  refine sv (hOc1b _ _ _ rfl) ?_
  refine sv (hOc1 _ _ _ rfl) ?_
  refine vy (V.add h4 rfl rfl) fun x22_3 h5 => ?_
  refine as_ ?_
  refine dn ?_
  refine sr ?_
  refine mv ?_
  refine sv (hOc2a _ _ _ rfl) ?_
  refine sv (hOc2b _ _ _ rfl) ?_
  refine sv (hOc2 _ _ _ rfl) ?_
  refine as_ ?_
  refine dn ?_
  refine sr ?_
  refine as_ ?_
  refine dn ?_
  refine sr ?_
  refine as_ ?_
  refine dn ?_
  refine CV.seq ?_
  refine sr ?_
  refine as_ ?_
  refine dn ?_
  refine CV.block ?_
  refine cl7 X 0 1 4 5 6 7 8 [] hS h5 ⟨rfl, rfl, rfl, rfl, rfl, rfl, rfl, trivial⟩ ?_
  intro f1 y0 y1 y4 y5 y6 y7 y8 T2 n2 ρ its hS h6
  unfold g4_b1 at h6
  clear h4 h5
  refine CV.seq ?_
  refine sr ?_
  refine mv ?_
  refine mv ?_
  refine vy (V.lt h6 rfl rfl) fun x29_4 h7 => ?_
  refine dn ?_
  refine CV.cond h7 rfl (fun e h8 => ?_) (fun e h8 => ?_)
  ·
   clear h6 h7
   subst e
   refine CV.skip ?_
   refine PV.thenN ?_
   refine cs7 X 0 1 4 5 6 7 8 [] (g4_k2 c1a c1b c1 c2a c2b c2 ro (lpf7 40022 (g4_b1 c1a c1b c1 c2a c2b c2 ro) f1)) ?_ ?_
   ·
    refine CV.block ?_
    refine sr ?_
    refine mv ?_
    refine dn ?_
    refine CV.block ?_
    refine sr ?_
    refine vy (V.eq h8 rfl rfl) fun x36_6 h11 => ?_
    refine as_ ?_
    refine dn ?_
    refine CV.cond h11 rfl (fun e h12 => ?_) (fun e h12 => ?_)
    ·
     clear h8 h11
     subst e
     refine CV.region ?_
     refine mv ?_
     refine vy (V.addS h12 rfl rfl) fun x38_7 h13 => ?_
     refine as_ ?_
     refine LV.done ?_
     refine PV.blockN ?_
     refine PV.blockN ?_
     exact pa7 hS h13 ⟨rfl, rfl, rfl, rfl, rfl, rfl, rfl, trivial⟩
    ·
     clear h8 h11
     subst e
     refine sr ?_
     refine vy (V.eq h12 rfl rfl) fun x40_8 h14 => ?_
     refine as_ ?_
     refine dn ?_
     refine CV.cond h14 rfl (fun e h15 => ?_) (fun e h15 => ?_)
     ·
      clear h12 h14
      subst e
      refine sr ?_
      refine mv ?_
      refine vy (V.addS h15 rfl rfl) fun x42_9 h16 => ?_
      refine as_ ?_
      refine dn ?_
      refine CV.region ?_
      refine as_ ?_
      refine LV.done ?_
      refine PV.blockN ?_
      refine PV.blockN ?_
      exact pa7 hS h16 ⟨rfl, rfl, rfl, rfl, rfl, rfl, rfl, trivial⟩
     ·
      clear h12 h14
      subst e
      refine sr ?_
      refine vy (V.eq h15 rfl rfl) fun x44_10 h17 => ?_
      refine as_ ?_
      refine dn ?_
      refine CV.cond h17 rfl (fun e h18 => ?_) (fun e h18 => ?_)
      ·
       clear h15 h17
       subst e
       refine sr ?_
       refine mv ?_
       refine vy (V.addS h18 rfl rfl) fun x46_11 h19 => ?_
       refine as_ ?_
       refine dn ?_
       refine CV.region ?_
       refine as_ ?_
       refine LV.done ?_
       refine PV.blockN ?_
       refine PV.blockN ?_
       exact pa7 hS h19 ⟨rfl, rfl, rfl, rfl, rfl, rfl, rfl, trivial⟩
      ·
       clear h15 h17
       subst e
       refine sr ?_
       refine mv ?_
       refine vy (V.addS h18 rfl rfl) fun x34_12 h20 => ?_
       refine as_ ?_
       refine dn ?_
       refine CV.region ?_
       refine as_ ?_
       refine LV.done ?_
       refine PV.blockN ?_
       refine PV.blockN ?_
       exact pa7 hS h20 ⟨rfl, rfl, rfl, rfl, rfl, rfl, rfl, trivial⟩
   ·
    intro y0 y1 y4 y5 y6 y7 y8 T3 n3 ρ its hS h9
    unfold g4_k2 at h9
    clear h8
    refine CV.region ?_
    refine mv ?_
    refine vy (V.add h9 rfl rfl) fun x31_5 h10 => ?_
    refine as_ ?_
    refine LV.done ?_
    exact pb7 hS h10 ⟨rfl, rfl, rfl, rfl, rfl, rfl, rfl, trivial⟩
  ·
   clear h6 h7
   subst e
   refine CV.exit ?_
   refine PV.thenE ?_
   refine PV.thenE ?_
   refine PV.blockE ?_
   refine PV.thenN ?_
   refine sr ?_
   refine mv ?_
   refine vy (V.addS h8 rfl rfl) fun x48_13 h21 => ?_
   refine as_ ?_
   refine dn ?_
   refine CV.seq ?_
   refine sr ?_
   refine as_ ?_
   refine dn ?_
   refine CV.block ?_
   refine cl7 X 0 1 4 5 6 7 9 [] hS h21 ⟨rfl, rfl, rfl, rfl, rfl, rfl, rfl, trivial⟩ ?_
   intro f3 y0 y1 y4 y5 y6 y7 y9 T4 n4 ρ its hS h22
   unfold g4_b3 at h22
   clear h8 h21
   refine CV.seq ?_
   refine sr ?_
   refine mv ?_
   refine mv ?_
   refine vy (V.lt h22 rfl rfl) fun x51_14 h23 => ?_
   refine mv ?_
   refine ls8 X 0 1 4 5 6 7 9 55 [] (g4_k4 c1a c1b c1 c2a c2b c2 ro (lpf7 40059 (g4_b3 c1a c1b c1 c2a c2b c2 ro) f3)) 3 ?_ ?_
   ·
    rcases condK_inv h23 with ⟨e, h71⟩ | ⟨e, h71⟩
    ·
     clear h22 h23
     subst e
     refine mv ?_
     refine vy (V.eq h71 rfl rfl) fun x54_42 h72 => ?_
     refine pu ?_
     exact la8 hS h72 ⟨rfl, rfl, rfl, rfl, rfl, rfl, rfl, rfl, trivial⟩
    ·
     clear h22 h23
     subst e
     refine sk ?_
     refine sk ?_
     refine pu ?_
     exact la8 hS h71 ⟨rfl, rfl, rfl, rfl, rfl, rfl, rfl, rfl, trivial⟩
   ·
    intro y0 y1 y4 y5 y6 y7 y9 y55 T5 n5 ρ its hS h24
    unfold g4_k4 at h24
    clear h22 h23
    refine dn ?_
    refine CV.cond h24 rfl (fun e h25 => ?_) (fun e h25 => ?_)
    ·
     clear h24
     subst e
     refine CV.skip ?_
     refine PV.thenN ?_
     refine CV.seq ?_
     refine CV.block ?_
     refine CV.region ?_
     refine mv ?_
     refine vy (V.addS h25 rfl rfl) fun x59_15 h26 => ?_
     refine as_ ?_
     refine LV.done ?_
     refine PV.blockN ?_
     refine PV.thenN ?_
     refine CV.region ?_
     refine mv ?_
     refine vy (V.add h26 rfl rfl) fun x57_16 h27 => ?_
     refine as_ ?_
     refine LV.done ?_
     exact pb7 hS h27 ⟨rfl, rfl, rfl, rfl, rfl, rfl, rfl, trivial⟩
    ·
     clear h24
     subst e
     refine CV.exit ?_
     refine PV.thenE ?_
     refine PV.thenE ?_
     refine PV.blockE ?_
     refine PV.thenN ?_
     refine sr ?_
     refine mv ?_
     refine LV.call hS h25 (g11_ok _ _ _ _ ) hP rfl rfl rfl rfl fun x62_17 T6 n6 h28 ρ its hS => ?_
     refine mv ?_
     refine vy (V.ex h28 rfl) fun x63_18 h29 => ?_
     refine vy (V.ex h29 rfl) fun x64_19 h30 => ?_
     refine as_ ?_
     refine as_ ?_
     refine dn ?_
     refine sr ?_
     refine as_ ?_
     refine dn ?_
     refine sr ?_
     refine mv ?_
     refine as_ ?_
     refine dn ?_
     refine cs8 X 1 4 5 7 10 11 12 13 [] (g4_k5 c1a c1b c1 c2a c2b c2 ro) ?_ ?_
     ·
      refine sr ?_
      refine mv ?_
      refine vy (V.eq h30 rfl rfl) fun x67_36 h61 => ?_
      refine dn ?_
      refine CV.cond h61 rfl (fun e h62 => ?_) (fun e h62 => ?_)
      ·
       clear h25 h28 h29 h30 h61
       subst e
       refine sr ?_
       refine mv ?_
       refine vy (V.bin0 h62 rfl rfl) fun x69_37 h63 => ?_
       refine as_ ?_
       refine dn ?_
       refine sr ?_
       refine mv ?_
       refine vy (V.gt h63 rfl rfl) fun x71_38 h64 => ?_
       refine dn ?_
       refine CV.cond h64 rfl (fun e h65 => ?_) (fun e h65 => ?_)
       ·
        clear h62 h63 h64
        subst e
        refine sr ?_
        refine mv ?_
        refine mv ?_
        refine ls8 X 1 4 5 7 10 11 13 78 [(12, (.lit (.int .i64 (.ofNat 60))))] (g4_k12 c1a c1b c1 c2a c2b c2 ro) 5 ?_ ?_
        ·
         rcases condK_inv h65 with ⟨e, h67⟩ | ⟨e, h67⟩
         ·
          clear h65
          subst e
          refine mv ?_
          refine LV.call hS h67 (g15_ok _ _ _ _ ) hP rfl rfl rfl rfl fun x75_39 T18 n18 h68 ρ its hS => ?_
          refine vy (V.fd h68 rfl Pdf.fd36_0) fun x76_40 h69 => ?_
          refine vy (V.eq h69 rfl rfl) fun x77_41 h70 => ?_
          refine pu ?_
          exact la8 hS h70 ⟨rfl, rfl, rfl, rfl, rfl, rfl, rfl, rfl, rfl, trivial⟩
         ·
          clear h65
          subst e
          refine sk ?_
          refine sk ?_
          refine sk ?_
          refine sk ?_
          refine pu ?_
          exact la8 hS h67 ⟨rfl, rfl, rfl, rfl, rfl, rfl, rfl, rfl, rfl, trivial⟩
        ·
         intro y1 y4 y5 y7 y10 y11 y13 y78 T17 n17 ρ its hS h66
         unfold g4_k12 at h66
         clear h65
         refine as_ ?_
         refine dn ?_
         refine CV.ret ?_
         refine PV.thenR ?_
         cases h66
         exact PV.ret (by simp) Tryz.results4 hS (RS.tmp rfl RS.nil) rfl
       ·
        clear h62 h63 h64
        subst e
        refine CV.skip ?_
        exact pa8 hS h65 ⟨rfl, rfl, rfl, rfl, rfl, rfl, rfl, rfl, trivial⟩
      ·
       clear h25 h28 h29 h30 h61
       subst e
       refine CV.skip ?_
       exact pa8 hS h62 ⟨rfl, rfl, rfl, rfl, rfl, rfl, rfl, rfl, trivial⟩
     ·
      intro y1 y4 y5 y7 y10 y11 y12 y13 T7 n7 ρ its hS h31
      unfold g4_k5 at h31
      clear h25 h28 h29 h30
      refine CV.seq ?_
      refine sr ?_
      refine mv ?_
      refine mv ?_
      refine vy (V.le h31 rfl rfl) fun x81_20 h32 => ?_
      refine dn ?_
      refine CV.cond h32 rfl (fun e h33 => ?_) (fun e h33 => ?_)
      ·
       clear h31 h32
       subst e
       refine sr ?_
       refine mv ?_
       refine mv ?_
       refine ls8 X 1 4 5 7 10 11 12 86 [] (g4_k6 c1a c1b c1 c2a c2b c2 ro) 3 ?_ ?_
       ·
        rcases condK_inv h33 with ⟨e, h39⟩ | ⟨e, h39⟩
        ·
         clear h33
         subst e
         refine mv ?_
         refine vy (V.bin0 h39 rfl rfl) fun x85_23 h40 => ?_
         refine pu ?_
         exact la8 hS h40 ⟨rfl, rfl, rfl, rfl, rfl, rfl, rfl, rfl, trivial⟩
        ·
         clear h33
         subst e
         refine sk ?_
         refine sk ?_
         refine pu ?_
         exact la8 hS h39 ⟨rfl, rfl, rfl, rfl, rfl, rfl, rfl, rfl, trivial⟩
       ·
        intro y1 y4 y5 y7 y10 y11 y12 y86 T8 n8 ρ its hS h34
        unfold g4_k6 at h34
        clear h33
        refine mv ?_
        refine ls8 X 1 4 5 7 10 11 12 91 [] (g4_k7 c1a c1b c1 c2a c2b c2 ro) 4 ?_ ?_
        ·
         rcases condK_inv h34 with ⟨e, h36⟩ | ⟨e, h36⟩
         ·
          clear h34
          subst e
          refine mv ?_
          refine LV.call hS h36 (g12_ok _ _ _ _ ) hP rfl rfl rfl rfl fun x89_21 T10 n10 h37 ρ its hS => ?_
          refine vy (V.bin0 h37 rfl rfl) fun x90_22 h38 => ?_
          refine pu ?_
          exact la8 hS h38 ⟨rfl, rfl, rfl, rfl, rfl, rfl, rfl, rfl, trivial⟩
         ·
          clear h34
          subst e
          refine sk ?_
          refine sk ?_
          refine sk ?_
          refine pu ?_
          exact la8 hS h36 ⟨rfl, rfl, rfl, rfl, rfl, rfl, rfl, rfl, trivial⟩
        ·
         intro y1 y4 y5 y7 y10 y11 y12 y91 T9 n9 ρ its hS h35
         unfold g4_k7 at h35
         clear h34
         refine as_ ?_
         refine dn ?_
         refine CV.ret ?_
         refine PV.thenR ?_
         cases h35
         exact PV.ret (by simp) Tryz.results4 hS (RS.tmp rfl RS.nil) rfl
      ·
       clear h31 h32
       subst e
       refine CV.skip ?_
       refine PV.thenN ?_
       refine sr ?_
       refine mv ?_
       refine mv ?_
       refine vy (V.bin0 h33 rfl rfl) fun x94_24 h41 => ?_
       refine vy (V.add h41 rfl rfl) fun x95_25 h42 => ?_
       refine as_ ?_
       refine dn ?_
       refine cs8 X 1 4 5 7 10 11 12 14 [] (g4_k8 c1a c1b c1 c2a c2b c2 ro) ?_ ?_
       ·
        refine sr ?_
        refine mv ?_
        refine vy (V.eq h42 rfl rfl) fun x97_34 h58 => ?_
        refine dn ?_
        refine CV.cond h58 rfl (fun e h59 => ?_) (fun e h59 => ?_)
        ·
         clear h33 h41 h42 h58
         subst e
         refine CV.region ?_
         refine mv ?_
         refine vy (V.add h59 rfl rfl) fun x99_35 h60 => ?_
         refine as_ ?_
         refine LV.done ?_
         exact pa8 hS h60 ⟨rfl, rfl, rfl, rfl, rfl, rfl, rfl, rfl, trivial⟩
        ·
         clear h33 h41 h42 h58
         subst e
         refine CV.skip ?_
         exact pa8 hS h59 ⟨rfl, rfl, rfl, rfl, rfl, rfl, rfl, rfl, trivial⟩
       ·
        intro y1 y4 y5 y7 y10 y11 y12 y14 T11 n11 ρ its hS h43
        unfold g4_k8 at h43
        clear h33 h41 h42
        refine cs5 X 4 5 10 11 14 [] (g4_k9 c1a c1b c1 c2a c2b c2 ro) ?_ ?_
        ·
         refine sr ?_
         refine mv ?_
         refine vy (V.eq h43 rfl rfl) fun x101_30 h53 => ?_
         refine dn ?_
         refine CV.cond h53 rfl (fun e h54 => ?_) (fun e h54 => ?_)
         ·
          clear h43 h53
          subst e
          refine CV.region ?_
          refine mv ?_
          refine mv ?_
          refine vy (V.bin0 h54 rfl rfl) fun x104_31 h55 => ?_
          refine vy (V.add h55 rfl rfl) fun x105_32 h56 => ?_
          refine vy (V.add h56 rfl rfl) fun x106_33 h57 => ?_
          refine as_ ?_
          refine LV.done ?_
          exact pa5 hS h57 ⟨rfl, rfl, rfl, rfl, rfl, trivial⟩
         ·
          clear h43 h53
          subst e
          refine CV.skip ?_
          exact pa5 hS h54 ⟨rfl, rfl, rfl, rfl, rfl, trivial⟩
        ·
         intro y4 y5 y10 y11 y14 T12 n12 ρ its hS h44
         unfold g4_k9 at h44
         clear h43
         refine sr ?_
         refine mv ?_
         refine mv ?_
         refine ls4 X 4 11 14 112 [] (g4_k10 c1a c1b c1 c2a c2b c2 ro) 4 ?_ ?_
         ·
          rcases condK_inv h44 with ⟨e, h50⟩ | ⟨e, h50⟩
          ·
           clear h44
           subst e
           refine mv ?_
           refine vy (V.lenS h50 rfl Pdf.ls23) fun x110_28 h51 => ?_
           refine vy (V.eq h51 rfl rfl) fun x111_29 h52 => ?_
           refine pu ?_
           exact la4 hS h52 ⟨rfl, rfl, rfl, rfl, trivial⟩
          ·
           clear h44
           subst e
           refine sk ?_
           refine sk ?_
           refine sk ?_
           refine pu ?_
           exact la4 hS h50 ⟨rfl, rfl, rfl, rfl, trivial⟩
         ·
          intro y4 y11 y14 y112 T13 n13 ρ its hS h45
          unfold g4_k10 at h45
          clear h44
          refine mv ?_
          refine ls2 X 4 118 [] (g4_k11 c1a c1b c1 c2a c2b c2 ro) 5 ?_ ?_
          ·
           rcases condK_inv h45 with ⟨e, h47⟩ | ⟨e, h47⟩
           ·
            clear h45
            subst e
            refine mv ?_
            refine mv ?_
            refine LV.call hS h47 (g17_ok _ _ _ _ _ ) hP rfl rfl rfl rfl fun x116_26 T15 n15 h48 ρ its hS => ?_
            refine LV.call hS h48 (g16_ok _ _ _ _ _ ) hP rfl rfl rfl rfl fun x117_27 T16 n16 h49 ρ its hS => ?_
            refine pu ?_
            exact la2 hS h49 ⟨rfl, rfl, trivial⟩
           ·
            clear h45
            subst e
            refine sk ?_
            refine sk ?_
            refine sk ?_
            refine sk ?_
            refine pu ?_
            exact la2 hS h47 ⟨rfl, rfl, trivial⟩
          ·
           intro y4 y118 T14 n14 ρ its hS h46
           unfold g4_k11 at h46
           clear h45
           refine as_ ?_
           refine dn ?_
           refine CV.ret ?_
           cases h46
           exact PV.ret (by simp) Tryz.results4 hS (RS.tmp rfl RS.nil) rfl

end Go.Proofs.YtdepmlcnllofiaaGreatDoor.Pd
