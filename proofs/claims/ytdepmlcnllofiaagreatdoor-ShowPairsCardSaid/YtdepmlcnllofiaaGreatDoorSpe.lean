/-
  Proved here: plain functions that do what the program's functions do, each with its proof.
-/
import Derived.Test.YtdepmlcnllofiaaGreatDoorSpd
namespace Go.Proofs.YtdepmlcnllofiaaGreatDoor.Sp
open Go.EY Go.EX Go.SX Go.RowKit
noncomputable def g45_k4 (ro : List HT) (y37 : AV) (T6 : HT) (n6 : Nat) : R :=
 .ok (.val y37) T6 n6
noncomputable def g45_k3 (ro : List HT) (y2 y3 y30 : AV) (T5 : HT) (n5 : Nat) : R :=
 condK 450014 y30
 (
  faK 450015 y2 4 fun x32_8 =>
  ldK 450016 T5 ro x32_8 fun x33_9 =>
  faK 450017 y3 4 fun x34_10 =>
  ldK 450018 T5 ro x34_10 fun x35_11 =>
  eqSK Tryz.prog 9 (.tmp 33) (.tmp 35) 450019 x33_9 x35_11 fun x36_12 =>
  g45_k4 ro x36_12 T5 n5
 )
 (
  g45_k4 ro (.lit (.bool false)) T5 n5
 )
noncomputable def g45_k2 (ro : List HT) (y2 y3 y23 : AV) (T4 : HT) (n4 : Nat) : R :=
 condK 450022 y23
 (
  faK 450023 y2 3 fun x25_13 =>
  ldK 450024 T4 ro x25_13 fun x26_14 =>
  faK 450025 y3 3 fun x27_15 =>
  ldK 450026 T4 ro x27_15 fun x28_16 =>
  bin0 Tryz.prog .eql 4 (.tmp 26) (.tmp 28) 450027 x26_14 x28_16 fun x29_17 =>
  g45_k3 ro y2 y3 x29_17 T4 n4
 )
 (
  g45_k3 ro y2 y3 (.lit (.bool false)) T4 n4
 )
noncomputable def g45_k1 (ro : List HT) (y2 y3 y16 : AV) (T3 : HT) (n3 : Nat) : R :=
 condK 450030 y16
 (
  faK 450031 y2 2 fun x18_18 =>
  ldK 450032 T3 ro x18_18 fun x19_19 =>
  faK 450033 y3 2 fun x20_20 =>
  ldK 450034 T3 ro x20_20 fun x21_21 =>
  eqK Tryz.prog 3 (.tmp 19) (.tmp 21) 450035 x19_19 x21_21 fun x22_22 =>
  g45_k2 ro y2 y3 x22_22 T3 n3
 )
 (
  g45_k2 ro y2 y3 (.lit (.bool false)) T3 n3
 )
noncomputable def g45 (ro : List HT) (a0 a1 : AV) (T : HT) (nx : Nat) : R :=
 boxK 450001 T nx a0 36 fun x2_1 T1 n1 =>
 boxK 450002 T1 n1 a1 36 fun x3_2 T2 n2 =>
 faK 450004 x2_1 0 fun x5_3 =>
 ldK 450005 T2 ro x5_3 fun x6_4 =>
 faK 450006 x3_2 0 fun x7_5 =>
 ldK 450007 T2 ro x7_5 fun x8_6 =>
 eqK Tryz.prog 3 (.tmp 6) (.tmp 8) 450008 x6_4 x8_6 fun x9_7 =>
 condK 450038 x9_7
 (
  faK 450039 x2_1 1 fun x11_23 =>
  ldK 450040 T2 ro x11_23 fun x12_24 =>
  faK 450041 x3_2 1 fun x13_25 =>
  ldK 450042 T2 ro x13_25 fun x14_26 =>
  bin0 Tryz.prog .eql 4 (.tmp 12) (.tmp 14) 450043 x12_24 x14_26 fun x15_27 =>
  g45_k1 ro x2_1 x3_2 x15_27 T2 n2
 )
 (
  g45_k1 ro x2_1 x3_2 (.lit (.bool false)) T2 n2
 )
theorem g45_ok (ro : List HT) (a0 a1 : AV) (T : HT) (nx : Nat) : GOk Tryz.prog envE 45 [a0, a1] ro T nx (g45 ro a0 a1 T nx) := by
 refine GOk.of_body Tryz.func45 rfl Tryz.ntmps45 (by kernel_rfl) rfl fun r T' n' h1 w0 base ρ0 its hS hP => ?_
 have X : CtxW envE ρ0 ro r T' n' := trivial
 unfold g45 at h1
 refine sr ?_
 refine LV.box hS h1 rfl rfl rfl rfl rfl fun x2_1 T1 n1 h2 ρ its hS hdr => ?_
 refine LV.box hS h2 rfl rfl rfl rfl rfl fun x3_2 T2 n2 h3 ρ its hS hdr => ?_
 refine as_ ?_
 refine dn ?_
 refine sr ?_
 refine vy (V.fa h3 rfl Spf.fo36_0) fun x5_3 h4 => ?_
 refine vy (V.ld hS h4 rfl Spf.one3) fun x6_4 h5 => ?_
 refine vy (V.fa h5 rfl Spf.fo36_0) fun x7_5 h6 => ?_
 refine vy (V.ld hS h6 rfl Spf.one3) fun x8_6 h7 => ?_
 refine vy (V.eq h7 rfl rfl) fun x9_7 h8 => ?_
 refine mv ?_
 refine ls3 X 2 3 16 [(4, (.lit (.bool false)))] (g45_k1 ro) 6 ?_ ?_
 ·
  rcases condK_inv h8 with ⟨e, h31⟩ | ⟨e, h31⟩
  ·
   clear h1 h2 h3 h4 h5 h6 h7 h8
   subst e
   refine vy (V.fa h31 rfl Spf.fo36_1) fun x11_23 h32 => ?_
   refine vy (V.ld hS h32 rfl Spf.one4) fun x12_24 h33 => ?_
   refine vy (V.fa h33 rfl Spf.fo36_1) fun x13_25 h34 => ?_
   refine vy (V.ld hS h34 rfl Spf.one4) fun x14_26 h35 => ?_
   refine vy (V.bin0 h35 rfl rfl) fun x15_27 h36 => ?_
   refine pu ?_
   exact la3 hS h36 ⟨rfl, rfl, rfl, rfl, trivial⟩
  ·
   clear h1 h2 h3 h4 h5 h6 h7 h8
   subst e
   refine sk ?_
   refine sk ?_
   refine sk ?_
   refine sk ?_
   refine sk ?_
   refine pu ?_
   exact la3 hS h31 ⟨rfl, rfl, rfl, rfl, trivial⟩
 ·
  intro y2 y3 y16 T3 n3 ρ its hS h9
  unfold g45_k1 at h9
  clear h1 h2 h3 h4 h5 h6 h7 h8
  refine mv ?_
  refine ls3 X 2 3 23 [(4, (.lit (.bool false)))] (g45_k2 ro) 6 ?_ ?_
  ·
   rcases condK_inv h9 with ⟨e, h25⟩ | ⟨e, h25⟩
   ·
    clear h9
    subst e
    refine vy (V.fa h25 rfl Spf.fo36_2) fun x18_18 h26 => ?_
    refine vy (V.ld hS h26 rfl Spf.one3) fun x19_19 h27 => ?_
    refine vy (V.fa h27 rfl Spf.fo36_2) fun x20_20 h28 => ?_
    refine vy (V.ld hS h28 rfl Spf.one3) fun x21_21 h29 => ?_
    refine vy (V.eq h29 rfl rfl) fun x22_22 h30 => ?_
    refine pu ?_
    exact la3 hS h30 ⟨rfl, rfl, rfl, rfl, trivial⟩
   ·
    clear h9
    subst e
    refine sk ?_
    refine sk ?_
    refine sk ?_
    refine sk ?_
    refine sk ?_
    refine pu ?_
    exact la3 hS h25 ⟨rfl, rfl, rfl, rfl, trivial⟩
  ·
   intro y2 y3 y23 T4 n4 ρ its hS h10
   unfold g45_k2 at h10
   clear h9
   refine mv ?_
   refine ls3 X 2 3 30 [(4, (.lit (.bool false)))] (g45_k3 ro) 6 ?_ ?_
   ·
    rcases condK_inv h10 with ⟨e, h19⟩ | ⟨e, h19⟩
    ·
     clear h10
     subst e
     refine vy (V.fa h19 rfl Spf.fo36_3) fun x25_13 h20 => ?_
     refine vy (V.ld hS h20 rfl Spf.one4) fun x26_14 h21 => ?_
     refine vy (V.fa h21 rfl Spf.fo36_3) fun x27_15 h22 => ?_
     refine vy (V.ld hS h22 rfl Spf.one4) fun x28_16 h23 => ?_
     refine vy (V.bin0 h23 rfl rfl) fun x29_17 h24 => ?_
     refine pu ?_
     exact la3 hS h24 ⟨rfl, rfl, rfl, rfl, trivial⟩
    ·
     clear h10
     subst e
     refine sk ?_
     refine sk ?_
     refine sk ?_
     refine sk ?_
     refine sk ?_
     refine pu ?_
     exact la3 hS h19 ⟨rfl, rfl, rfl, rfl, trivial⟩
   ·
    intro y2 y3 y30 T5 n5 ρ its hS h11
    unfold g45_k3 at h11
    clear h10
    refine mv ?_
    refine ls1 X 37 [(4, (.lit (.bool false)))] (g45_k4 ro) 6 ?_ ?_
    ·
     rcases condK_inv h11 with ⟨e, h13⟩ | ⟨e, h13⟩
     ·
      clear h11
      subst e
      refine vy (V.fa h13 rfl Spf.fo36_4) fun x32_8 h14 => ?_
      refine vy (V.ld hS h14 rfl Spf.one9) fun x33_9 h15 => ?_
      refine vy (V.fa h15 rfl Spf.fo36_4) fun x34_10 h16 => ?_
      refine vy (V.ld hS h16 rfl Spf.one9) fun x35_11 h17 => ?_
      refine vy (V.eqS h17 rfl rfl) fun x36_12 h18 => ?_
      refine pu ?_
      exact la1 hS h18 ⟨rfl, rfl, trivial⟩
     ·
      clear h11
      subst e
      refine sk ?_
      refine sk ?_
      refine sk ?_
      refine sk ?_
      refine sk ?_
      refine pu ?_
      exact la1 hS h13 ⟨rfl, rfl, trivial⟩
    ·
     intro y37 T6 n6 ρ its hS h12
     unfold g45_k4 at h12
     clear h11
     refine as_ ?_
     refine dn ?_
     refine CV.ret ?_
     cases h12
     exact PV.ret (by simp) Tryz.results45 hS (RS.tmp rfl RS.nil) rfl
noncomputable def g16 (ro : List HT) (a0 a1 : AV) (T : HT) (nx : Nat) : R :=
 boxK 160001 T nx a1 36 fun x3_1 T1 n1 =>
 ldAQK 160004 T1 ro [x3_1] x3_1 5 fun x7_2 =>
 callK (g15 ro a0 T1 n1) fun x6_3 T2 n2 =>
 keepK 160006 T1 T2 [x3_1] <|
 callK (g45 ro x6_3 x7_2 T2 n2) fun x8_4 T3 n3 =>
 .ok (.val x8_4) T3 n3
theorem g16_ok (ro : List HT) (a0 a1 : AV) (T : HT) (nx : Nat) : GOk Tryz.prog envE 16 [a0, a1] ro T nx (g16 ro a0 a1 T nx) := by
 refine GOk.of_body Tryz.func16 rfl Tryz.ntmps16 (by kernel_rfl) rfl fun r T' n' h1 w0 base ρ0 its hS hP => ?_
 have X : CtxW envE ρ0 ro r T' n' := trivial
 unfold g16 at h1
 refine sr ?_
 refine LV.box hS h1 rfl rfl rfl rfl rfl fun x3_1 T1 n1 h2 ρ its hS hdr => ?_
 refine as_ ?_
 refine dn ?_
 refine CV.seq ?_
 refine CV.regionMS hS [x3_1] [(0, .anywhere), (2, .held), (1, .alone), (3, .alone), (4, .alone)] rfl (fun c a a' w hd hq => PanicOk.root (P := Tryz.prog) (fn := Tryz.f16) (w0 := w0) (base := base) (E := envE) (ro := ro) (r := r) (T' := T') (n' := n') (ρ0 := ρ0) c a a' w hd hq) (by kernel_rfl) ?_
 have hK := KeepS.start [x3_1] hS
 have hR := hS
 have hP0 := hP
 replace hP := PK.up hR hP
 replace hS := hR.root
 refine MV.step0 (i := 0) rfl (VAL.move rfl) rfl rfl rfl ?_
 refine MV.lift1 (i := 2) rfl hK (V.ldAQ hS h2 rfl Spf.agg36) rfl rfl rfl [] (by kernel_rfl) fun x7_2 h3 => ?_
 refine MV.force (i := 1) rfl ?_
 refine LV.call hS h3 (g15_ok _ _ _ _ ) hP rfl rfl rfl rfl fun x6_3 T2 n2 h4 ρ its hS => ?_
 obtain ⟨hK, h5⟩ := KeepS.step hR hS h4
 refine LV.nextM [2] (by kernel_rfl) (fun _ => hK) ?_
 refine MV.force (i := 3) rfl ?_
 refine LV.call hS h5 (g45_ok _ _ _ _ _ ) hP rfl rfl rfl rfl fun x8_4 T3 n3 h6 ρ its hS => ?_
 refine LV.nextM [] (by kernel_rfl) (fun z => absurd rfl z) ?_
 refine MV.force (i := 4) rfl ?_
 refine as_ ?_
 refine LV.nextM [] (by kernel_rfl) (fun z => absurd rfl z) ?_
 replace hS := hR.up hS
 replace hP := hP0
 refine mdn ?_
 refine CV.ret ?_
 cases h6
 exact PV.ret (by simp) Tryz.results16 hS (RS.tmp rfl RS.nil) rfl
noncomputable def g44 (ro : List HT) (a0 : AV) (T : HT) (nx : Nat) : R :=
 newK T nx (.obj [.lit (.int .i64 0), .lit (.bool false), .lit (.int .i64 0), .lit (.bool false), .lit (.string ⟨#[]⟩)] 36) fun x2_1 T1 n1 =>
 optK 440003 (bld36 [(0, a0)]) fun x4_2 =>
 stAK 440004 T1 x2_1 x4_2 5 fun T2 =>
 ldAK 440005 T2 ro x2_1 5 fun x2_3 =>
 .ok (.val x2_3) T2 n1
theorem g44_ok (ro : List HT) (a0 : AV) (T : HT) (nx : Nat) : GOk Tryz.prog envE 44 [a0] ro T nx (g44 ro a0 T nx) := by
 refine GOk.of_body Tryz.func44 rfl Tryz.ntmps44 (by kernel_rfl) rfl fun r T' n' h1 w0 base ρ0 its hS hP => ?_
 have X : CtxW envE ρ0 ro r T' n' := trivial
 unfold g44 at h1
 refine sr ?_
 refine LV.alloc hS h1 rfl Spf.zr36 rfl rfl rfl fun x2_1 T1 n1 h2 ρ its hS hdr => ?_
 refine dn ?_
 refine sr ?_
 refine mv ?_
 refine vy (V.bld h2 rfl) fun x4_2 h3 => ?_
 refine LV.stA hS h3 rfl rfl rfl Spf.agg36 rfl rfl rfl fun T2 its h4 hS => ?_
 refine dn ?_
 refine CV.ret ?_
 refine PV.ldA (x := .tmp 2) (t := 36) hS h4 rfl Spf.agg36 fun x2_3 h5 hVx2_3 => ?_
 cases h5
 exact PV.ret (by simp) Tryz.results44 hS (RS.cell hVx2_3 RS.nil) rfl
noncomputable def g23 (ro : List HT) (a0 a1 : AV) (T : HT) (nx : Nat) : R :=
 callK (g44 ro a1 T nx) fun x7_1 T1 n1 =>
 callK (g16 ro a0 x7_1 T1 n1) fun x8_2 T2 n2 =>
 .ok (.val x8_2) T2 n2
theorem g23_ok (ro : List HT) (a0 a1 : AV) (T : HT) (nx : Nat) : GOk Tryz.prog envE 23 [a0, a1] ro T nx (g23 ro a0 a1 T nx) := by
 refine GOk.of_body Tryz.func23 rfl Tryz.ntmps23 (by kernel_rfl) rfl fun r T' n' h1 w0 base ρ0 its hS hP => ?_
 have X : CtxW envE ρ0 ro r T' n' := trivial
 unfold g23 at h1
 refine sr ?_
 refine as_ ?_
 refine dn ?_
 refine sr ?_
 refine mv ?_
 refine mv ?_
 refine LV.call hS h1 (g44_ok _ _ _ _ ) hP rfl rfl rfl rfl fun x7_1 T1 n1 h2 ρ its hS => ?_
 refine LV.call hS h2 (g16_ok _ _ _ _ _ ) hP rfl rfl rfl rfl fun x8_2 T2 n2 h3 ρ its hS => ?_
 refine as_ ?_
 refine dn ?_
 refine CV.ret ?_
 cases h3
 exact PV.ret (by simp) Tryz.results23 hS (RS.tmp rfl RS.nil) rfl
noncomputable def g5_k5 (c1a : AV) (c1b : AV) (c1 : AV) (c2a : AV) (c2b : AV) (c2 : AV) (ro : List HT) (lp4 : AV → AV → AV → AV → AV → AV → AV → AV → HT → Nat → R) (y2 y6 y7 y9 y10 y12 y16 y17 y88 : AV) (T12 : HT) (n12 : Nat) : R :=
 addK Tryz.prog 3 (.tmp 80) (.const (.int .i64 (.ofNat 1))) 50069 y17 (.lit (.int .i64 (.ofNat 1))) fun x81_25 =>
 lp4 y2 y6 y7 y9 y10 y12 y88 x81_25 T12 n12
noncomputable def g5_k9 (c1a : AV) (c1b : AV) (c1 : AV) (c2a : AV) (c2b : AV) (c2 : AV) (ro : List HT) (y6 y122 : AV) (T18 : HT) (n18 : Nat) : R :=
 .ok (.val y122) T18 n18
noncomputable def g5_k8 (c1a : AV) (c1b : AV) (c1 : AV) (c2a : AV) (c2b : AV) (c2 : AV) (ro : List HT) (y6 y117 : AV) (T17 : HT) (n17 : Nat) : R :=
 pkK y117 (.lit (.bool true)) (.lit (.bool false)) fun x119_31 =>
 condK 50096 x119_31
 (
  callK (g23 ro (.lit (.nilIface)) (.lit (.int .i64 (.ofNat 0))) T17 n17) fun x121_32 T19 n19 =>
  g5_k9 c1a c1b c1 c2a c2b c2 ro y6 x121_32 T19 n19
 )
 (
  g5_k9 c1a c1b c1 c2a c2b c2 ro y6 (.lit (.bool false)) T17 n17
 )
noncomputable def g5_k7 (c1a : AV) (c1b : AV) (c1 : AV) (c2a : AV) (c2b : AV) (c2 : AV) (ro : List HT) (y6 y7 y16 y111 : AV) (T16 : HT) (n16 : Nat) : R :=
 condK 50100 y7
 (
  bin0 Tryz.prog .eql 4 (.tmp 114) (.tmp 115) 50103 y16 y111 fun x116_33 =>
  g5_k8 c1a c1b c1 c2a c2b c2 ro y6 x116_33 T16 n16
 )
 (
  g5_k8 c1a c1b c1 c2a c2b c2 ro y6 (.lit (.bool false)) T16 n16
 )
noncomputable def g5_k10 (c1a : AV) (c1b : AV) (c1 : AV) (c2a : AV) (c2b : AV) (c2 : AV) (ro : List HT) (y6 y7 y16 y110 : AV) (T20 : HT) (n20 : Nat) : R :=
 g5_k7 c1a c1b c1 c2a c2b c2 ro y6 y7 y16 y110 T20 n20
noncomputable def g5_k6 (c1a : AV) (c1b : AV) (c1 : AV) (c2a : AV) (c2b : AV) (c2 : AV) (ro : List HT) (y6 y7 y16 y18 y19 y103 : AV) (T15 : HT) (n15 : Nat) : R :=
 condK 50106 y103
 (
  g5_k7 c1a c1b c1 c2a c2b c2 ro y6 y7 y16 (.lit (.bool true)) T15 n15
 )
 (
  eqK Tryz.prog 3 (.tmp 105) (.const (.int .i64 (.ofNat 5))) 50109 y18 (.lit (.int .i64 (.ofNat 5))) fun x106_34 =>
  condK 50112 x106_34
  (
   eqK Tryz.prog 3 (.tmp 108) (.const (.int .i64 (.ofNat 5))) 50114 y19 (.lit (.int .i64 (.ofNat 5))) fun x109_35 =>
   g5_k10 c1a c1b c1 c2a c2b c2 ro y6 y7 y16 x109_35 T15 n15
  )
  (
   g5_k10 c1a c1b c1 c2a c2b c2 ro y6 y7 y16 (.lit (.bool false)) T15 n15
  )
 )
noncomputable def g5_k11 (c1a : AV) (c1b : AV) (c1 : AV) (c2a : AV) (c2b : AV) (c2 : AV) (ro : List HT) (y6 y7 y16 y18 y19 y102 : AV) (T21 : HT) (n21 : Nat) : R :=
 g5_k6 c1a c1b c1 c2a c2b c2 ro y6 y7 y16 y18 y19 y102 T21 n21
noncomputable def g5_b4 (c1a : AV) (c1b : AV) (c1 : AV) (c2a : AV) (c2b : AV) (c2 : AV) (ro : List HT) (lp4 : AV → AV → AV → AV → AV → AV → AV → AV → HT → Nat → R) (y2 y6 y7 y9 y10 y12 y16 y17 : AV) (T11 : HT) (n11 : Nat) : R :=
 lenTK 50062 y12 fun x78_23 =>
 ltK Tryz.prog 3 (.tmp 76) (.tmp 78) 50063 y17 x78_23 fun x79_24 =>
 condK 50064 x79_24
 (
  condK 50071 y16
  (
   g5_k5 c1a c1b c1 c2a c2b c2 ro lp4 y2 y6 y7 y9 y10 y12 (.lit (.bool true)) y17 (.lit (.bool true)) T11 n11
  )
  (
   ixK 50075 y12 y17 fun x86_26 =>
   eqK Tryz.prog 5 (.tmp 86) (.const (.int .u8 (.ofNat 40))) 50076 x86_26 (.lit (.int .u8 (.ofNat 40))) fun x87_27 =>
   g5_k5 c1a c1b c1 c2a c2b c2 ro lp4 y2 y6 y7 y9 y10 y12 (.lit (.bool false)) y17 x87_27 T11 n11
  )
 )
 (
  callK (g22 ro y9 T11 n11) fun x90_28 T13 n13 =>
  callK (g22 ro y10 T13 n13) fun x92_29 T14 n14 =>
  ltK Tryz.prog 3 (.tmp 93) (.tmp 94) 50086 x90_28 x92_29 fun x95_30 =>
  condK 50117 x95_30
  (
   g5_k6 c1a c1b c1 c2a c2b c2 ro y6 y7 y16 x90_28 x92_29 (.lit (.bool true)) T14 n14
  )
  (
   condK 50122 y2
   (
    eqK Tryz.prog 3 (.tmp 99) (.tmp 100) 50125 x90_28 x92_29 fun x101_36 =>
    g5_k11 c1a c1b c1 c2a c2b c2 ro y6 y7 y16 x90_28 x92_29 x101_36 T14 n14
   )
   (
    g5_k11 c1a c1b c1 c2a c2b c2 ro y6 y7 y16 x90_28 x92_29 (.lit (.bool false)) T14 n14
   )
  )
 )
noncomputable def g5_k3 (c1a : AV) (c1b : AV) (c1 : AV) (c2a : AV) (c2b : AV) (c2 : AV) (ro : List HT) (y2 y6 y7 y9 y10 y12 y75 : AV) (T10 : HT) (n10 : Nat) : R :=
 condK 50055 y75
 (
  .bad 50056
 )
 (
  lpf8 50059 (g5_b4 c1a c1b c1 c2a c2b c2 ro) 100000 y2 y6 y7 y9 y10 y12 (.lit (.bool false)) (.lit (.int .i64 (.ofNat 0))) T10 n10
 )
noncomputable def g5_k2 (c1a : AV) (c1b : AV) (c1 : AV) (c2a : AV) (c2b : AV) (c2 : AV) (ro : List HT) (y2 y6 y7 y9 y10 y11 y12 y14 y69 : AV) (T9 : HT) (n9 : Nat) : R :=
 condK 50128 y69
 (
  g5_k3 c1a c1b c1 c2a c2b c2 ro y2 y6 y7 y9 y10 y12 (.lit (.bool true)) T9 n9
 )
 (
  callK (g21 ro y11 y14 T9 n9) fun x73_37 T22 n22 =>
  notK 50133 x73_37 fun x74_38 =>
  g5_k3 c1a c1b c1 c2a c2b c2 ro y2 y6 y7 y9 y10 y12 x74_38 T22 n22
 )
noncomputable def g5_k1 (c1a : AV) (c1b : AV) (c1 : AV) (c2a : AV) (c2b : AV) (c2 : AV) (ro : List HT) (y2 y6 y7 y9 y10 y11 : AV) (T6 : HT) (n6 : Nat) : R :=
 callK (g19 ro y11 T6 n6) fun x56_16 T7 n7 =>
 exK 50040 x56_16 0 fun x57_17 =>
 exK 50041 x56_16 1 fun x58_18 =>
 callK (g20 ro x57_17 T7 n7) fun x61_19 T8 n8 =>
 exK 50047 x61_19 0 fun x62_20 =>
 exK 50048 x61_19 1 fun x63_21 =>
 bin0 Tryz.prog .neq 25 (.tmp 64) (.const (.nilIface)) 50052 x58_18 (.lit (.nilIface)) fun x65_22 =>
 condK 50135 x65_22
 (
  g5_k2 c1a c1b c1 c2a c2b c2 ro y2 y6 y7 y9 y10 y11 x57_17 x62_20 (.lit (.bool true)) T8 n8
 )
 (
  bin0 Tryz.prog .neq 25 (.tmp 67) (.const (.nilIface)) 50138 x63_21 (.lit (.nilIface)) fun x68_39 =>
  g5_k2 c1a c1b c1 c2a c2b c2 ro y2 y6 y7 y9 y10 y11 x57_17 x62_20 x68_39 T8 n8
 )
noncomputable def g5 (c1a : AV) (c1b : AV) (c1 : AV) (c2a : AV) (c2b : AV) (c2 : AV) (ro : List HT) (q0 q1 q2 : AV) (T : HT) (nx : Nat) : R :=
 callK (.ok (.val (.lit (.bool true))) T nx) fun x21_1 T1 n1 =>
 notK 50005 x21_1 fun x23_2 =>
 condK 50006 x23_2
 (
  .bad 50007
 )
 (
  bsK 50008 T1 n1 15 3 1 [(0, (.lit (.int .i64 (.ofNat 18)))), (1, (.lit (.int .i64 (.ofNat 19)))), (2, (.lit (.int .i64 (.ofNat 21)))), (3, (.lit (.int .i64 (.ofNat 22)))), (4, (.lit (.int .i64 (.ofNat 23)))), (5, (.lit (.int .i64 (.ofNat 24)))), (6, (.lit (.int .i64 (.ofNat 25)))), (7, (.lit (.int .i64 (.ofNat 26)))), (8, (.lit (.int .i64 (.ofNat 27)))), (9, (.lit (.int .i64 (.ofNat 28)))), (10, (.lit (.int .i64 (.ofNat 29)))), (11, (.lit (.int .i64 (.ofNat 30)))), (12, (.lit (.int .i64 (.ofNat 31)))), (13, (.lit (.int .i64 (.ofNat 32)))), (14, (.lit (.int .i64 (.ofNat 33))))] fun x24_3 T2 n2 =>
  iaK 50015 x24_3 c1 1 fun x30_4 =>
  ldK 50016 T2 ro x30_4 fun x31_5 =>
  iaK 50023 x24_3 c2 1 fun x37_6 =>
  ldK 50024 T2 ro x37_6 fun x38_7 =>
  optK 50026 (bld32 [(0, (.lit (.int .i64 (.ofNat 6)))), (3, (.lit (.string ⟨⟨[112]⟩⟩)))]) fun x39_8 =>
  optK 50027 (bld32 [(0, (.lit (.int .i64 (.ofNat 6)))), (3, (.lit (.string ⟨⟨[113]⟩⟩)))]) fun x40_9 =>
  bsK 50029 T2 n2 2 3 1 [(0, (.lit (.int .i64 (.ofNat 0)))), (1, (.lit (.int .i64 (.ofNat 1))))] fun x42_10 T3 n3 =>
  optK 50030 (bld32 [(0, x31_5), (4, x42_10)]) fun x43_11 =>
  optK 50031 (bld32 [(0, (.lit (.int .i64 (.ofNat 6)))), (3, (.lit (.string ⟨⟨[114]⟩⟩)))]) fun x44_12 =>
  bsK 50033 T3 n3 2 3 1 [(0, (.lit (.int .i64 (.ofNat 2)))), (1, (.lit (.int .i64 (.ofNat 3))))] fun x46_13 T4 n4 =>
  optK 50034 (bld32 [(0, x38_7), (4, x46_13)]) fun x47_14 =>
  bsK 50035 T4 n4 5 32 5 [(0, x39_8), (1, x40_9), (2, x43_11), (3, x44_12), (4, x47_14)] fun x48_15 T5 n5 =>
  condK 50141 q2
  (
   bsK 50143 T5 n5 2 3 1 [(0, (.lit (.int .i64 (.ofNat 3)))), (1, (.lit (.int .i64 (.ofNat 2))))] fun x51_40 T23 n23 =>
   iaK 50144 x48_15 (.lit (.int .i64 (.ofNat 4))) 5 fun x52_41 =>
   faK 50145 x52_41 4 fun x53_42 =>
   stK 50146 T23 x53_42 x51_40 fun T24 =>
   g5_k1 c1a c1b c1 c2a c2b c2 ro (.lit (.bool true)) (.lit (.bool false)) x21_1 x31_5 x38_7 x48_15 T24 n23
  )
  (
   g5_k1 c1a c1b c1 c2a c2b c2 ro (.lit (.bool false)) (.lit (.bool false)) x21_1 x31_5 x38_7 x48_15 T5 n5
  )
 )
theorem g5_ok (c1a : AV) (c1b : AV) (c1 : AV) (c2a : AV) (c2b : AV) (c2 : AV) (q0 q1 q2 : AV) (hOc1a : ∀ (W : World → Prop) (ρ : Rho) (af : AF), evalA af (.tmp 26) = some q0 → VAL Tryz.prog W ρ af (.binOp .rem 3 (.tmp 26) (.const (.int .i64 (.ofNat 15))) 3) c1a) (hOc1b : ∀ (W : World → Prop) (ρ : Rho) (af : AF), evalA af (.tmp 27) = some c1a → VAL Tryz.prog W ρ af (.binOp .add 3 (.tmp 27) (.const (.int .i64 (.ofNat 15))) 3) c1b) (hOc1 : ∀ (W : World → Prop) (ρ : Rho) (af : AF), evalA af (.tmp 28) = some c1b → VAL Tryz.prog W ρ af (.binOp .rem 3 (.tmp 28) (.const (.int .i64 (.ofNat 15))) 3) c1) (hOc2a : ∀ (W : World → Prop) (ρ : Rho) (af : AF), evalA af (.tmp 33) = some q1 → VAL Tryz.prog W ρ af (.binOp .rem 3 (.tmp 33) (.const (.int .i64 (.ofNat 15))) 3) c2a) (hOc2b : ∀ (W : World → Prop) (ρ : Rho) (af : AF), evalA af (.tmp 34) = some c2a → VAL Tryz.prog W ρ af (.binOp .add 3 (.tmp 34) (.const (.int .i64 (.ofNat 15))) 3) c2b) (hOc2 : ∀ (W : World → Prop) (ρ : Rho) (af : AF), evalA af (.tmp 35) = some c2b → VAL Tryz.prog W ρ af (.binOp .rem 3 (.tmp 35) (.const (.int .i64 (.ofNat 15))) 3) c2) (ro : List HT) (T : HT) (nx : Nat) (hF : GOk Tryz.prog envE 18 [] ro T nx (.ok (.val (.lit (.bool true))) T nx)) : GOk Tryz.prog envE 5 [q0, q1, q2] ro T nx (g5 c1a c1b c1 c2a c2b c2 ro q0 q1 q2 T nx) := by
 refine GOk.of_body Tryz.func5 rfl Tryz.ntmps5 (by kernel_rfl) rfl fun r T' n' h1 w0 base ρ0 its hS hP => ?_
 have X : CtxW envE ρ0 ro r T' n' := trivial
 unfold g5 at h1
 refine sr ?_
 refine as_ ?_
 refine dn ?_
 refine sr ?_
 refine LV.call hS h1 (hF) hP rfl rfl rfl rfl fun x21_1 T1 n1 h2 ρ its hS => ?_
 refine as_ ?_
 refine dn ?_
 refine CV.seq ?_
 refine sr ?_
 refine mv ?_
 refine vy (V.not h2 rfl) fun x23_2 h3 => ?_
 refine dn ?_
 refine CV.cond h3 rfl (fun e h4 => ?_) (fun e h4 => ?_)
 ·
  clear h1 h2 h3
  subst e
  cases h4
 ·
  clear h1 h2 h3
  subst e
  refine CV.skip ?_
  refine PV.thenN ?_
  refine sr ?_
  refine LV.bslice hS h4 rfl rfl Spf.el30 rfl rfl rfl rfl fun x24_3 T2 n2 h5 ρ its hS hdr => ?_
  refine as_ ?_
  refine dn ?_
  refine sr ?_
  refine mv ?_
  refine mv ?_
  refine sv (hOc1a _ _ _ rfl) ?_
  refine sv (hOc1b _ _ _ rfl) ?_
  refine sv (hOc1 _ _ _ rfl) ?_
  refine vy (V.ia h5 rfl rfl Spf.el30) fun x30_4 h6 => ?_
  refine vy (V.ld hS h6 rfl Spf.one3) fun x31_5 h7 => ?_
  refine as_ ?_
  refine dn ?_
  refine sr ?_
  refine mv ?_
  refine mv ?_
  refine sv (hOc2a _ _ _ rfl) ?_
  refine sv (hOc2b _ _ _ rfl) ?_
  refine sv (hOc2 _ _ _ rfl) ?_
  refine vy (V.ia h7 rfl rfl Spf.el30) fun x37_6 h8 => ?_
  refine vy (V.ld hS h8 rfl Spf.one3) fun x38_7 h9 => ?_
  refine as_ ?_
  refine dn ?_
  refine sr ?_
  refine vy (V.bld h9 rfl) fun x39_8 h10 => ?_
  refine vy (V.bld h10 rfl) fun x40_9 h11 => ?_
  refine mv ?_
  refine LV.bslice hS h11 rfl rfl Spf.el30 rfl rfl rfl rfl fun x42_10 T3 n3 h12 ρ its hS hdr => ?_
  refine vy (V.bld h12 rfl) fun x43_11 h13 => ?_
  refine vy (V.bld h13 rfl) fun x44_12 h14 => ?_
  refine mv ?_
  refine LV.bslice hS h14 rfl rfl Spf.el30 rfl rfl rfl rfl fun x46_13 T4 n4 h15 ρ its hS hdr => ?_
  refine vy (V.bld h15 rfl) fun x47_14 h16 => ?_
  refine LV.bslice hS h16 rfl rfl Spf.el23 rfl rfl rfl rfl fun x48_15 T5 n5 h17 ρ its hS hdr => ?_
  refine as_ ?_
  refine dn ?_
  refine cs6 X 2 6 7 9 10 11 [] (g5_k1 c1a c1b c1 c2a c2b c2 ro) ?_ ?_
  ·
   refine sr ?_
   refine mv ?_
   refine dn ?_
   refine CV.cond h17 rfl (fun e h64 => ?_) (fun e h64 => ?_)
   ·
    clear h4 h5 h6 h7 h8 h9 h10 h11 h12 h13 h14 h15 h16 h17
    subst e
    refine CV.region ?_
    refine mv ?_
    refine LV.bslice hS h64 rfl rfl Spf.el30 rfl rfl rfl rfl fun x51_40 T23 n23 h65 ρ its hS hdr => ?_
    refine vy (V.ia h65 rfl rfl Spf.el23) fun x52_41 h66 => ?_
    refine vy (V.fa h66 rfl Spf.fo32_4) fun x53_42 h67 => ?_
    refine LV.st hS h67 rfl rfl rfl Spf.siz30 rfl rfl fun T24 its h68 hS => ?_
    refine LV.done ?_
    exact pa6 hS h68 ⟨rfl, rfl, rfl, rfl, rfl, rfl, trivial⟩
   ·
    clear h4 h5 h6 h7 h8 h9 h10 h11 h12 h13 h14 h15 h16 h17
    subst e
    refine CV.skip ?_
    exact pa6 hS h64 ⟨rfl, rfl, rfl, rfl, rfl, rfl, trivial⟩
  ·
   intro y2 y6 y7 y9 y10 y11 T6 n6 ρ its hS h18
   unfold g5_k1 at h18
   clear h4 h5 h6 h7 h8 h9 h10 h11 h12 h13 h14 h15 h16 h17
   refine sr ?_
   refine mv ?_
   refine LV.call hS h18 (g19_ok _ _ _ _ ) hP rfl rfl rfl rfl fun x56_16 T7 n7 h19 ρ its hS => ?_
   refine mv ?_
   refine vy (V.ex h19 rfl) fun x57_17 h20 => ?_
   refine vy (V.ex h20 rfl) fun x58_18 h21 => ?_
   refine as_ ?_
   refine as_ ?_
   refine dn ?_
   refine sr ?_
   refine mv ?_
   refine LV.call hS h21 (g20_ok _ _ _ _ ) hP rfl rfl rfl rfl fun x61_19 T8 n8 h22 ρ its hS => ?_
   refine mv ?_
   refine vy (V.ex h22 rfl) fun x62_20 h23 => ?_
   refine vy (V.ex h23 rfl) fun x63_21 h24 => ?_
   refine as_ ?_
   refine as_ ?_
   refine dn ?_
   refine CV.seq ?_
   refine sr ?_
   refine mv ?_
   refine vy (V.bin0 h24 rfl rfl) fun x65_22 h25 => ?_
   refine mv ?_
   refine ls9 X 2 6 7 9 10 11 12 14 69 [] (g5_k2 c1a c1b c1 c2a c2b c2 ro) 3 ?_ ?_
   ·
    rcases condK_inv h25 with ⟨e, h62⟩ | ⟨e, h62⟩
    ·
     clear h18 h19 h20 h21 h22 h23 h24 h25
     subst e
     refine sk ?_
     refine sk ?_
     refine pu ?_
     exact la9 hS h62 ⟨rfl, rfl, rfl, rfl, rfl, rfl, rfl, rfl, rfl, trivial⟩
    ·
     clear h18 h19 h20 h21 h22 h23 h24 h25
     subst e
     refine mv ?_
     refine vy (V.bin0 h62 rfl rfl) fun x68_39 h63 => ?_
     refine pu ?_
     exact la9 hS h63 ⟨rfl, rfl, rfl, rfl, rfl, rfl, rfl, rfl, rfl, trivial⟩
   ·
    intro y2 y6 y7 y9 y10 y11 y12 y14 y69 T9 n9 ρ its hS h26
    unfold g5_k2 at h26
    clear h18 h19 h20 h21 h22 h23 h24 h25
    refine mv ?_
    refine ls7 X 2 6 7 9 10 12 75 [] (g5_k3 c1a c1b c1 c2a c2b c2 ro) 5 ?_ ?_
    ·
     rcases condK_inv h26 with ⟨e, h59⟩ | ⟨e, h59⟩
     ·
      clear h26
      subst e
      refine sk ?_
      refine sk ?_
      refine sk ?_
      refine sk ?_
      refine pu ?_
      exact la7 hS h59 ⟨rfl, rfl, rfl, rfl, rfl, rfl, rfl, trivial⟩
     ·
      clear h26
      subst e
      refine mv ?_
      refine mv ?_
      refine LV.call hS h59 (g21_ok _ _ _ _ _ ) hP rfl rfl rfl rfl fun x73_37 T22 n22 h60 ρ its hS => ?_
      refine vy (V.not h60 rfl) fun x74_38 h61 => ?_
      refine pu ?_
      exact la7 hS h61 ⟨rfl, rfl, rfl, rfl, rfl, rfl, rfl, trivial⟩
    ·
     intro y2 y6 y7 y9 y10 y12 y75 T10 n10 ρ its hS h27
     unfold g5_k3 at h27
     clear h26
     refine dn ?_
     refine CV.cond h27 rfl (fun e h28 => ?_) (fun e h28 => ?_)
     ·
      clear h27
      subst e
      cases h28
     ·
      clear h27
      subst e
      refine CV.skip ?_
      refine PV.thenN ?_
      refine sr ?_
      refine as_ ?_
      refine dn ?_
      refine CV.seq ?_
      refine sr ?_
      refine as_ ?_
      refine dn ?_
      refine CV.block ?_
      refine cl8 X 2 6 7 9 10 12 16 17 [] hS h28 ⟨rfl, rfl, rfl, rfl, rfl, rfl, rfl, rfl, trivial⟩ ?_
      intro f4 y2 y6 y7 y9 y10 y12 y16 y17 T11 n11 ρ its hS h29
      unfold g5_b4 at h29
      clear h28
      refine CV.seq ?_
      refine sr ?_
      refine mv ?_
      refine mv ?_
      refine vy (V.lenT h29 rfl Spf.ls9) fun x78_23 h30 => ?_
      refine vy (V.lt h30 rfl rfl) fun x79_24 h31 => ?_
      refine dn ?_
      refine CV.cond h31 rfl (fun e h32 => ?_) (fun e h32 => ?_)
      ·
       clear h29 h30 h31
       subst e
       refine CV.skip ?_
       refine PV.thenN ?_
       refine CV.seq ?_
       refine CV.block ?_
       refine CV.region ?_
       refine mv ?_
       refine mv ?_
       refine ls9 X 2 6 7 9 10 12 16 17 88 [] (g5_k5 c1a c1b c1 c2a c2b c2 ro (lpf8 50059 (g5_b4 c1a c1b c1 c2a c2b c2 ro) f4)) 5 ?_ ?_
       ·
        rcases condK_inv h32 with ⟨e, h35⟩ | ⟨e, h35⟩
        ·
         clear h32
         subst e
         refine sk ?_
         refine sk ?_
         refine sk ?_
         refine sk ?_
         refine pu ?_
         exact la9 hS h35 ⟨rfl, rfl, rfl, rfl, rfl, rfl, rfl, rfl, rfl, trivial⟩
        ·
         clear h32
         subst e
         refine mv ?_
         refine mv ?_
         refine vy (V.ix h35 rfl rfl Spf.st9) fun x86_26 h36 => ?_
         refine vy (V.eq h36 rfl rfl) fun x87_27 h37 => ?_
         refine pu ?_
         exact la9 hS h37 ⟨rfl, rfl, rfl, rfl, rfl, rfl, rfl, rfl, rfl, trivial⟩
       ·
        intro y2 y6 y7 y9 y10 y12 y16 y17 y88 T12 n12 ρ its hS h33
        unfold g5_k5 at h33
        clear h32
        refine as_ ?_
        refine LV.done ?_
        refine PV.blockN ?_
        refine PV.thenN ?_
        refine CV.region ?_
        refine mv ?_
        refine vy (V.add h33 rfl rfl) fun x81_25 h34 => ?_
        refine as_ ?_
        refine LV.done ?_
        exact pb8 hS h34 ⟨rfl, rfl, rfl, rfl, rfl, rfl, rfl, rfl, trivial⟩
      ·
       clear h29 h30 h31
       subst e
       refine CV.exit ?_
       refine PV.thenE ?_
       refine PV.thenE ?_
       refine PV.blockE ?_
       refine PV.thenN ?_
       refine sr ?_
       refine mv ?_
       refine LV.call hS h32 (g22_ok _ _ _ _ ) hP rfl rfl rfl rfl fun x90_28 T13 n13 h38 ρ its hS => ?_
       refine as_ ?_
       refine dn ?_
       refine sr ?_
       refine mv ?_
       refine LV.call hS h38 (g22_ok _ _ _ _ ) hP rfl rfl rfl rfl fun x92_29 T14 n14 h39 ρ its hS => ?_
       refine as_ ?_
       refine dn ?_
       refine sr ?_
       refine mv ?_
       refine mv ?_
       refine vy (V.lt h39 rfl rfl) fun x95_30 h40 => ?_
       refine mv ?_
       refine ls6 X 6 7 16 18 19 103 [] (g5_k6 c1a c1b c1 c2a c2b c2 ro) 7 ?_ ?_
       ·
        rcases condK_inv h40 with ⟨e, h55⟩ | ⟨e, h55⟩
        ·
         clear h32 h38 h39 h40
         subst e
         refine sk ?_
         refine sk ?_
         refine sk ?_
         refine sk ?_
         refine sk ?_
         refine sk ?_
         refine pu ?_
         exact la6 hS h55 ⟨rfl, rfl, rfl, rfl, rfl, rfl, trivial⟩
        ·
         clear h32 h38 h39 h40
         subst e
         refine mv ?_
         refine mv ?_
         refine ls6 X 6 7 16 18 19 102 [(96, (.lit (.bool false)))] (g5_k11 c1a c1b c1 c2a c2b c2 ro) 4 ?_ ?_
         ·
          rcases condK_inv h55 with ⟨e, h57⟩ | ⟨e, h57⟩
          ·
           clear h55
           subst e
           refine mv ?_
           refine mv ?_
           refine vy (V.eq h57 rfl rfl) fun x101_36 h58 => ?_
           refine pu ?_
           exact la6 hS h58 ⟨rfl, rfl, rfl, rfl, rfl, rfl, rfl, trivial⟩
          ·
           clear h55
           subst e
           refine sk ?_
           refine sk ?_
           refine sk ?_
           refine pu ?_
           exact la6 hS h57 ⟨rfl, rfl, rfl, rfl, rfl, rfl, rfl, trivial⟩
         ·
          intro y6 y7 y16 y18 y19 y102 T21 n21 ρ its hS h56
          unfold g5_k11 at h56
          clear h55
          refine pu ?_
          exact la6 hS h56 ⟨rfl, rfl, rfl, rfl, rfl, rfl, trivial⟩
       ·
        intro y6 y7 y16 y18 y19 y103 T15 n15 ρ its hS h41
        unfold g5_k6 at h41
        clear h32 h38 h39 h40
        refine mv ?_
        refine ls4 X 6 7 16 111 [] (g5_k7 c1a c1b c1 c2a c2b c2 ro) 7 ?_ ?_
        ·
         rcases condK_inv h41 with ⟨e, h50⟩ | ⟨e, h50⟩
         ·
          clear h41
          subst e
          refine sk ?_
          refine sk ?_
          refine sk ?_
          refine sk ?_
          refine sk ?_
          refine sk ?_
          refine pu ?_
          exact la4 hS h50 ⟨rfl, rfl, rfl, rfl, trivial⟩
         ·
          clear h41
          subst e
          refine mv ?_
          refine vy (V.eq h50 rfl rfl) fun x106_34 h51 => ?_
          refine mv ?_
          refine ls4 X 6 7 16 110 [(104, (.lit (.bool false)))] (g5_k10 c1a c1b c1 c2a c2b c2 ro) 3 ?_ ?_
          ·
           rcases condK_inv h51 with ⟨e, h53⟩ | ⟨e, h53⟩
           ·
            clear h50 h51
            subst e
            refine mv ?_
            refine vy (V.eq h53 rfl rfl) fun x109_35 h54 => ?_
            refine pu ?_
            exact la4 hS h54 ⟨rfl, rfl, rfl, rfl, rfl, trivial⟩
           ·
            clear h50 h51
            subst e
            refine sk ?_
            refine sk ?_
            refine pu ?_
            exact la4 hS h53 ⟨rfl, rfl, rfl, rfl, rfl, trivial⟩
          ·
           intro y6 y7 y16 y110 T20 n20 ρ its hS h52
           unfold g5_k10 at h52
           clear h50 h51
           refine pu ?_
           exact la4 hS h52 ⟨rfl, rfl, rfl, rfl, trivial⟩
        ·
         intro y6 y7 y16 y111 T16 n16 ρ its hS h42
         unfold g5_k7 at h42
         clear h41
         refine as_ ?_
         refine dn ?_
         refine sr ?_
         refine mv ?_
         refine mv ?_
         refine ls2 X 6 117 [] (g5_k8 c1a c1b c1 c2a c2b c2 ro) 4 ?_ ?_
         ·
          rcases condK_inv h42 with ⟨e, h48⟩ | ⟨e, h48⟩
          ·
           clear h42
           subst e
           refine mv ?_
           refine mv ?_
           refine vy (V.bin0 h48 rfl rfl) fun x116_33 h49 => ?_
           refine pu ?_
           exact la2 hS h49 ⟨rfl, rfl, trivial⟩
          ·
           clear h42
           subst e
           refine sk ?_
           refine sk ?_
           refine sk ?_
           refine pu ?_
           exact la2 hS h48 ⟨rfl, rfl, trivial⟩
         ·
          intro y6 y117 T17 n17 ρ its hS h43
          unfold g5_k8 at h43
          clear h42
          refine mv ?_
          refine vy (V.pk h43 rfl rfl rfl) fun x119_31 h44 => ?_
          refine mv ?_
          refine ls2 X 6 122 [] (g5_k9 c1a c1b c1 c2a c2b c2 ro) 2 ?_ ?_
          ·
           rcases condK_inv h44 with ⟨e, h46⟩ | ⟨e, h46⟩
           ·
            clear h43 h44
            subst e
            refine LV.call hS h46 (g23_ok _ _ _ _ _ ) hP rfl rfl rfl rfl fun x121_32 T19 n19 h47 ρ its hS => ?_
            refine pu ?_
            exact la2 hS h47 ⟨rfl, rfl, trivial⟩
           ·
            clear h43 h44
            subst e
            refine sk ?_
            refine pu ?_
            exact la2 hS h46 ⟨rfl, rfl, trivial⟩
          ·
           intro y6 y122 T18 n18 ρ its hS h45
           unfold g5_k9 at h45
           clear h43 h44
           refine as_ ?_
           refine dn ?_
           refine CV.ret ?_
           cases h45
           exact PV.ret (by simp) Tryz.results5 hS (RS.tmp rfl RS.nil) rfl

end Go.Proofs.YtdepmlcnllofiaaGreatDoor.Sp
