/-
  Proved here: plain functions that do what the program's functions do, each with its proof.
-/
import Derived.Test.YtdepmlcnllofiaaGreatDoorRnc
namespace Go.Proofs.YtdepmlcnllofiaaGreatDoor.Rn
open Go.EY Go.EX Go.SX Go.RowKit
noncomputable def g15_k1 (ro : List HT) (y2 y3 y26 : AV) (T4 : HT) (n4 : Nat) : R :=
 condK 150023 y26
 (
  .bad 150024
 )
 (
  fldK 150026 T4 ro y3 1 fun x31_10 =>
  callK (g43 ro x31_10 T4 n4) fun x32_11 T5 n5 =>
  newK T5 n5 (.obj [.lit (.int .i64 0), .lit (.bool false), .lit (.int .i64 0), .lit (.bool false), .lit (.string ⟨#[]⟩)] 36) fun x5_12 T6 n6 =>
  stAK 150029 T6 x5_12 x32_11 5 fun T7 =>
  faK 150030 x5_12 0 fun x33_13 =>
  ldK 150031 T7 ro x33_13 fun x34_14 =>
  faK 150032 x5_12 1 fun x35_15 =>
  ldK 150033 T7 ro x35_15 fun x36_16 =>
  faK 150034 x5_12 2 fun x37_17 =>
  ldK 150035 T7 ro x37_17 fun x38_18 =>
  ncK 150037 y3 fun x40_19 =>
  faK 150038 x40_19 0 fun x41_20 =>
  ldK 150039 T7 ro x41_20 fun x42_21 =>
  optK 150040 (bld36 [(0, x34_14), (1, x36_16), (2, x38_18), (3, (.lit (.bool true))), (4, x42_21)]) fun x43_22 =>
  stAK 150041 T7 y2 x43_22 5 fun T8 =>
  ldAK 150042 T8 ro y2 5 fun x2_23 =>
  .ok (.val x2_23) T8 n6
 )
noncomputable def g15 (ro : List HT) (a0 : AV) (T : HT) (nx : Nat) : R :=
 newK T nx (.obj [.lit (.int .i64 0), .lit (.bool false), .lit (.int .i64 0), .lit (.bool false), .lit (.string ⟨#[]⟩)] 36) fun x2_1 T1 n1 =>
 bin0 Tryz.prog .eql 25 (.tmp 6) (.const (.nilIface)) 150003 a0 (.lit (.nilIface)) fun x7_2 =>
 condK 150004 x7_2
 (
  .bad 150005
 )
 (
  asK 150007 a0 80 (.tup [.lit (.pointer none), .lit (.bool false)]) fun x11_3 =>
  exK 150009 x11_3 0 fun x12_4 =>
  exK 150010 x11_3 1 fun x13_5 =>
  notK 150014 x13_5 fun x15_6 =>
  condK 150015 x15_6
  (
   callK (g43 ro a0 T1 n1) fun x17_7 T2 n2 =>
   stAK 150018 T2 x2_1 x17_7 5 fun T3 =>
   ldAK 150019 T3 ro x2_1 5 fun x2_8 =>
   .ok (.val x2_8) T3 n2
  )
  (
   bin0 Tryz.prog .eql 80 (.tmp 18) (.const (.pointer none)) 150021 x12_4 (.lit (.pointer none)) fun x19_9 =>
   condK 150043 x19_9
   (
    g15_k1 ro x2_1 x12_4 (.lit (.bool true)) T1 n1
   )
   (
    ncK 150046 x12_4 fun x22_24 =>
    faK 150047 x22_24 1 fun x23_25 =>
    ldK 150048 T1 ro x23_25 fun x24_26 =>
    bin0 Tryz.prog .eql 25 (.tmp 24) (.const (.nilIface)) 150049 x24_26 (.lit (.nilIface)) fun x25_27 =>
    g15_k1 ro x2_1 x12_4 x25_27 T1 n1
   )
  )
 )
theorem g15_ok (ro : List HT) (a0 : AV) (T : HT) (nx : Nat) : GOk Tryz.prog envE 15 [a0] ro T nx (g15 ro a0 T nx) := by
 refine GOk.of_body Tryz.func15 rfl Tryz.ntmps15 (by kernel_rfl) rfl fun r T' n' h1 w0 base ρ0 its hS hP => ?_
 have X : CtxW envE ρ0 ro r T' n' := trivial
 unfold g15 at h1
 refine sr ?_
 refine LV.alloc hS h1 rfl Rnf.zr36 rfl rfl rfl fun x2_1 T1 n1 h2 ρ its hS hdr => ?_
 refine dn ?_
 refine CV.seq ?_
 refine sr ?_
 refine mv ?_
 refine vy (V.bin0 h2 rfl rfl) fun x7_2 h3 => ?_
 refine dn ?_
 refine CV.cond h3 rfl (fun e h4 => ?_) (fun e h4 => ?_)
 ·
  clear h1 h2 h3
  subst e
  cases h4
 ·
  clear h1 h2 h3
  subst e
  refine CV.skip ?_
  refine PV.thenN ?_
  refine sr ?_
  refine mv ?_
  refine vy (V.as h4 rfl Rnf.ni80 Rnf.za80) fun x11_3 h5 => ?_
  refine mv ?_
  refine vy (V.ex h5 rfl) fun x12_4 h6 => ?_
  refine vy (V.ex h6 rfl) fun x13_5 h7 => ?_
  refine as_ ?_
  refine as_ ?_
  refine dn ?_
  refine CV.seq ?_
  refine sr ?_
  refine mv ?_
  refine vy (V.not h7 rfl) fun x15_6 h8 => ?_
  refine dn ?_
  refine CV.cond h8 rfl (fun e h9 => ?_) (fun e h9 => ?_)
  ·
   clear h4 h5 h6 h7 h8
   subst e
   refine sr ?_
   refine mv ?_
   refine LV.call hS h9 (g43_ok _ _ _ _ ) hP rfl rfl rfl rfl fun x17_7 T2 n2 h10 ρ its hS => ?_
   refine LV.stA hS h10 rfl rfl rfl Rnf.agg36 rfl rfl rfl fun T3 its h11 hS => ?_
   refine dn ?_
   refine CV.ret ?_
   refine PV.thenR ?_
   refine PV.ldA (x := .tmp 2) (t := 36) hS h11 rfl Rnf.agg36 fun x2_8 h12 hVx2_8 => ?_
   cases h12
   exact PV.ret (by simp) Tryz.results15 hS (RS.cell hVx2_8 RS.nil) rfl
  ·
   clear h4 h5 h6 h7 h8
   subst e
   refine CV.skip ?_
   refine PV.thenN ?_
   refine CV.seq ?_
   refine sr ?_
   refine mv ?_
   refine vy (V.bin0 h9 rfl rfl) fun x19_9 h13 => ?_
   refine mv ?_
   refine ls3 X 2 3 26 [] (g15_k1 ro) 6 ?_ ?_
   ·
    rcases condK_inv h13 with ⟨e, h32⟩ | ⟨e, h32⟩
    ·
     clear h9 h13
     subst e
     refine sk ?_
     refine sk ?_
     refine sk ?_
     refine sk ?_
     refine sk ?_
     refine pu ?_
     exact la3 hS h32 ⟨rfl, rfl, rfl, trivial⟩
    ·
     clear h9 h13
     subst e
     refine mv ?_
     refine vy (V.nc h32 rfl) fun x22_24 h33 => ?_
     refine vy (V.fa h33 rfl Rnf.fo83_1) fun x23_25 h34 => ?_
     refine vy (V.ld hS h34 rfl Rnf.one25) fun x24_26 h35 => ?_
     refine vy (V.bin0 h35 rfl rfl) fun x25_27 h36 => ?_
     refine pu ?_
     exact la3 hS h36 ⟨rfl, rfl, rfl, trivial⟩
   ·
    intro y2 y3 y26 T4 n4 ρ its hS h14
    unfold g15_k1 at h14
    clear h9 h13
    refine dn ?_
    refine CV.cond h14 rfl (fun e h15 => ?_) (fun e h15 => ?_)
    ·
     clear h14
     subst e
     cases h15
    ·
     clear h14
     subst e
     refine CV.skip ?_
     refine PV.thenN ?_
     refine sr ?_
     refine mv ?_
     refine fl hS h15 Rnf.fo83_1 Rnf.one25 fun x31_10 h16 => ?_
     refine LV.call hS h16 (g43_ok _ _ _ _ ) hP rfl rfl rfl rfl fun x32_11 T5 n5 h17 ρ its hS => ?_
     refine LV.alloc hS h17 rfl Rnf.zr36 rfl rfl rfl fun x5_12 T6 n6 h18 ρ its hS hdr => ?_
     refine LV.stA hS h18 rfl rfl rfl Rnf.agg36 rfl rfl rfl fun T7 its h19 hS => ?_
     refine dn ?_
     refine CV.seq ?_
     refine CV.regionM [(0, .anywhere), (1, .held), (2, .anywhere), (3, .held), (4, .anywhere), (5, .held), (6, .anywhere), (7, .anywhere), (8, .anywhere), (9, .held), (10, .held), (11, .alone)] rfl (fun c a a' w hd hq => PanicOk.root (P := Tryz.prog) (fn := Tryz.f15) (w0 := w0) (base := base) (E := envE) (ro := ro) (r := r) (T' := T') (n' := n') (ρ0 := ρ0) c a a' w hd hq) (by kernel_rfl) ?_
     refine MV.lift0 (i := 0) rfl (V.fa h19 rfl Rnf.fo36_0) rfl rfl rfl fun x33_13 h20 => ?_
     refine MV.lift1 (i := 1) rfl (fun _ z => z) (V.ld hS h20 rfl Rnf.one3) rfl rfl rfl [] (by kernel_rfl) fun x34_14 h21 => ?_
     refine MV.lift0 (i := 2) rfl (V.fa h21 rfl Rnf.fo36_1) rfl rfl rfl fun x35_15 h22 => ?_
     refine MV.lift1 (i := 3) rfl (fun _ z => z) (V.ld hS h22 rfl Rnf.one4) rfl rfl rfl [1] (by kernel_rfl) fun x36_16 h23 => ?_
     refine MV.lift0 (i := 4) rfl (V.fa h23 rfl Rnf.fo36_2) rfl rfl rfl fun x37_17 h24 => ?_
     refine MV.lift1 (i := 5) rfl (fun _ z => z) (V.ld hS h24 rfl Rnf.one3) rfl rfl rfl [3, 1] (by kernel_rfl) fun x38_18 h25 => ?_
     refine MV.step0 (i := 6) rfl (VAL.move rfl) rfl rfl rfl ?_
     refine MV.lift0 (i := 7) rfl (V.nc h25 rfl) rfl rfl rfl fun x40_19 h26 => ?_
     refine MV.lift0 (i := 8) rfl (V.fa h26 rfl Rnf.fo83_0) rfl rfl rfl fun x41_20 h27 => ?_
     refine MV.lift1 (i := 9) rfl (fun _ z => z) (V.ld hS h27 rfl Rnf.one9) rfl rfl rfl [5, 3, 1] (by kernel_rfl) fun x42_21 h28 => ?_
     refine MV.lift1 (i := 10) rfl (fun _ z => z) (V.bld h28 rfl) rfl rfl rfl [] (by kernel_rfl) fun x43_22 h29 => ?_
     refine MV.force (i := 11) rfl ?_
     refine LV.stA hS h29 rfl rfl rfl Rnf.agg36 rfl rfl rfl fun T8 its h30 hS => ?_
     refine LV.nextM [] (by kernel_rfl) (fun z => absurd rfl z) ?_
     refine mdn ?_
     refine CV.ret ?_
     refine PV.ldA (x := .tmp 2) (t := 36) hS h30 rfl Rnf.agg36 fun x2_23 h31 hVx2_23 => ?_
     cases h31
     exact PV.ret (by simp) Tryz.results15 hS (RS.cell hVx2_23 RS.nil) rfl
noncomputable def g45_k4 (ro : List HT) (y37 : AV) (T6 : HT) (n6 : Nat) : R :=
 .ok (.val y37) T6 n6
noncomputable def g45_k3 (ro : List HT) (y2 y3 y30 : AV) (T5 : HT) (n5 : Nat) : R :=
 condK 450014 y30
 (
  faK 450015 y2 4 fun x32_8 =>
  ldK 450016 T5 ro x32_8 fun x33_9 =>
  faK 450017 y3 4 fun x34_10 =>
  ldK 450018 T5 ro x34_10 fun x35_11 =>
  eqSK Tryz.prog 9 (.tmp 33) (.tmp 35) 450019 x33_9 x35_11 fun x36_12 =>
  g45_k4 ro x36_12 T5 n5
 )
 (
  g45_k4 ro (.lit (.bool false)) T5 n5
 )
noncomputable def g45_k2 (ro : List HT) (y2 y3 y23 : AV) (T4 : HT) (n4 : Nat) : R :=
 condK 450022 y23
 (
  faK 450023 y2 3 fun x25_13 =>
  ldK 450024 T4 ro x25_13 fun x26_14 =>
  faK 450025 y3 3 fun x27_15 =>
  ldK 450026 T4 ro x27_15 fun x28_16 =>
  bin0 Tryz.prog .eql 4 (.tmp 26) (.tmp 28) 450027 x26_14 x28_16 fun x29_17 =>
  g45_k3 ro y2 y3 x29_17 T4 n4
 )
 (
  g45_k3 ro y2 y3 (.lit (.bool false)) T4 n4
 )
noncomputable def g45_k1 (ro : List HT) (y2 y3 y16 : AV) (T3 : HT) (n3 : Nat) : R :=
 condK 450030 y16
 (
  faK 450031 y2 2 fun x18_18 =>
  ldK 450032 T3 ro x18_18 fun x19_19 =>
  faK 450033 y3 2 fun x20_20 =>
  ldK 450034 T3 ro x20_20 fun x21_21 =>
  eqK Tryz.prog 3 (.tmp 19) (.tmp 21) 450035 x19_19 x21_21 fun x22_22 =>
  g45_k2 ro y2 y3 x22_22 T3 n3
 )
 (
  g45_k2 ro y2 y3 (.lit (.bool false)) T3 n3
 )
noncomputable def g45 (ro : List HT) (a0 a1 : AV) (T : HT) (nx : Nat) : R :=
 boxK 450001 T nx a0 36 fun x2_1 T1 n1 =>
 boxK 450002 T1 n1 a1 36 fun x3_2 T2 n2 =>
 faK 450004 x2_1 0 fun x5_3 =>
 ldK 450005 T2 ro x5_3 fun x6_4 =>
 faK 450006 x3_2 0 fun x7_5 =>
 ldK 450007 T2 ro x7_5 fun x8_6 =>
 eqK Tryz.prog 3 (.tmp 6) (.tmp 8) 450008 x6_4 x8_6 fun x9_7 =>
 condK 450038 x9_7
 (
  faK 450039 x2_1 1 fun x11_23 =>
  ldK 450040 T2 ro x11_23 fun x12_24 =>
  faK 450041 x3_2 1 fun x13_25 =>
  ldK 450042 T2 ro x13_25 fun x14_26 =>
  bin0 Tryz.prog .eql 4 (.tmp 12) (.tmp 14) 450043 x12_24 x14_26 fun x15_27 =>
  g45_k1 ro x2_1 x3_2 x15_27 T2 n2
 )
 (
  g45_k1 ro x2_1 x3_2 (.lit (.bool false)) T2 n2
 )
theorem g45_ok (ro : List HT) (a0 a1 : AV) (T : HT) (nx : Nat) : GOk Tryz.prog envE 45 [a0, a1] ro T nx (g45 ro a0 a1 T nx) := by
 refine GOk.of_body Tryz.func45 rfl Tryz.ntmps45 (by kernel_rfl) rfl fun r T' n' h1 w0 base ρ0 its hS hP => ?_
 have X : CtxW envE ρ0 ro r T' n' := trivial
 unfold g45 at h1
 refine sr ?_
 refine LV.box hS h1 rfl rfl rfl rfl rfl fun x2_1 T1 n1 h2 ρ its hS hdr => ?_
 refine LV.box hS h2 rfl rfl rfl rfl rfl fun x3_2 T2 n2 h3 ρ its hS hdr => ?_
 refine as_ ?_
 refine dn ?_
 refine sr ?_
 refine vy (V.fa h3 rfl Rnf.fo36_0) fun x5_3 h4 => ?_
 refine vy (V.ld hS h4 rfl Rnf.one3) fun x6_4 h5 => ?_
 refine vy (V.fa h5 rfl Rnf.fo36_0) fun x7_5 h6 => ?_
 refine vy (V.ld hS h6 rfl Rnf.one3) fun x8_6 h7 => ?_
 refine vy (V.eq h7 rfl rfl) fun x9_7 h8 => ?_
 refine mv ?_
 refine ls3 X 2 3 16 [(4, (.lit (.bool false)))] (g45_k1 ro) 6 ?_ ?_
 ·
  rcases condK_inv h8 with ⟨e, h31⟩ | ⟨e, h31⟩
  ·
   clear h1 h2 h3 h4 h5 h6 h7 h8
   subst e
   refine vy (V.fa h31 rfl Rnf.fo36_1) fun x11_23 h32 => ?_
   refine vy (V.ld hS h32 rfl Rnf.one4) fun x12_24 h33 => ?_
   refine vy (V.fa h33 rfl Rnf.fo36_1) fun x13_25 h34 => ?_
   refine vy (V.ld hS h34 rfl Rnf.one4) fun x14_26 h35 => ?_
   refine vy (V.bin0 h35 rfl rfl) fun x15_27 h36 => ?_
   refine pu ?_
   exact la3 hS h36 ⟨rfl, rfl, rfl, rfl, trivial⟩
  ·
   clear h1 h2 h3 h4 h5 h6 h7 h8
   subst e
   refine sk ?_
   refine sk ?_
   refine sk ?_
   refine sk ?_
   refine sk ?_
   refine pu ?_
   exact la3 hS h31 ⟨rfl, rfl, rfl, rfl, trivial⟩
 ·
  intro y2 y3 y16 T3 n3 ρ its hS h9
  unfold g45_k1 at h9
  clear h1 h2 h3 h4 h5 h6 h7 h8
  refine mv ?_
  refine ls3 X 2 3 23 [(4, (.lit (.bool false)))] (g45_k2 ro) 6 ?_ ?_
  ·
   rcases condK_inv h9 with ⟨e, h25⟩ | ⟨e, h25⟩
   ·
    clear h9
    subst e
    refine vy (V.fa h25 rfl Rnf.fo36_2) fun x18_18 h26 => ?_
    refine vy (V.ld hS h26 rfl Rnf.one3) fun x19_19 h27 => ?_
    refine vy (V.fa h27 rfl Rnf.fo36_2) fun x20_20 h28 => ?_
    refine vy (V.ld hS h28 rfl Rnf.one3) fun x21_21 h29 => ?_
    refine vy (V.eq h29 rfl rfl) fun x22_22 h30 => ?_
    refine pu ?_
    exact la3 hS h30 ⟨rfl, rfl, rfl, rfl, trivial⟩
   ·
    clear h9
    subst e
    refine sk ?_
    refine sk ?_
    refine sk ?_
    refine sk ?_
    refine sk ?_
    refine pu ?_
    exact la3 hS h25 ⟨rfl, rfl, rfl, rfl, trivial⟩
  ·
   intro y2 y3 y23 T4 n4 ρ its hS h10
   unfold g45_k2 at h10
   clear h9
   refine mv ?_
   refine ls3 X 2 3 30 [(4, (.lit (.bool false)))] (g45_k3 ro) 6 ?_ ?_
   ·
    rcases condK_inv h10 with ⟨e, h19⟩ | ⟨e, h19⟩
    ·
     clear h10
     subst e
     refine vy (V.fa h19 rfl Rnf.fo36_3) fun x25_13 h20 => ?_
     refine vy (V.ld hS h20 rfl Rnf.one4) fun x26_14 h21 => ?_
     refine vy (V.fa h21 rfl Rnf.fo36_3) fun x27_15 h22 => ?_
     refine vy (V.ld hS h22 rfl Rnf.one4) fun x28_16 h23 => ?_
     refine vy (V.bin0 h23 rfl rfl) fun x29_17 h24 => ?_
     refine pu ?_
     exact la3 hS h24 ⟨rfl, rfl, rfl, rfl, trivial⟩
    ·
     clear h10
     subst e
     refine sk ?_
     refine sk ?_
     refine sk ?_
     refine sk ?_
     refine sk ?_
     refine pu ?_
     exact la3 hS h19 ⟨rfl, rfl, rfl, rfl, trivial⟩
   ·
    intro y2 y3 y30 T5 n5 ρ its hS h11
    unfold g45_k3 at h11
    clear h10
    refine mv ?_
    refine ls1 X 37 [(4, (.lit (.bool false)))] (g45_k4 ro) 6 ?_ ?_
    ·
     rcases condK_inv h11 with ⟨e, h13⟩ | ⟨e, h13⟩
     ·
      clear h11
      subst e
      refine vy (V.fa h13 rfl Rnf.fo36_4) fun x32_8 h14 => ?_
      refine vy (V.ld hS h14 rfl Rnf.one9) fun x33_9 h15 => ?_
      refine vy (V.fa h15 rfl Rnf.fo36_4) fun x34_10 h16 => ?_
      refine vy (V.ld hS h16 rfl Rnf.one9) fun x35_11 h17 => ?_
      refine vy (V.eqS h17 rfl rfl) fun x36_12 h18 => ?_
      refine pu ?_
      exact la1 hS h18 ⟨rfl, rfl, trivial⟩
     ·
      clear h11
      subst e
      refine sk ?_
      refine sk ?_
      refine sk ?_
      refine sk ?_
      refine sk ?_
      refine pu ?_
      exact la1 hS h13 ⟨rfl, rfl, trivial⟩
    ·
     intro y37 T6 n6 ρ its hS h12
     unfold g45_k4 at h12
     clear h11
     refine as_ ?_
     refine dn ?_
     refine CV.ret ?_
     cases h12
     exact PV.ret (by simp) Tryz.results45 hS (RS.tmp rfl RS.nil) rfl
noncomputable def g16 (ro : List HT) (a0 a1 : AV) (T : HT) (nx : Nat) : R :=
 boxK 160001 T nx a1 36 fun x3_1 T1 n1 =>
 ldAQK 160004 T1 ro [x3_1] x3_1 5 fun x7_2 =>
 callK (g15 ro a0 T1 n1) fun x6_3 T2 n2 =>
 keepK 160006 T1 T2 [x3_1] <|
 callK (g45 ro x6_3 x7_2 T2 n2) fun x8_4 T3 n3 =>
 .ok (.val x8_4) T3 n3
theorem g16_ok (ro : List HT) (a0 a1 : AV) (T : HT) (nx : Nat) : GOk Tryz.prog envE 16 [a0, a1] ro T nx (g16 ro a0 a1 T nx) := by
 refine GOk.of_body Tryz.func16 rfl Tryz.ntmps16 (by kernel_rfl) rfl fun r T' n' h1 w0 base ρ0 its hS hP => ?_
 have X : CtxW envE ρ0 ro r T' n' := trivial
 unfold g16 at h1
 refine sr ?_
 refine LV.box hS h1 rfl rfl rfl rfl rfl fun x3_1 T1 n1 h2 ρ its hS hdr => ?_
 refine as_ ?_
 refine dn ?_
 refine CV.seq ?_
 refine CV.regionMS hS [x3_1] [(0, .anywhere), (2, .held), (1, .alone), (3, .alone), (4, .alone)] rfl (fun c a a' w hd hq => PanicOk.root (P := Tryz.prog) (fn := Tryz.f16) (w0 := w0) (base := base) (E := envE) (ro := ro) (r := r) (T' := T') (n' := n') (ρ0 := ρ0) c a a' w hd hq) (by kernel_rfl) ?_
 have hK := KeepS.start [x3_1] hS
 have hR := hS
 have hP0 := hP
 replace hP := PK.up hR hP
 replace hS := hR.root
 refine MV.step0 (i := 0) rfl (VAL.move rfl) rfl rfl rfl ?_
 refine MV.lift1 (i := 2) rfl hK (V.ldAQ hS h2 rfl Rnf.agg36) rfl rfl rfl [] (by kernel_rfl) fun x7_2 h3 => ?_
 refine MV.force (i := 1) rfl ?_
 refine LV.call hS h3 (g15_ok _ _ _ _ ) hP rfl rfl rfl rfl fun x6_3 T2 n2 h4 ρ its hS => ?_
 obtain ⟨hK, h5⟩ := KeepS.step hR hS h4
 refine LV.nextM [2] (by kernel_rfl) (fun _ => hK) ?_
 refine MV.force (i := 3) rfl ?_
 refine LV.call hS h5 (g45_ok _ _ _ _ _ ) hP rfl rfl rfl rfl fun x8_4 T3 n3 h6 ρ its hS => ?_
 refine LV.nextM [] (by kernel_rfl) (fun z => absurd rfl z) ?_
 refine MV.force (i := 4) rfl ?_
 refine as_ ?_
 refine LV.nextM [] (by kernel_rfl) (fun z => absurd rfl z) ?_
 replace hS := hR.up hS
 replace hP := hP0
 refine mdn ?_
 refine CV.ret ?_
 cases h6
 exact PV.ret (by simp) Tryz.results16 hS (RS.tmp rfl RS.nil) rfl
noncomputable def g36_k3 (ro : List HT) (lp1 : AV → AV → AV → AV → AV → AV → HT → Nat → R) (y1 y2 y6 y8 y9 y10 y11 y27 : AV) (T3 : HT) (n3 : Nat) : R :=
 condK 360015 y27
 (
  .bad 360016
 )
 (
  iaK 360019 y2 y8 1 fun x30_6 =>
  stK 360020 T3 x30_6 (.lit (.bool true)) fun T4 =>
  addK Tryz.prog 3 (.tmp 11) (.const (.int .i64 (.ofNat 1))) 360021 y11 (.lit (.int .i64 (.ofNat 1))) fun x31_7 =>
  lp1 y1 y2 y6 y9 y10 x31_7 T4 n3
 )
noncomputable def g36_k2 (ro : List HT) (lp1 : AV → AV → AV → AV → AV → AV → HT → Nat → R) (y1 y2 y6 y8 y9 y10 y11 y21 : AV) (T2 : HT) (n2 : Nat) : R :=
 condK 360023 y21
 (
  g36_k3 ro lp1 y1 y2 y6 y8 y9 y10 y11 (.lit (.bool true)) T2 n2
 )
 (
  iaK 360027 y2 y8 1 fun x25_8 =>
  ldK 360028 T2 ro x25_8 fun x26_9 =>
  g36_k3 ro lp1 y1 y2 y6 y8 y9 y10 y11 x26_9 T2 n2
 )
noncomputable def g36_b1 (ro : List HT) (lp1 : AV → AV → AV → AV → AV → AV → HT → Nat → R) (y1 y2 y6 y9 y10 y11 : AV) (T1 : HT) (n1 : Nat) : R :=
 ltK Tryz.prog 3 (.tmp 11) (.tmp 10) 360006 y11 y10 fun x12_2 =>
 condK 360007 x12_2
 (
  iaK 360008 y9 y11 1 fun x13_3 =>
  ldK 360009 T1 ro x13_3 fun x14_4 =>
  ltK Tryz.prog 3 (.tmp 15) (.const (.int .i64 (.ofNat 0))) 360012 x14_4 (.lit (.int .i64 (.ofNat 0))) fun x16_5 =>
  condK 360030 x16_5
  (
   g36_k2 ro lp1 y1 y2 y6 x14_4 y9 y10 y11 (.lit (.bool true)) T1 n1
  )
  (
   geK Tryz.prog 3 (.tmp 18) (.tmp 19) 360034 x14_4 y1 fun x20_10 =>
   g36_k2 ro lp1 y1 y2 y6 x14_4 y9 y10 y11 x20_10 T1 n1
  )
 )
 (
  .ok (.val (.lit (.bool true))) T1 n1
 )
noncomputable def g36 (ro : List HT) (a0 a1 a2 : AV) (T : HT) (nx : Nat) : R :=
 lenSK 360003 a0 fun x10_1 =>
 lpf6 360005 (g36_b1 ro) 100000 a1 a2 (.lit (.bool false)) a0 x10_1 (.lit (.int .i64 (.ofNat 0))) T nx
theorem g36_ok (ro : List HT) (a0 a1 a2 : AV) (T : HT) (nx : Nat) : GOk Tryz.prog envE 36 [a0, a1, a2] ro T nx (g36 ro a0 a1 a2 T nx) := by
 refine GOk.of_body Tryz.func36 rfl Tryz.ntmps36 (by kernel_rfl) rfl fun r T' n' h1 w0 base ρ0 its hS hP => ?_
 have X : CtxW envE ρ0 ro r T' n' := trivial
 unfold g36 at h1
 refine sr ?_
 refine as_ ?_
 refine dn ?_
 refine CV.seq ?_
 refine sr ?_
 refine mv ?_
 refine vy (V.lenS h1 rfl Rnf.ls30) fun x10_1 h2 => ?_
 refine mv ?_
 refine dn ?_
 refine CV.block ?_
 refine cl6 X 1 2 6 9 10 11 [] hS h2 ⟨rfl, rfl, rfl, rfl, rfl, rfl, trivial⟩ ?_
 intro f1 y1 y2 y6 y9 y10 y11 T1 n1 ρ its hS h3
 unfold g36_b1 at h3
 clear h1 h2
 refine sr ?_
 refine vy (V.lt h3 rfl rfl) fun x12_2 h4 => ?_
 refine dn ?_
 refine CV.seq ?_
 refine CV.cond h4 rfl (fun e h5 => ?_) (fun e h5 => ?_)
 ·
  clear h3 h4
  subst e
  refine CV.skip ?_
  refine PV.thenN ?_
  refine CV.seq ?_
  refine CV.block ?_
  refine sr ?_
  refine vy (V.ia h5 rfl rfl Rnf.el30) fun x13_3 h6 => ?_
  refine vy (V.ld hS h6 rfl Rnf.one3) fun x14_4 h7 => ?_
  refine as_ ?_
  refine dn ?_
  refine CV.seq ?_
  refine sr ?_
  refine mv ?_
  refine vy (V.lt h7 rfl rfl) fun x16_5 h8 => ?_
  refine mv ?_
  refine ls8 X 1 2 6 8 9 10 11 21 [] (g36_k2 ro (lpf6 360005 (g36_b1 ro) f1)) 4 ?_ ?_
  ·
   rcases condK_inv h8 with ⟨e, h18⟩ | ⟨e, h18⟩
   ·
    clear h5 h6 h7 h8
    subst e
    refine sk ?_
    refine sk ?_
    refine sk ?_
    refine pu ?_
    exact la8 hS h18 ⟨rfl, rfl, rfl, rfl, rfl, rfl, rfl, rfl, trivial⟩
   ·
    clear h5 h6 h7 h8
    subst e
    refine mv ?_
    refine mv ?_
    refine vy (V.ge h18 rfl rfl) fun x20_10 h19 => ?_
    refine pu ?_
    exact la8 hS h19 ⟨rfl, rfl, rfl, rfl, rfl, rfl, rfl, rfl, trivial⟩
  ·
   intro y1 y2 y6 y8 y9 y10 y11 y21 T2 n2 ρ its hS h9
   unfold g36_k2 at h9
   clear h5 h6 h7 h8
   refine mv ?_
   refine ls8 X 1 2 6 8 9 10 11 27 [] (g36_k3 ro (lpf6 360005 (g36_b1 ro) f1)) 5 ?_ ?_
   ·
    rcases condK_inv h9 with ⟨e, h15⟩ | ⟨e, h15⟩
    ·
     clear h9
     subst e
     refine sk ?_
     refine sk ?_
     refine sk ?_
     refine sk ?_
     refine pu ?_
     exact la8 hS h15 ⟨rfl, rfl, rfl, rfl, rfl, rfl, rfl, rfl, trivial⟩
    ·
     clear h9
     subst e
     refine mv ?_
     refine mv ?_
     refine vy (V.ia h15 rfl rfl Rnf.el67) fun x25_8 h16 => ?_
     refine vy (V.ld hS h16 rfl Rnf.one4) fun x26_9 h17 => ?_
     refine pu ?_
     exact la8 hS h17 ⟨rfl, rfl, rfl, rfl, rfl, rfl, rfl, rfl, trivial⟩
   ·
    intro y1 y2 y6 y8 y9 y10 y11 y27 T3 n3 ρ its hS h10
    unfold g36_k3 at h10
    clear h9
    refine dn ?_
    refine CV.cond h10 rfl (fun e h11 => ?_) (fun e h11 => ?_)
    ·
     clear h10
     subst e
     cases h11
    ·
     clear h10
     subst e
     refine CV.skip ?_
     refine PV.thenN ?_
     refine CV.region ?_
     refine mv ?_
     refine mv ?_
     refine vy (V.ia h11 rfl rfl Rnf.el67) fun x30_6 h12 => ?_
     refine LV.st hS h12 rfl rfl rfl Rnf.siz4 rfl rfl fun T4 its h13 hS => ?_
     refine LV.done ?_
     refine PV.blockN ?_
     refine PV.thenN ?_
     refine CV.region ?_
     refine vy (V.add h13 rfl rfl) fun x31_7 h14 => ?_
     refine mv ?_
     refine LV.done ?_
     exact pb6 hS h14 ⟨rfl, rfl, rfl, rfl, rfl, rfl, trivial⟩
 ·
  clear h3 h4
  subst e
  refine CV.exit ?_
  refine PV.thenE ?_
  refine PV.thenE ?_
  refine PV.blockE ?_
  refine PV.thenN ?_
  refine sr ?_
  refine as_ ?_
  refine dn ?_
  refine CV.ret ?_
  cases h5
  exact PV.ret (by simp) Tryz.results36 hS (RS.tmp rfl RS.nil) rfl
noncomputable def g66_k2 (ro : List HT) (lp1 : AV → AV → AV → AV → HT → Nat → R) (y0 y2 y5 y6 y24 : AV) (T3 : HT) (n3 : Nat) : R :=
 condK 660016 y24
 (
  .bad 660017
 )
 (
  addK Tryz.prog 3 (.tmp 6) (.const (.int .i64 (.ofNat 1))) 660018 y6 (.lit (.int .i64 (.ofNat 1))) fun x25_6 =>
  lp1 y0 y2 y5 x25_6 T3 n3
 )
noncomputable def g66_k3 (ro : List HT) (lp1 : AV → AV → AV → AV → HT → Nat → R) (y0 y2 y5 y6 y23 : AV) (T4 : HT) (n4 : Nat) : R :=
 g66_k2 ro lp1 y0 y2 y5 y6 y23 T4 n4
noncomputable def g66_k4 (ro : List HT) (y2 y33 : AV) (T6 : HT) (n6 : Nat) : R :=
 .ok (.val y33) T6 n6
noncomputable def g66_b1 (ro : List HT) (lp1 : AV → AV → AV → AV → HT → Nat → R) (y0 y2 y5 y6 : AV) (T1 : HT) (n1 : Nat) : R :=
 ltK Tryz.prog 3 (.tmp 6) (.tmp 5) 660006 y6 y5 fun x7_2 =>
 condK 660007 x7_2
 (
  ixK 660012 y0 y6 fun x11_3 =>
  callK (g104 ro x11_3 T1 n1) fun x12_4 T2 n2 =>
  notK 660014 x12_4 fun x13_5 =>
  condK 660020 x13_5
  (
   eqK Tryz.prog 3 (.tmp 15) (.const (.int .i64 (.ofNat 0))) 660022 y6 (.lit (.int .i64 (.ofNat 0))) fun x16_7 =>
   condK 660025 x16_7
   (
    g66_k3 ro lp1 y0 y2 y5 y6 (.lit (.bool true)) T2 n2
   )
   (
    ixK 660029 y0 y6 fun x20_8 =>
    callK (g105 ro x20_8 T2 n2) fun x21_9 T5 n5 =>
    notK 660031 x21_9 fun x22_10 =>
    g66_k3 ro lp1 y0 y2 y5 y6 x22_10 T5 n5
   )
  )
  (
   g66_k2 ro lp1 y0 y2 y5 y6 (.lit (.bool false)) T2 n2
  )
 )
 (
  neSK Tryz.prog 9 (.tmp 26) (.const (.string ⟨⟨[]⟩⟩)) 660035 y0 (.lit (.string ⟨⟨[]⟩⟩)) fun x27_11 =>
  condK 660038 x27_11
  (
   callK (g106 ro T1 n1) fun x29_12 T7 n7 =>
   callK (g87 ro x29_12 y0 T7 n7) fun x31_13 T8 n8 =>
   notK 660042 x31_13 fun x32_14 =>
   g66_k4 ro y2 x32_14 T8 n8
  )
  (
   g66_k4 ro y2 (.lit (.bool false)) T1 n1
  )
 )
noncomputable def g66 (ro : List HT) (a0 : AV) (T : HT) (nx : Nat) : R :=
 lenTK 660003 a0 fun x5_1 =>
 lpf4 660005 (g66_b1 ro) 100000 a0 (.lit (.bool false)) x5_1 (.lit (.int .i64 (.ofNat 0))) T nx
theorem g66_ok (ro : List HT) (a0 : AV) (T : HT) (nx : Nat) : GOk Tryz.prog envE 66 [a0] ro T nx (g66 ro a0 T nx) := by
 refine GOk.of_body Tryz.func66 rfl Tryz.ntmps66 (by kernel_rfl) rfl fun r T' n' h1 w0 base ρ0 its hS hP => ?_
 have X : CtxW envE ρ0 ro r T' n' := trivial
 unfold g66 at h1
 refine sr ?_
 refine as_ ?_
 refine dn ?_
 refine CV.seq ?_
 refine sr ?_
 refine mv ?_
 refine vy (V.lenT h1 rfl Rnf.ls9) fun x5_1 h2 => ?_
 refine mv ?_
 refine dn ?_
 refine CV.block ?_
 refine cl4 X 0 2 5 6 [] hS h2 ⟨rfl, rfl, rfl, rfl, trivial⟩ ?_
 intro f1 y0 y2 y5 y6 T1 n1 ρ its hS h3
 unfold g66_b1 at h3
 clear h1 h2
 refine sr ?_
 refine vy (V.lt h3 rfl rfl) fun x7_2 h4 => ?_
 refine dn ?_
 refine CV.seq ?_
 refine CV.cond h4 rfl (fun e h5 => ?_) (fun e h5 => ?_)
 ·
  clear h3 h4
  subst e
  refine CV.skip ?_
  refine PV.thenN ?_
  refine CV.seq ?_
  refine CV.block ?_
  refine sr ?_
  refine mv ?_
  refine as_ ?_
  refine dn ?_
  refine sr ?_
  refine mv ?_
  refine mv ?_
  refine vy (V.ix h5 rfl rfl Rnf.st9) fun x11_3 h6 => ?_
  refine LV.call hS h6 (g104_ok _ _ _ _ ) hP rfl rfl rfl rfl fun x12_4 T2 n2 h7 ρ its hS => ?_
  refine vy (V.not h7 rfl) fun x13_5 h8 => ?_
  refine mv ?_
  refine ls5 X 0 2 5 6 24 [] (g66_k2 ro (lpf4 660005 (g66_b1 ro) f1)) 10 ?_ ?_
  ·
   rcases condK_inv h8 with ⟨e, h12⟩ | ⟨e, h12⟩
   ·
    clear h5 h6 h7 h8
    subst e
    refine mv ?_
    refine vy (V.eq h12 rfl rfl) fun x16_7 h13 => ?_
    refine mv ?_
    refine ls5 X 0 2 5 6 23 [(14, (.lit (.bool true)))] (g66_k3 ro (lpf4 660005 (g66_b1 ro) f1)) 6 ?_ ?_
    ·
     rcases condK_inv h13 with ⟨e, h15⟩ | ⟨e, h15⟩
     ·
      clear h12 h13
      subst e
      refine sk ?_
      refine sk ?_
      refine sk ?_
      refine sk ?_
      refine sk ?_
      refine pu ?_
      exact la5 hS h15 ⟨rfl, rfl, rfl, rfl, rfl, rfl, trivial⟩
     ·
      clear h12 h13
      subst e
      refine mv ?_
      refine mv ?_
      refine vy (V.ix h15 rfl rfl Rnf.st9) fun x20_8 h16 => ?_
      refine LV.call hS h16 (g105_ok _ _ _ _ ) hP rfl rfl rfl rfl fun x21_9 T5 n5 h17 ρ its hS => ?_
      refine vy (V.not h17 rfl) fun x22_10 h18 => ?_
      refine pu ?_
      exact la5 hS h18 ⟨rfl, rfl, rfl, rfl, rfl, rfl, trivial⟩
    ·
     intro y0 y2 y5 y6 y23 T4 n4 ρ its hS h14
     unfold g66_k3 at h14
     clear h12 h13
     refine pu ?_
     exact la5 hS h14 ⟨rfl, rfl, rfl, rfl, rfl, trivial⟩
   ·
    clear h5 h6 h7 h8
    subst e
    refine sk ?_
    refine sk ?_
    refine sk ?_
    refine sk ?_
    refine sk ?_
    refine sk ?_
    refine sk ?_
    refine sk ?_
    refine sk ?_
    refine pu ?_
    exact la5 hS h12 ⟨rfl, rfl, rfl, rfl, rfl, trivial⟩
  ·
   intro y0 y2 y5 y6 y24 T3 n3 ρ its hS h9
   unfold g66_k2 at h9
   clear h5 h6 h7 h8
   refine dn ?_
   refine CV.cond h9 rfl (fun e h10 => ?_) (fun e h10 => ?_)
   ·
    clear h9
    subst e
    cases h10
   ·
    clear h9
    subst e
    refine CV.skip ?_
    refine PV.blockN ?_
    refine PV.thenN ?_
    refine CV.region ?_
    refine vy (V.add h10 rfl rfl) fun x25_6 h11 => ?_
    refine mv ?_
    refine LV.done ?_
    exact pb4 hS h11 ⟨rfl, rfl, rfl, rfl, trivial⟩
 ·
  clear h3 h4
  subst e
  refine CV.exit ?_
  refine PV.thenE ?_
  refine PV.thenE ?_
  refine PV.blockE ?_
  refine PV.thenN ?_
  refine sr ?_
  refine mv ?_
  refine vy (V.neS h5 rfl rfl) fun x27_11 h19 => ?_
  refine mv ?_
  refine ls2 X 2 33 [] (g66_k4 ro) 5 ?_ ?_
  ·
   rcases condK_inv h19 with ⟨e, h21⟩ | ⟨e, h21⟩
   ·
    clear h5 h19
    subst e
    refine LV.call hS h21 (g106_ok _ _ _ ) hP rfl rfl rfl rfl fun x29_12 T7 n7 h22 ρ its hS => ?_
    refine mv ?_
    refine LV.call hS h22 (g87_ok _ _ _ _ _ ) hP rfl rfl rfl rfl fun x31_13 T8 n8 h23 ρ its hS => ?_
    refine vy (V.not h23 rfl) fun x32_14 h24 => ?_
    refine pu ?_
    exact la2 hS h24 ⟨rfl, rfl, trivial⟩
   ·
    clear h5 h19
    subst e
    refine sk ?_
    refine sk ?_
    refine sk ?_
    refine sk ?_
    refine pu ?_
    exact la2 hS h21 ⟨rfl, rfl, trivial⟩
  ·
   intro y2 y33 T6 n6 ρ its hS h20
   unfold g66_k4 at h20
   clear h5 h19
   refine as_ ?_
   refine dn ?_
   refine CV.ret ?_
   cases h20
   exact PV.ret (by simp) Tryz.results66 hS (RS.tmp rfl RS.nil) rfl
noncomputable def g109_b1 (ro : List HT) (lp1 : AV → AV → AV → AV → AV → AV → HT → Nat → R) (y0 y2 y6 y9 y10 y11 : AV) (T1 : HT) (n1 : Nat) : R :=
 ltK Tryz.prog 3 (.tmp 11) (.tmp 10) 1090006 y11 y10 fun x12_2 =>
 condK 1090007 x12_2
 (
  iaK 1090008 y9 y11 1 fun x13_3 =>
  ldK 1090009 T1 ro x13_3 fun x14_4 =>
  fldK 1090013 T1 ro y0 0 fun x19_5 =>
  iaK 1090015 x19_5 x14_4 5 fun x21_6 =>
  ldAK 1090016 T1 ro x21_6 5 fun x22_7 =>
  dynK 1090017 y2 fun f p q => callK (scc3 4000 f ro (p ++ ([x22_7] ++ q)) T1 n1) fun x23_8 T2 n2 =>
  notK 1090018 x23_8 fun x24_9 =>
  condK 1090019 x24_9
  (
   .bad 1090020
  )
  (
   addK Tryz.prog 3 (.tmp 11) (.const (.int .i64 (.ofNat 1))) 1090021 y11 (.lit (.int .i64 (.ofNat 1))) fun x25_10 =>
   lp1 y0 y2 y6 y9 y10 x25_10 T2 n2
  )
 )
 (
  .ok (.val (.lit (.bool true))) T1 n1
 )
noncomputable def g109 (ro : List HT) (a0 a1 a2 : AV) (T : HT) (nx : Nat) : R :=
 lenSK 1090003 a1 fun x10_1 =>
 lpf6 1090005 (g109_b1 ro) 100000 a0 a2 (.lit (.bool false)) a1 x10_1 (.lit (.int .i64 (.ofNat 0))) T nx
theorem g109_ok (ro : List HT) (a0 a1 a2 : AV) (T : HT) (nx : Nat) : GOk Tryz.prog envE 109 [a0, a1, a2] ro T nx (g109 ro a0 a1 a2 T nx) := by
 refine GOk.of_body Tryz.func109 rfl Tryz.ntmps109 (by kernel_rfl) rfl fun r T' n' h1 w0 base ρ0 its hS hP => ?_
 have X : CtxW envE ρ0 ro r T' n' := trivial
 unfold g109 at h1
 refine sr ?_
 refine as_ ?_
 refine dn ?_
 refine CV.seq ?_
 refine sr ?_
 refine mv ?_
 refine vy (V.lenS h1 rfl Rnf.ls30) fun x10_1 h2 => ?_
 refine mv ?_
 refine dn ?_
 refine CV.block ?_
 refine cl6 X 0 2 6 9 10 11 [] hS h2 ⟨rfl, rfl, rfl, rfl, rfl, rfl, trivial⟩ ?_
 intro f1 y0 y2 y6 y9 y10 y11 T1 n1 ρ its hS h3
 unfold g109_b1 at h3
 clear h1 h2
 refine sr ?_
 refine vy (V.lt h3 rfl rfl) fun x12_2 h4 => ?_
 refine dn ?_
 refine CV.seq ?_
 refine CV.cond h4 rfl (fun e h5 => ?_) (fun e h5 => ?_)
 ·
  clear h3 h4
  subst e
  refine CV.skip ?_
  refine PV.thenN ?_
  refine CV.seq ?_
  refine CV.block ?_
  refine sr ?_
  refine vy (V.ia h5 rfl rfl Rnf.el30) fun x13_3 h6 => ?_
  refine vy (V.ld hS h6 rfl Rnf.one3) fun x14_4 h7 => ?_
  refine as_ ?_
  refine dn ?_
  refine sr ?_
  refine mv ?_
  refine mv ?_
  refine fl hS h7 Rnf.fo69_0 Rnf.one23 fun x19_5 h8 => ?_
  refine mv ?_
  refine vy (V.ia h8 rfl rfl Rnf.el23) fun x21_6 h9 => ?_
  refine vy (V.ldA hS h9 rfl Rnf.agg32) fun x22_7 h10 => ?_
  refine LV.callD (G := fun f gs => scc3 4000 f ro gs T1 n1) (qs := [x22_7]) hS h10 (fun f gs => scc3_ok _ _ _ _ _ _) hP rfl rfl rfl rfl rfl rfl rfl fun x23_8 T2 n2 h11 ρ its hS => ?_
  refine vy (V.not h11 rfl) fun x24_9 h12 => ?_
  refine dn ?_
  refine CV.cond h12 rfl (fun e h13 => ?_) (fun e h13 => ?_)
  ·
   clear h5 h6 h7 h8 h9 h10 h11 h12
   subst e
   cases h13
  ·
   clear h5 h6 h7 h8 h9 h10 h11 h12
   subst e
   refine CV.skip ?_
   refine PV.blockN ?_
   refine PV.thenN ?_
   refine CV.region ?_
   refine vy (V.add h13 rfl rfl) fun x25_10 h14 => ?_
   refine mv ?_
   refine LV.done ?_
   exact pb6 hS h14 ⟨rfl, rfl, rfl, rfl, rfl, rfl, trivial⟩
 ·
  clear h3 h4
  subst e
  refine CV.exit ?_
  refine PV.thenE ?_
  refine PV.thenE ?_
  refine PV.blockE ?_
  refine PV.thenN ?_
  refine sr ?_
  refine as_ ?_
  refine dn ?_
  refine CV.ret ?_
  cases h5
  exact PV.ret (by simp) Tryz.results109 hS (RS.tmp rfl RS.nil) rfl
noncomputable def g107_k2 (ro : List HT) (y23 : AV) (T2 : HT) (n2 : Nat) : R :=
 .ok (.val y23) T2 n2
noncomputable def g107_k1 (ro : List HT) (y0 y1 y18 : AV) (T1 : HT) (n1 : Nat) : R :=
 condK 1070009 y18
 (
  callK (g109 ro y0 y1 (.lit (.func (.func 183) #[] #[])) T1 n1) fun x22_3 T3 n3 =>
  g107_k2 ro x22_3 T3 n3
 )
 (
  g107_k2 ro (.lit (.bool false)) T1 n1
 )
noncomputable def g107 (ro : List HT) (a0 a1 a2 a3 : AV) (T : HT) (nx : Nat) : R :=
 lenSK 1070003 a1 fun x10_1 =>
 geK Tryz.prog 3 (.tmp 10) (.tmp 11) 1070005 x10_1 a2 fun x12_2 =>
 condK 1070015 x12_2
 (
  lenSK 1070017 a1 fun x15_4 =>
  leK Tryz.prog 3 (.tmp 15) (.tmp 16) 1070019 x15_4 a3 fun x17_5 =>
  g107_k1 ro a0 a1 x17_5 T nx
 )
 (
  g107_k1 ro a0 a1 (.lit (.bool false)) T nx
 )
theorem g107_ok (ro : List HT) (a0 a1 a2 a3 : AV) (T : HT) (nx : Nat) : GOk Tryz.prog envE 107 [a0, a1, a2, a3] ro T nx (g107 ro a0 a1 a2 a3 T nx) := by
 refine GOk.of_body Tryz.func107 rfl Tryz.ntmps107 (by kernel_rfl) rfl fun r T' n' h1 w0 base ρ0 its hS hP => ?_
 have X : CtxW envE ρ0 ro r T' n' := trivial
 unfold g107 at h1
 refine sr ?_
 refine as_ ?_
 refine dn ?_
 refine sr ?_
 refine mv ?_
 refine vy (V.lenS h1 rfl Rnf.ls30) fun x10_1 h2 => ?_
 refine mv ?_
 refine vy (V.ge h2 rfl rfl) fun x12_2 h3 => ?_
 refine mv ?_
 refine ls3 X 0 1 18 [(8, (.lit (.bool false)))] (g107_k1 ro) 5 ?_ ?_
 ·
  rcases condK_inv h3 with ⟨e, h8⟩ | ⟨e, h8⟩
  ·
   clear h1 h2 h3
   subst e
   refine mv ?_
   refine vy (V.lenS h8 rfl Rnf.ls30) fun x15_4 h9 => ?_
   refine mv ?_
   refine vy (V.le h9 rfl rfl) fun x17_5 h10 => ?_
   refine pu ?_
   exact la3 hS h10 ⟨rfl, rfl, rfl, rfl, trivial⟩
  ·
   clear h1 h2 h3
   subst e
   refine sk ?_
   refine sk ?_
   refine sk ?_
   refine sk ?_
   refine pu ?_
   exact la3 hS h8 ⟨rfl, rfl, rfl, rfl, trivial⟩
 ·
  intro y0 y1 y18 T1 n1 ρ its hS h4
  unfold g107_k1 at h4
  clear h1 h2 h3
  refine mv ?_
  refine ls1 X 23 [(8, (.lit (.bool false)))] (g107_k2 ro) 4 ?_ ?_
  ·
   rcases condK_inv h4 with ⟨e, h6⟩ | ⟨e, h6⟩
   ·
    clear h4
    subst e
    refine mv ?_
    refine mv ?_
    refine LV.call hS h6 (g109_ok _ _ _ _ _ _ ) hP rfl rfl rfl rfl fun x22_3 T3 n3 h7 ρ its hS => ?_
    refine pu ?_
    exact la1 hS h7 ⟨rfl, rfl, trivial⟩
   ·
    clear h4
    subst e
    refine sk ?_
    refine sk ?_
    refine sk ?_
    refine pu ?_
    exact la1 hS h6 ⟨rfl, rfl, trivial⟩
  ·
   intro y23 T2 n2 ρ its hS h5
   unfold g107_k2 at h5
   clear h4
   refine as_ ?_
   refine dn ?_
   refine CV.ret ?_
   cases h5
   exact PV.ret (by simp) Tryz.results107 hS (RS.tmp rfl RS.nil) rfl
noncomputable def g115 (ro : List HT) (a0 a1 a2 : AV) (T : HT) (nx : Nat) : R :=
 fldK 1150003 T ro a0 0 fun x10_1 =>
 iaK 1150005 x10_1 a1 5 fun x12_2 =>
 faK 1150006 x12_2 0 fun x13_3 =>
 ldK 1150007 T ro x13_3 fun x14_4 =>
 eqK Tryz.prog 3 (.tmp 14) (.tmp 15) 1150009 x14_4 a2 fun x16_5 =>
 .ok (.val x16_5) T nx
theorem g115_ok (ro : List HT) (a0 a1 a2 : AV) (T : HT) (nx : Nat) : GOk Tryz.prog envE 115 [a0, a1, a2] ro T nx (g115 ro a0 a1 a2 T nx) := by
 refine GOk.of_body Tryz.func115 rfl Tryz.ntmps115 (by kernel_rfl) rfl fun r T' n' h1 w0 base ρ0 its hS hP => ?_
 have X : CtxW envE ρ0 ro r T' n' := trivial
 unfold g115 at h1
 refine sr ?_
 refine as_ ?_
 refine dn ?_
 refine sr ?_
 refine mv ?_
 refine fl hS h1 Rnf.fo69_0 Rnf.one23 fun x10_1 h2 => ?_
 refine mv ?_
 refine vy (V.ia h2 rfl rfl Rnf.el23) fun x12_2 h3 => ?_
 refine vy (V.fa h3 rfl Rnf.fo32_0) fun x13_3 h4 => ?_
 refine vy (V.ld hS h4 rfl Rnf.one3) fun x14_4 h5 => ?_
 refine mv ?_
 refine vy (V.eq h5 rfl rfl) fun x16_5 h6 => ?_
 refine as_ ?_
 refine dn ?_
 refine CV.ret ?_
 cases h6
 exact PV.ret (by simp) Tryz.results115 hS (RS.tmp rfl RS.nil) rfl
noncomputable def g112_k1 (ih : FuncId → List HT → List AV → HT → Nat → R) (ro : List HT) (y0 y5 y25 : AV) (T3 : HT) (n3 : Nat) : R :=
 .ok (.val y25) T3 n3
noncomputable def g112_b2 (ih : FuncId → List HT → List AV → HT → Nat → R) (ro : List HT) (lp2 : AV → AV → AV → AV → AV → AV → HT → Nat → R) (y0 y4 y5 y27 y28 y29 : AV) (T4 : HT) (n4 : Nat) : R :=
 ltK Tryz.prog 3 (.tmp 29) (.tmp 28) 1120029 y29 y28 fun x30_17 =>
 condK 1120030 x30_17
 (
  iaK 1120031 y27 y29 1 fun x31_18 =>
  ldK 1120032 T4 ro x31_18 fun x32_19 =>
  callK (ih 112 ro [y0, x32_19] T4 n4) fun x35_20 T5 n5 =>
  notK 1120037 x35_20 fun x36_21 =>
  condK 1120038 x36_21
  (
   .bad 1120039
  )
  (
   addK Tryz.prog 3 (.tmp 29) (.const (.int .i64 (.ofNat 1))) 1120040 y29 (.lit (.int .i64 (.ofNat 1))) fun x37_22 =>
   lp2 y0 y4 y5 y27 y28 x37_22 T5 n5
  )
 )
 (
  faK 1120042 y5 4 fun x38_23 =>
  ldK 1120043 T4 ro x38_23 fun x39_24 =>
  lenSK 1120044 x39_24 fun x40_25 =>
  gtK Tryz.prog 3 (.tmp 40) (.const (.int .i64 (.ofNat 0))) 1120045 x40_25 (.lit (.int .i64 (.ofNat 0))) fun x41_26 =>
  .ok (.val x41_26) T4 n4
 )
noncomputable def g112 (ih : FuncId → List HT → List AV → HT → Nat → R) (ro : List HT) (a0 a1 : AV) (T : HT) (nx : Nat) : R :=
 fldK 1120003 T ro a0 0 fun x11_1 =>
 iaK 1120005 x11_1 a1 5 fun x13_2 =>
 ldAK 1120006 T ro x13_2 5 fun x14_3 =>
 newK T nx (.obj [.lit (.int .i64 0), .lit (.int .i64 0), .lit (.int .i64 0), .lit (.string ⟨#[]⟩), .lit (.slice none 0 0)] 32) fun x5_4 T1 n1 =>
 stAK 1120008 T1 x5_4 x14_3 5 fun T2 =>
 faK 1120009 x5_4 0 fun x15_5 =>
 ldK 1120010 T2 ro x15_5 fun x16_6 =>
 neK Tryz.prog 3 (.tmp 16) (.const (.int .i64 (.ofNat 8))) 1120011 x16_6 (.lit (.int .i64 (.ofNat 8))) fun x17_7 =>
 condK 1120012 x17_7
 (
  faK 1120013 x5_4 0 fun x18_8 =>
  ldK 1120014 T2 ro x18_8 fun x19_9 =>
  eqK Tryz.prog 3 (.tmp 19) (.const (.int .i64 (.ofNat 6))) 1120015 x19_9 (.lit (.int .i64 (.ofNat 6))) fun x20_10 =>
  condK 1120018 x20_10
  (
   g112_k1 ih ro a0 x5_4 (.lit (.bool true)) T2 n1
  )
  (
   faK 1120020 x5_4 0 fun x22_11 =>
   ldK 1120021 T2 ro x22_11 fun x23_12 =>
   eqK Tryz.prog 3 (.tmp 23) (.const (.int .i64 (.ofNat 13))) 1120022 x23_12 (.lit (.int .i64 (.ofNat 13))) fun x24_13 =>
   g112_k1 ih ro a0 x5_4 x24_13 T2 n1
  )
 )
 (
  faK 1120024 x5_4 4 fun x26_14 =>
  ldK 1120025 T2 ro x26_14 fun x27_15 =>
  lenSK 1120026 x27_15 fun x28_16 =>
  lpf6 1120028 (g112_b2 ih ro) 100000 a0 (.lit (.bool false)) x5_4 x27_15 x28_16 (.lit (.int .i64 (.ofNat 0))) T2 n1
 )
theorem g112_ok (ih : FuncId → List HT → List AV → HT → Nat → R) (hI : ∀ f ro args T nx, GOk Tryz.prog envE f args ro T nx (ih f ro args T nx)) (ro : List HT) (a0 a1 : AV) (T : HT) (nx : Nat) : GOk Tryz.prog envE 112 [a0, a1] ro T nx (g112 ih ro a0 a1 T nx) := by
 refine GOk.of_body Tryz.func112 rfl Tryz.ntmps112 (by kernel_rfl) rfl fun r T' n' h1 w0 base ρ0 its hS hP => ?_
 have X : CtxW envE ρ0 ro r T' n' := trivial
 unfold g112 at h1
 refine sr ?_
 refine as_ ?_
 refine dn ?_
 refine sr ?_
 refine mv ?_
 refine fl hS h1 Rnf.fo69_0 Rnf.one23 fun x11_1 h2 => ?_
 refine mv ?_
 refine vy (V.ia h2 rfl rfl Rnf.el23) fun x13_2 h3 => ?_
 refine vy (V.ldA hS h3 rfl Rnf.agg32) fun x14_3 h4 => ?_
 refine LV.alloc hS h4 rfl Rnf.zr32 rfl rfl rfl fun x5_4 T1 n1 h5 ρ its hS hdr => ?_
 refine LV.stA hS h5 rfl rfl rfl Rnf.agg32 rfl rfl rfl fun T2 its h6 hS => ?_
 refine dn ?_
 refine CV.seq ?_
 refine sr ?_
 refine vy (V.fa h6 rfl Rnf.fo32_0) fun x15_5 h7 => ?_
 refine vy (V.ld hS h7 rfl Rnf.one3) fun x16_6 h8 => ?_
 refine vy (V.ne h8 rfl rfl) fun x17_7 h9 => ?_
 refine dn ?_
 refine CV.cond h9 rfl (fun e h10 => ?_) (fun e h10 => ?_)
 ·
  clear h1 h2 h3 h4 h5 h6 h7 h8 h9
  subst e
  refine sr ?_
  refine vy (V.fa h10 rfl Rnf.fo32_0) fun x18_8 h11 => ?_
  refine vy (V.ld hS h11 rfl Rnf.one3) fun x19_9 h12 => ?_
  refine vy (V.eq h12 rfl rfl) fun x20_10 h13 => ?_
  refine mv ?_
  refine ls3 X 0 5 25 [(4, (.lit (.bool false)))] (g112_k1 ih ro) 4 ?_ ?_
  ·
   rcases condK_inv h13 with ⟨e, h15⟩ | ⟨e, h15⟩
   ·
    clear h10 h11 h12 h13
    subst e
    refine sk ?_
    refine sk ?_
    refine sk ?_
    refine pu ?_
    exact la3 hS h15 ⟨rfl, rfl, rfl, rfl, trivial⟩
   ·
    clear h10 h11 h12 h13
    subst e
    refine vy (V.fa h15 rfl Rnf.fo32_0) fun x22_11 h16 => ?_
    refine vy (V.ld hS h16 rfl Rnf.one3) fun x23_12 h17 => ?_
    refine vy (V.eq h17 rfl rfl) fun x24_13 h18 => ?_
    refine pu ?_
    exact la3 hS h18 ⟨rfl, rfl, rfl, rfl, trivial⟩
  ·
   intro y0 y5 y25 T3 n3 ρ its hS h14
   unfold g112_k1 at h14
   clear h10 h11 h12 h13
   refine as_ ?_
   refine dn ?_
   refine CV.ret ?_
   refine PV.thenR ?_
   cases h14
   exact PV.ret (by simp) Tryz.results112 hS (RS.tmp rfl RS.nil) rfl
 ·
  clear h1 h2 h3 h4 h5 h6 h7 h8 h9
  subst e
  refine CV.skip ?_
  refine PV.thenN ?_
  refine CV.seq ?_
  refine sr ?_
  refine vy (V.fa h10 rfl Rnf.fo32_4) fun x26_14 h19 => ?_
  refine vy (V.ld hS h19 rfl Rnf.one30) fun x27_15 h20 => ?_
  refine vy (V.lenS h20 rfl Rnf.ls30) fun x28_16 h21 => ?_
  refine mv ?_
  refine dn ?_
  refine CV.block ?_
  refine cl6 X 0 4 5 27 28 29 [] hS h21 ⟨rfl, rfl, rfl, rfl, rfl, rfl, trivial⟩ ?_
  intro f2 y0 y4 y5 y27 y28 y29 T4 n4 ρ its hS h22
  unfold g112_b2 at h22
  clear h10 h19 h20 h21
  refine sr ?_
  refine vy (V.lt h22 rfl rfl) fun x30_17 h23 => ?_
  refine dn ?_
  refine CV.seq ?_
  refine CV.cond h23 rfl (fun e h24 => ?_) (fun e h24 => ?_)
  ·
   clear h22 h23
   subst e
   refine CV.skip ?_
   refine PV.thenN ?_
   refine CV.seq ?_
   refine CV.block ?_
   refine sr ?_
   refine vy (V.ia h24 rfl rfl Rnf.el30) fun x31_18 h25 => ?_
   refine vy (V.ld hS h25 rfl Rnf.one3) fun x32_19 h26 => ?_
   refine as_ ?_
   refine dn ?_
   refine sr ?_
   refine mv ?_
   refine mv ?_
   refine LV.call hS h26 (hI _ _ _ _ _) hP rfl rfl rfl rfl fun x35_20 T5 n5 h27 ρ its hS => ?_
   refine vy (V.not h27 rfl) fun x36_21 h28 => ?_
   refine dn ?_
   refine CV.cond h28 rfl (fun e h29 => ?_) (fun e h29 => ?_)
   ·
    clear h24 h25 h26 h27 h28
    subst e
    cases h29
   ·
    clear h24 h25 h26 h27 h28
    subst e
    refine CV.skip ?_
    refine PV.blockN ?_
    refine PV.thenN ?_
    refine CV.region ?_
    refine vy (V.add h29 rfl rfl) fun x37_22 h30 => ?_
    refine mv ?_
    refine LV.done ?_
    exact pb6 hS h30 ⟨rfl, rfl, rfl, rfl, rfl, rfl, trivial⟩
  ·
   clear h22 h23
   subst e
   refine CV.exit ?_
   refine PV.thenE ?_
   refine PV.thenE ?_
   refine PV.blockE ?_
   refine PV.thenN ?_
   refine sr ?_
   refine vy (V.fa h24 rfl Rnf.fo32_4) fun x38_23 h31 => ?_
   refine vy (V.ld hS h31 rfl Rnf.one30) fun x39_24 h32 => ?_
   refine vy (V.lenS h32 rfl Rnf.ls30) fun x40_25 h33 => ?_
   refine vy (V.gt h33 rfl rfl) fun x41_26 h34 => ?_
   refine as_ ?_
   refine dn ?_
   refine CV.ret ?_
   cases h34
   exact PV.ret (by simp) Tryz.results112 hS (RS.tmp rfl RS.nil) rfl
noncomputable def ap4 (ih : FuncId → List HT → List AV → HT → Nat → R) (f : FuncId) (ro : List HT) (args : List AV) (T : HT) (nx : Nat) : R :=
  Bool.rec (motive := fun _ => R) (.bad 2) (List.rec (motive := fun _ => R) (.bad 1) (fun a0 l0 _ => List.rec (motive := fun _ => R) (.bad 1) (fun a1 l1 _ => List.rec (motive := fun _ => R) (g112 ih ro a0 a1 T nx) (fun _ _ _ => .bad 1) l1) l0) args) (Nat.beq f 112)
noncomputable def scc4 (fuel : Nat) : FuncId → List HT → List AV → HT → Nat → R :=
  Nat.rec (motive := fun _ => FuncId → List HT → List AV → HT → Nat → R) (fun _ _ _ _ _ => .bad 3) (fun _ ih => ap4 ih) fuel
theorem ap4_ok (ih : FuncId → List HT → List AV → HT → Nat → R) (hI : ∀ f ro args T nx, GOk Tryz.prog envE f args ro T nx (ih f ro args T nx)) (f : FuncId) (ro : List HT) (args : List AV) (T : HT) (nx : Nat) : GOk Tryz.prog envE f args ro T nx (ap4 ih f ro args T nx) := by
  unfold ap4
  refine recb_go (fun hb => ?_) (fun _ => ?_)
  · obtain rfl := beqT hb
    rcases args with _ | ⟨a0, l0⟩
    · exact GOk.bad
    rcases l0 with _ | ⟨a1, l1⟩
    · exact GOk.bad
    rcases l1 with _ | ⟨_, _⟩
    · exact g112_ok _ hI _ _ _ _ _ 
    · exact GOk.bad
  · exact GOk.bad
theorem scc4_ok : ∀ (fuel : Nat) (f : FuncId) (ro : List HT) (args : List AV) (T : HT) (nx : Nat), GOk Tryz.prog envE f args ro T nx (scc4 fuel f ro args T nx)
  | 0, _, _, _, _, _ => GOk.bad
  | fuel + 1, f, ro, args, T, nx => ap4_ok (scc4 fuel) (scc4_ok fuel) f ro args T nx
noncomputable def g118_k2 (ro : List HT) (y0 y1 y2 y26 : AV) (T2 : HT) (n2 : Nat) : R :=
 .ok (.val y26) T2 n2
noncomputable def g118_k1 (ro : List HT) (y0 y1 y2 y20 : AV) (T1 : HT) (n1 : Nat) : R :=
 condK 1180012 y20
 (
  cutLoFK 1180015 T1 ro y2 (.lit (.int .i64 (.ofNat 1))) 1 fun x24_4 =>
  callK (g107 ro y0 x24_4 (.lit (.int .i64 (.ofNat 1))) (.lit (.int .i64 (.ofNat 1))) T1 n1) fun x25_5 T3 n3 =>
  g118_k2 ro y0 y1 y2 x25_5 T3 n3
 )
 (
  g118_k2 ro y0 y1 y2 (.lit (.bool false)) T1 n1
 )
noncomputable def g118_k6 (ro : List HT) (y122 : AV) (T8 : HT) (n8 : Nat) : R :=
 .ok (.val y122) T8 n8
noncomputable def g118_k5 (ro : List HT) (y0 y2 y116 : AV) (T7 : HT) (n7 : Nat) : R :=
 condK 1180048 y116
 (
  callK (g107 ro y0 y2 (.lit (.int .i64 (.ofNat 2))) (.lit (.int .i64 (.ofNat 2))) T7 n7) fun x121_13 T9 n9 =>
  g118_k6 ro x121_13 T9 n9
 )
 (
  g118_k6 ro (.lit (.bool false)) T7 n7
 )
noncomputable def g118_k7 (ro : List HT) (y0 y2 y115 : AV) (T10 : HT) (n10 : Nat) : R :=
 g118_k5 ro y0 y2 y115 T10 n10
noncomputable def g118_k4 (ro : List HT) (y0 y1 y2 y108 : AV) (T6 : HT) (n6 : Nat) : R :=
 condK 1180054 y108
 (
  g118_k5 ro y0 y2 (.lit (.bool true)) T6 n6
 )
 (
  geK Tryz.prog 3 (.tmp 110) (.const (.int .i64 (.ofNat 21))) 1180057 y1 (.lit (.int .i64 (.ofNat 21))) fun x111_14 =>
  condK 1180060 x111_14
  (
   leK Tryz.prog 3 (.tmp 113) (.const (.int .i64 (.ofNat 33))) 1180062 y1 (.lit (.int .i64 (.ofNat 33))) fun x114_15 =>
   g118_k7 ro y0 y2 x114_15 T6 n6
  )
  (
   g118_k7 ro y0 y2 (.lit (.bool false)) T6 n6
  )
 )
noncomputable def g118_k3 (ro : List HT) (y0 y1 y2 y104 : AV) (T5 : HT) (n5 : Nat) : R :=
 condK 1180065 y104
 (
  g118_k4 ro y0 y1 y2 (.lit (.bool true)) T5 n5
 )
 (
  eqK Tryz.prog 3 (.tmp 106) (.const (.int .i64 (.ofNat 19))) 1180068 y1 (.lit (.int .i64 (.ofNat 19))) fun x107_16 =>
  g118_k4 ro y0 y1 y2 x107_16 T5 n5
 )
noncomputable def g118 (ro : List HT) (a0 a1 a2 : AV) (T : HT) (nx : Nat) : R :=
 eqK Tryz.prog 3 (.tmp 8) (.const (.int .i64 (.ofNat 36))) 1180003 a1 (.lit (.int .i64 (.ofNat 36))) fun x10_1 =>
 condK 1180005 x10_1
 (
  lenSK 1180007 a2 fun x12_2 =>
  eqK Tryz.prog 3 (.tmp 12) (.const (.int .i64 (.ofNat 2))) 1180008 x12_2 (.lit (.int .i64 (.ofNat 2))) fun x13_3 =>
  condK 1180019 x13_3
  (
   iaK 1180022 a2 (.lit (.int .i64 (.ofNat 0))) 1 fun x17_6 =>
   ldK 1180023 T ro x17_6 fun x18_7 =>
   callK (scc4 4000 112 ro [a0, x18_7] T nx) fun x19_8 T4 n4 =>
   g118_k1 ro a0 a1 a2 x19_8 T4 n4
  )
  (
   g118_k1 ro a0 a1 a2 (.lit (.bool false)) T nx
  )
 )
 (
  eqK Tryz.prog 3 (.tmp 8) (.const (.int .i64 (.ofNat 37))) 1180027 a1 (.lit (.int .i64 (.ofNat 37))) fun x28_9 =>
  condK 1180029 x28_9
  (
   .bad 1180030
  )
  (
   eqK Tryz.prog 3 (.tmp 8) (.const (.int .i64 (.ofNat 43))) 1180031 a1 (.lit (.int .i64 (.ofNat 43))) fun x53_10 =>
   condK 1180033 x53_10
   (
    .bad 1180034
   )
   (
    eqK Tryz.prog 3 (.tmp 8) (.const (.int .i64 (.ofNat 44))) 1180035 a1 (.lit (.int .i64 (.ofNat 44))) fun x75_11 =>
    condK 1180037 x75_11
    (
     .bad 1180038
    )
    (
     eqK Tryz.prog 3 (.tmp 99) (.const (.int .i64 (.ofNat 13))) 1180040 a1 (.lit (.int .i64 (.ofNat 13))) fun x100_12 =>
     condK 1180070 x100_12
     (
      g118_k3 ro a0 a1 a2 (.lit (.bool true)) T nx
     )
     (
      eqK Tryz.prog 3 (.tmp 102) (.const (.int .i64 (.ofNat 18))) 1180073 a1 (.lit (.int .i64 (.ofNat 18))) fun x103_17 =>
      g118_k3 ro a0 a1 a2 x103_17 T nx
     )
    )
   )
  )
 )
theorem g118_ok (ro : List HT) (a0 a1 a2 : AV) (T : HT) (nx : Nat) : GOk Tryz.prog envE 118 [a0, a1, a2] ro T nx (g118 ro a0 a1 a2 T nx) := by
 refine GOk.of_body Tryz.func118 rfl Tryz.ntmps118 (by kernel_rfl) rfl fun r T' n' h1 w0 base ρ0 its hS hP => ?_
 have X : CtxW envE ρ0 ro r T' n' := trivial
 unfold g118 at h1
 refine sr ?_
 refine as_ ?_
 refine dn ?_
 refine CV.seq ?_
 refine sr ?_
 refine mv ?_
 refine dn ?_
 refine CV.block ?_
 refine sr ?_
 refine vy (V.eq h1 rfl rfl) fun x10_1 h2 => ?_
 refine as_ ?_
 refine dn ?_
 refine CV.cond h2 rfl (fun e h3 => ?_) (fun e h3 => ?_)
 ·
  clear h1 h2
  subst e
  refine sr ?_
  refine mv ?_
  refine vy (V.lenS h3 rfl Rnf.ls30) fun x12_2 h4 => ?_
  refine vy (V.eq h4 rfl rfl) fun x13_3 h5 => ?_
  refine mv ?_
  refine ls4 X 0 1 2 20 [(6, (.lit (.bool false)))] (g118_k1 ro) 6 ?_ ?_
  ·
   rcases condK_inv h5 with ⟨e, h11⟩ | ⟨e, h11⟩
   ·
    clear h3 h4 h5
    subst e
    refine mv ?_
    refine mv ?_
    refine vy (V.ia h11 rfl rfl Rnf.el30) fun x17_6 h12 => ?_
    refine vy (V.ld hS h12 rfl Rnf.one3) fun x18_7 h13 => ?_
    refine LV.call hS h13 (scc4_ok _ _ _ _ _ _) hP rfl rfl rfl rfl fun x19_8 T4 n4 h14 ρ its hS => ?_
    refine pu ?_
    exact la4 hS h14 ⟨rfl, rfl, rfl, rfl, rfl, trivial⟩
   ·
    clear h3 h4 h5
    subst e
    refine sk ?_
    refine sk ?_
    refine sk ?_
    refine sk ?_
    refine sk ?_
    refine pu ?_
    exact la4 hS h11 ⟨rfl, rfl, rfl, rfl, rfl, trivial⟩
  ·
   intro y0 y1 y2 y20 T1 n1 ρ its hS h6
   unfold g118_k1 at h6
   clear h3 h4 h5
   refine mv ?_
   refine ls4 X 0 1 2 26 [(6, (.lit (.bool false)))] (g118_k2 ro) 5 ?_ ?_
   ·
    rcases condK_inv h6 with ⟨e, h8⟩ | ⟨e, h8⟩
    ·
     clear h6
     subst e
     refine mv ?_
     refine mv ?_
     refine LV.cutLoF hS h8 rfl rfl rfl Rnf.el30 rfl rfl rfl fun x24_4 h9 => ?_
     refine LV.call hS h9 (g107_ok _ _ _ _ _ _ _ ) hP rfl rfl rfl rfl fun x25_5 T3 n3 h10 ρ its hS => ?_
     refine pu ?_
     exact la4 hS h10 ⟨rfl, rfl, rfl, rfl, rfl, trivial⟩
    ·
     clear h6
     subst e
     refine sk ?_
     refine sk ?_
     refine sk ?_
     refine sk ?_
     refine pu ?_
     exact la4 hS h8 ⟨rfl, rfl, rfl, rfl, rfl, trivial⟩
   ·
    intro y0 y1 y2 y26 T2 n2 ρ its hS h7
    unfold g118_k2 at h7
    clear h6
    refine as_ ?_
    refine dn ?_
    refine CV.ret ?_
    refine PV.blockR ?_
    refine PV.thenR ?_
    cases h7
    exact PV.ret (by simp) Tryz.results118 hS (RS.tmp rfl RS.nil) rfl
 ·
  clear h1 h2
  subst e
  refine sr ?_
  refine vy (V.eq h3 rfl rfl) fun x28_9 h15 => ?_
  refine as_ ?_
  refine dn ?_
  refine CV.cond h15 rfl (fun e h16 => ?_) (fun e h16 => ?_)
  ·
   clear h3 h15
   subst e
   cases h16
  ·
   clear h3 h15
   subst e
   refine sr ?_
   refine vy (V.eq h16 rfl rfl) fun x53_10 h17 => ?_
   refine as_ ?_
   refine dn ?_
   refine CV.cond h17 rfl (fun e h18 => ?_) (fun e h18 => ?_)
   ·
    clear h16 h17
    subst e
    cases h18
   ·
    clear h16 h17
    subst e
    refine sr ?_
    refine vy (V.eq h18 rfl rfl) fun x75_11 h19 => ?_
    refine as_ ?_
    refine dn ?_
    refine CV.cond h19 rfl (fun e h20 => ?_) (fun e h20 => ?_)
    ·
     clear h18 h19
     subst e
     cases h20
    ·
     clear h18 h19
     subst e
     refine CV.skip ?_
     refine PV.blockN ?_
     refine PV.thenN ?_
     refine sr ?_
     refine mv ?_
     refine vy (V.eq h20 rfl rfl) fun x100_12 h21 => ?_
     refine mv ?_
     refine ls4 X 0 1 2 104 [(6, (.lit (.bool false)))] (g118_k3 ro) 3 ?_ ?_
     ·
      rcases condK_inv h21 with ⟨e, h35⟩ | ⟨e, h35⟩
      ·
       clear h20 h21
       subst e
       refine sk ?_
       refine sk ?_
       refine pu ?_
       exact la4 hS h35 ⟨rfl, rfl, rfl, rfl, rfl, trivial⟩
      ·
       clear h20 h21
       subst e
       refine mv ?_
       refine vy (V.eq h35 rfl rfl) fun x103_17 h36 => ?_
       refine pu ?_
       exact la4 hS h36 ⟨rfl, rfl, rfl, rfl, rfl, trivial⟩
     ·
      intro y0 y1 y2 y104 T5 n5 ρ its hS h22
      unfold g118_k3 at h22
      clear h20 h21
      refine mv ?_
      refine ls4 X 0 1 2 108 [(6, (.lit (.bool false)))] (g118_k4 ro) 3 ?_ ?_
      ·
       rcases condK_inv h22 with ⟨e, h33⟩ | ⟨e, h33⟩
       ·
        clear h22
        subst e
        refine sk ?_
        refine sk ?_
        refine pu ?_
        exact la4 hS h33 ⟨rfl, rfl, rfl, rfl, rfl, trivial⟩
       ·
        clear h22
        subst e
        refine mv ?_
        refine vy (V.eq h33 rfl rfl) fun x107_16 h34 => ?_
        refine pu ?_
        exact la4 hS h34 ⟨rfl, rfl, rfl, rfl, rfl, trivial⟩
      ·
       intro y0 y1 y2 y108 T6 n6 ρ its hS h23
       unfold g118_k4 at h23
       clear h22
       refine mv ?_
       refine ls3 X 0 2 116 [(6, (.lit (.bool false)))] (g118_k5 ro) 7 ?_ ?_
       ·
        rcases condK_inv h23 with ⟨e, h28⟩ | ⟨e, h28⟩
        ·
         clear h23
         subst e
         refine sk ?_
         refine sk ?_
         refine sk ?_
         refine sk ?_
         refine sk ?_
         refine sk ?_
         refine pu ?_
         exact la3 hS h28 ⟨rfl, rfl, rfl, rfl, trivial⟩
        ·
         clear h23
         subst e
         refine mv ?_
         refine vy (V.ge h28 rfl rfl) fun x111_14 h29 => ?_
         refine mv ?_
         refine ls3 X 0 2 115 [(6, (.lit (.bool false))), (109, (.lit (.bool false)))] (g118_k7 ro) 3 ?_ ?_
         ·
          rcases condK_inv h29 with ⟨e, h31⟩ | ⟨e, h31⟩
          ·
           clear h28 h29
           subst e
           refine mv ?_
           refine vy (V.le h31 rfl rfl) fun x114_15 h32 => ?_
           refine pu ?_
           exact la3 hS h32 ⟨rfl, rfl, rfl, rfl, rfl, trivial⟩
          ·
           clear h28 h29
           subst e
           refine sk ?_
           refine sk ?_
           refine pu ?_
           exact la3 hS h31 ⟨rfl, rfl, rfl, rfl, rfl, trivial⟩
         ·
          intro y0 y2 y115 T10 n10 ρ its hS h30
          unfold g118_k7 at h30
          clear h28 h29
          refine pu ?_
          exact la3 hS h30 ⟨rfl, rfl, rfl, rfl, trivial⟩
       ·
        intro y0 y2 y116 T7 n7 ρ its hS h24
        unfold g118_k5 at h24
        clear h23
        refine as_ ?_
        refine dn ?_
        refine sr ?_
        refine mv ?_
        refine mv ?_
        refine ls1 X 122 [(6, (.lit (.bool false)))] (g118_k6 ro) 4 ?_ ?_
        ·
         rcases condK_inv h24 with ⟨e, h26⟩ | ⟨e, h26⟩
         ·
          clear h24
          subst e
          refine mv ?_
          refine mv ?_
          refine LV.call hS h26 (g107_ok _ _ _ _ _ _ _ ) hP rfl rfl rfl rfl fun x121_13 T9 n9 h27 ρ its hS => ?_
          refine pu ?_
          exact la1 hS h27 ⟨rfl, rfl, trivial⟩
         ·
          clear h24
          subst e
          refine sk ?_
          refine sk ?_
          refine sk ?_
          refine pu ?_
          exact la1 hS h26 ⟨rfl, rfl, trivial⟩
        ·
         intro y122 T8 n8 ρ its hS h25
         unfold g118_k6 at h25
         clear h24
         refine as_ ?_
         refine dn ?_
         refine CV.ret ?_
         cases h25
         exact PV.ret (by simp) Tryz.results118 hS (RS.tmp rfl RS.nil) rfl
noncomputable def g67_k6 (ro : List HT) (y0 y3 y4 y5 y145 : AV) (T9 : HT) (n9 : Nat) : R :=
 .ok (.val y145) T9 n9
noncomputable def g67_k5 (ro : List HT) (y0 y3 y4 y5 y135 : AV) (T8 : HT) (n8 : Nat) : R :=
 condK 670058 y135
 (
  lenSK 670062 y5 fun x140_19 =>
  subK Tryz.prog 3 (.tmp 140) (.const (.int .i64 (.ofNat 1))) 670063 x140_19 (.lit (.int .i64 (.ofNat 1))) fun x141_20 =>
  iaK 670064 y5 x141_20 1 fun x142_21 =>
  ldK 670065 T8 ro x142_21 fun x143_22 =>
  callK (g115 ro y0 x143_22 (.lit (.int .i64 (.ofNat 47))) T8 n8) fun x144_23 T10 n10 =>
  g67_k6 ro y0 y3 y4 y5 x144_23 T10 n10
 )
 (
  g67_k6 ro y0 y3 y4 y5 (.lit (.bool false)) T8 n8
 )
noncomputable def g67_k7 (ro : List HT) (y0 y3 y4 y5 y155 : AV) (T12 : HT) (n12 : Nat) : R :=
 .ok (.val y155) T12 n12
noncomputable def g67_k4 (ro : List HT) (y0 y3 y4 y5 y9 y55 : AV) (T6 : HT) (n6 : Nat) : R :=
 condK 670028 y55
 (
  callK (g107 ro y0 y5 (.lit (.int .i64 (.ofNat 0))) (.lit (.int .i64 (.ofNat 1))) T6 n6) fun x60_11 T7 n7 =>
  .ok (.val x60_11) T7 n7
 )
 (
  eqK Tryz.prog 3 (.tmp 9) (.const (.int .i64 (.ofNat 10))) 670033 y9 (.lit (.int .i64 (.ofNat 10))) fun x62_12 =>
  condK 670035 x62_12
  (
   .bad 670036
  )
  (
   eqK Tryz.prog 3 (.tmp 9) (.const (.int .i64 (.ofNat 14))) 670037 y9 (.lit (.int .i64 (.ofNat 14))) fun x72_13 =>
   condK 670039 x72_13
   (
    .bad 670040
   )
   (
    eqK Tryz.prog 3 (.tmp 9) (.const (.int .i64 (.ofNat 34))) 670041 y9 (.lit (.int .i64 (.ofNat 34))) fun x89_14 =>
    condK 670043 x89_14
    (
     .bad 670044
    )
    (
     eqK Tryz.prog 3 (.tmp 9) (.const (.int .i64 (.ofNat 42))) 670045 y9 (.lit (.int .i64 (.ofNat 42))) fun x111_15 =>
     condK 670047 x111_15
     (
      .bad 670048
     )
     (
      eqK Tryz.prog 3 (.tmp 9) (.const (.int .i64 (.ofNat 45))) 670049 y9 (.lit (.int .i64 (.ofNat 45))) fun x123_16 =>
      condK 670051 x123_16
      (
       lenSK 670053 y5 fun x125_17 =>
       gtK Tryz.prog 3 (.tmp 125) (.const (.int .i64 (.ofNat 0))) 670054 x125_17 (.lit (.int .i64 (.ofNat 0))) fun x126_18 =>
       condK 670069 x126_18
       (
        lenSK 670073 y5 fun x131_24 =>
        subK Tryz.prog 3 (.tmp 131) (.const (.int .i64 (.ofNat 1))) 670074 x131_24 (.lit (.int .i64 (.ofNat 1))) fun x132_25 =>
        cutHiK 670075 T6 ro y5 x132_25 fun x133_26 =>
        callK (g109 ro y0 x133_26 (.lit (.func (.func 114) #[] #[])) T6 n6) fun x134_27 T11 n11 =>
        g67_k5 ro y0 y3 y4 y5 x134_27 T11 n11
       )
       (
        g67_k5 ro y0 y3 y4 y5 (.lit (.bool false)) T6 n6
       )
      )
      (
       eqK Tryz.prog 3 (.tmp 9) (.const (.int .i64 (.ofNat 47))) 670079 y9 (.lit (.int .i64 (.ofNat 47))) fun x147_28 =>
       condK 670081 x147_28
       (
        lenSK 670083 y5 fun x149_29 =>
        gtK Tryz.prog 3 (.tmp 149) (.const (.int .i64 (.ofNat 0))) 670084 x149_29 (.lit (.int .i64 (.ofNat 0))) fun x150_30 =>
        condK 670087 x150_30
        (
         callK (g109 ro y0 y5 (.lit (.func (.func 116) #[] #[])) T6 n6) fun x154_31 T13 n13 =>
         g67_k7 ro y0 y3 y4 y5 x154_31 T13 n13
        )
        (
         g67_k7 ro y0 y3 y4 y5 (.lit (.bool false)) T6 n6
        )
       )
       (
        faK 670094 y3 0 fun x157_32 =>
        ldK 670095 T6 ro x157_32 fun x158_33 =>
        callK (g118 ro y0 x158_33 y5 T6 n6) fun x160_34 T14 n14 =>
        .ok (.val x160_34) T14 n14
       )
      )
     )
    )
   )
  )
 )
noncomputable def g67_k3 (ro : List HT) (y0 y3 y4 y5 y9 y41 : AV) (T4 : HT) (n4 : Nat) : R :=
 condK 670019 y41
 (
  callK (g107 ro y0 y5 (.lit (.int .i64 (.ofNat 1))) (.lit (.int .i64 (.ofNat 1))) T4 n4) fun x49_9 T5 n5 =>
  .ok (.val x49_9) T5 n5
 )
 (
  eqK Tryz.prog 3 (.tmp 9) (.const (.int .i64 (.ofNat 20))) 670024 y9 (.lit (.int .i64 (.ofNat 20))) fun x51_10 =>
  condK 670026 x51_10
  (
   .bad 670027
  )
  (
   eqK Tryz.prog 3 (.tmp 9) (.const (.int .i64 (.ofNat 41))) 670099 y9 (.lit (.int .i64 (.ofNat 41))) fun x56_35 =>
   condK 670101 x56_35
   (
    g67_k4 ro y0 y3 y4 y5 y9 (.lit (.bool true)) T4 n4
   )
   (
    eqK Tryz.prog 3 (.tmp 9) (.const (.int .i64 (.ofNat 46))) 670102 y9 (.lit (.int .i64 (.ofNat 46))) fun x57_36 =>
    g67_k4 ro y0 y3 y4 y5 y9 x57_36 T4 n4
   )
  )
 )
noncomputable def g67_k2 (ro : List HT) (y0 y3 y4 y5 y9 y24 : AV) (T3 : HT) (n3 : Nat) : R :=
 condK 670013 y24
 (
  .bad 670014
 )
 (
  eqK Tryz.prog 3 (.tmp 9) (.const (.int .i64 (.ofNat 9))) 670015 y9 (.lit (.int .i64 (.ofNat 9))) fun x31_8 =>
  condK 670017 x31_8
  (
   .bad 670018
  )
  (
   eqK Tryz.prog 3 (.tmp 9) (.const (.int .i64 (.ofNat 11))) 670104 y9 (.lit (.int .i64 (.ofNat 11))) fun x42_37 =>
   condK 670106 x42_37
   (
    g67_k3 ro y0 y3 y4 y5 y9 (.lit (.bool true)) T3 n3
   )
   (
    eqK Tryz.prog 3 (.tmp 9) (.const (.int .i64 (.ofNat 12))) 670107 y9 (.lit (.int .i64 (.ofNat 12))) fun x43_38 =>
    condK 670109 x43_38
    (
     g67_k3 ro y0 y3 y4 y5 y9 (.lit (.bool true)) T3 n3
    )
    (
     eqK Tryz.prog 3 (.tmp 9) (.const (.int .i64 (.ofNat 16))) 670110 y9 (.lit (.int .i64 (.ofNat 16))) fun x44_39 =>
     condK 670112 x44_39
     (
      g67_k3 ro y0 y3 y4 y5 y9 (.lit (.bool true)) T3 n3
     )
     (
      eqK Tryz.prog 3 (.tmp 9) (.const (.int .i64 (.ofNat 17))) 670113 y9 (.lit (.int .i64 (.ofNat 17))) fun x45_40 =>
      condK 670115 x45_40
      (
       g67_k3 ro y0 y3 y4 y5 y9 (.lit (.bool true)) T3 n3
      )
      (
       eqK Tryz.prog 3 (.tmp 9) (.const (.int .i64 (.ofNat 35))) 670116 y9 (.lit (.int .i64 (.ofNat 35))) fun x46_41 =>
       g67_k3 ro y0 y3 y4 y5 y9 x46_41 T3 n3
      )
     )
    )
   )
  )
 )
noncomputable def g67_k1 (ro : List HT) (y0 y3 y4 y5 y9 y10 : AV) (T2 : HT) (n2 : Nat) : R :=
 condK 670008 y10
 (
  lenSK 670010 y5 fun x22_6 =>
  eqK Tryz.prog 3 (.tmp 22) (.const (.int .i64 (.ofNat 0))) 670011 x22_6 (.lit (.int .i64 (.ofNat 0))) fun x23_7 =>
  .ok (.val x23_7) T2 n2
 )
 (
  eqK Tryz.prog 3 (.tmp 9) (.const (.int .i64 (.ofNat 7))) 670118 y9 (.lit (.int .i64 (.ofNat 7))) fun x25_42 =>
  condK 670120 x25_42
  (
   g67_k2 ro y0 y3 y4 y5 y9 (.lit (.bool true)) T2 n2
  )
  (
   eqK Tryz.prog 3 (.tmp 9) (.const (.int .i64 (.ofNat 8))) 670121 y9 (.lit (.int .i64 (.ofNat 8))) fun x26_43 =>
   g67_k2 ro y0 y3 y4 y5 y9 x26_43 T2 n2
  )
 )
noncomputable def g67 (ro : List HT) (a0 a1 : AV) (T : HT) (nx : Nat) : R :=
 boxK 670001 T nx a1 32 fun x3_1 T1 n1 =>
 faK 670003 x3_1 4 fun x6_2 =>
 ldK 670004 T1 ro x6_2 fun x7_3 =>
 faK 670006 x3_1 0 fun x8_4 =>
 ldK 670007 T1 ro x8_4 fun x9_5 =>
 eqK Tryz.prog 3 (.tmp 9) (.const (.int .i64 (.ofNat 1))) 670123 x9_5 (.lit (.int .i64 (.ofNat 1))) fun x11_44 =>
 condK 670125 x11_44
 (
  g67_k1 ro a0 x3_1 (.lit (.bool false)) x7_3 x9_5 (.lit (.bool true)) T1 n1
 )
 (
  eqK Tryz.prog 3 (.tmp 9) (.const (.int .i64 (.ofNat 2))) 670126 x9_5 (.lit (.int .i64 (.ofNat 2))) fun x12_45 =>
  condK 670128 x12_45
  (
   g67_k1 ro a0 x3_1 (.lit (.bool false)) x7_3 x9_5 (.lit (.bool true)) T1 n1
  )
  (
   eqK Tryz.prog 3 (.tmp 9) (.const (.int .i64 (.ofNat 3))) 670129 x9_5 (.lit (.int .i64 (.ofNat 3))) fun x13_46 =>
   condK 670131 x13_46
   (
    g67_k1 ro a0 x3_1 (.lit (.bool false)) x7_3 x9_5 (.lit (.bool true)) T1 n1
   )
   (
    eqK Tryz.prog 3 (.tmp 9) (.const (.int .i64 (.ofNat 4))) 670132 x9_5 (.lit (.int .i64 (.ofNat 4))) fun x14_47 =>
    condK 670134 x14_47
    (
     g67_k1 ro a0 x3_1 (.lit (.bool false)) x7_3 x9_5 (.lit (.bool true)) T1 n1
    )
    (
     eqK Tryz.prog 3 (.tmp 9) (.const (.int .i64 (.ofNat 5))) 670135 x9_5 (.lit (.int .i64 (.ofNat 5))) fun x15_48 =>
     condK 670137 x15_48
     (
      g67_k1 ro a0 x3_1 (.lit (.bool false)) x7_3 x9_5 (.lit (.bool true)) T1 n1
     )
     (
      eqK Tryz.prog 3 (.tmp 9) (.const (.int .i64 (.ofNat 6))) 670138 x9_5 (.lit (.int .i64 (.ofNat 6))) fun x16_49 =>
      condK 670140 x16_49
      (
       g67_k1 ro a0 x3_1 (.lit (.bool false)) x7_3 x9_5 (.lit (.bool true)) T1 n1
      )
      (
       eqK Tryz.prog 3 (.tmp 9) (.const (.int .i64 (.ofNat 15))) 670141 x9_5 (.lit (.int .i64 (.ofNat 15))) fun x17_50 =>
       condK 670143 x17_50
       (
        g67_k1 ro a0 x3_1 (.lit (.bool false)) x7_3 x9_5 (.lit (.bool true)) T1 n1
       )
       (
        eqK Tryz.prog 3 (.tmp 9) (.const (.int .i64 (.ofNat 38))) 670144 x9_5 (.lit (.int .i64 (.ofNat 38))) fun x18_51 =>
        condK 670146 x18_51
        (
         g67_k1 ro a0 x3_1 (.lit (.bool false)) x7_3 x9_5 (.lit (.bool true)) T1 n1
        )
        (
         eqK Tryz.prog 3 (.tmp 9) (.const (.int .i64 (.ofNat 39))) 670147 x9_5 (.lit (.int .i64 (.ofNat 39))) fun x19_52 =>
         condK 670149 x19_52
         (
          g67_k1 ro a0 x3_1 (.lit (.bool false)) x7_3 x9_5 (.lit (.bool true)) T1 n1
         )
         (
          eqK Tryz.prog 3 (.tmp 9) (.const (.int .i64 (.ofNat 40))) 670150 x9_5 (.lit (.int .i64 (.ofNat 40))) fun x20_53 =>
          g67_k1 ro a0 x3_1 (.lit (.bool false)) x7_3 x9_5 x20_53 T1 n1
         )
        )
       )
      )
     )
    )
   )
  )
 )
theorem g67_ok (ro : List HT) (a0 a1 : AV) (T : HT) (nx : Nat) : GOk Tryz.prog envE 67 [a0, a1] ro T nx (g67 ro a0 a1 T nx) := by
 refine GOk.of_body Tryz.func67 rfl Tryz.ntmps67 (by kernel_rfl) rfl fun r T' n' h1 w0 base ρ0 its hS hP => ?_
 have X : CtxW envE ρ0 ro r T' n' := trivial
 unfold g67 at h1
 refine sr ?_
 refine LV.box hS h1 rfl rfl rfl rfl rfl fun x3_1 T1 n1 h2 ρ its hS hdr => ?_
 refine as_ ?_
 refine dn ?_
 refine sr ?_
 refine vy (V.fa h2 rfl Rnf.fo32_4) fun x6_2 h3 => ?_
 refine vy (V.ld hS h3 rfl Rnf.one30) fun x7_3 h4 => ?_
 refine as_ ?_
 refine dn ?_
 refine CV.seq ?_
 refine sr ?_
 refine vy (V.fa h4 rfl Rnf.fo32_0) fun x8_4 h5 => ?_
 refine vy (V.ld hS h5 rfl Rnf.one3) fun x9_5 h6 => ?_
 refine dn ?_
 refine CV.block ?_
 refine cs6 X 0 3 4 5 9 10 [] (g67_k1 ro) ?_ ?_
 ·
  refine sr ?_
  refine vy (V.eq h6 rfl rfl) fun x11_44 h73 => ?_
  refine as_ ?_
  refine dn ?_
  refine CV.cond h73 rfl (fun e h74 => ?_) (fun e h74 => ?_)
  ·
   clear h1 h2 h3 h4 h5 h6 h73
   subst e
   refine CV.skip ?_
   exact pa6 hS h74 ⟨rfl, rfl, rfl, rfl, rfl, rfl, trivial⟩
  ·
   clear h1 h2 h3 h4 h5 h6 h73
   subst e
   refine sr ?_
   refine vy (V.eq h74 rfl rfl) fun x12_45 h75 => ?_
   refine as_ ?_
   refine dn ?_
   refine CV.cond h75 rfl (fun e h76 => ?_) (fun e h76 => ?_)
   ·
    clear h74 h75
    subst e
    refine CV.skip ?_
    exact pa6 hS h76 ⟨rfl, rfl, rfl, rfl, rfl, rfl, trivial⟩
   ·
    clear h74 h75
    subst e
    refine sr ?_
    refine vy (V.eq h76 rfl rfl) fun x13_46 h77 => ?_
    refine as_ ?_
    refine dn ?_
    refine CV.cond h77 rfl (fun e h78 => ?_) (fun e h78 => ?_)
    ·
     clear h76 h77
     subst e
     refine CV.skip ?_
     exact pa6 hS h78 ⟨rfl, rfl, rfl, rfl, rfl, rfl, trivial⟩
    ·
     clear h76 h77
     subst e
     refine sr ?_
     refine vy (V.eq h78 rfl rfl) fun x14_47 h79 => ?_
     refine as_ ?_
     refine dn ?_
     refine CV.cond h79 rfl (fun e h80 => ?_) (fun e h80 => ?_)
     ·
      clear h78 h79
      subst e
      refine CV.skip ?_
      exact pa6 hS h80 ⟨rfl, rfl, rfl, rfl, rfl, rfl, trivial⟩
     ·
      clear h78 h79
      subst e
      refine sr ?_
      refine vy (V.eq h80 rfl rfl) fun x15_48 h81 => ?_
      refine as_ ?_
      refine dn ?_
      refine CV.cond h81 rfl (fun e h82 => ?_) (fun e h82 => ?_)
      ·
       clear h80 h81
       subst e
       refine CV.skip ?_
       exact pa6 hS h82 ⟨rfl, rfl, rfl, rfl, rfl, rfl, trivial⟩
      ·
       clear h80 h81
       subst e
       refine sr ?_
       refine vy (V.eq h82 rfl rfl) fun x16_49 h83 => ?_
       refine as_ ?_
       refine dn ?_
       refine CV.cond h83 rfl (fun e h84 => ?_) (fun e h84 => ?_)
       ·
        clear h82 h83
        subst e
        refine CV.skip ?_
        exact pa6 hS h84 ⟨rfl, rfl, rfl, rfl, rfl, rfl, trivial⟩
       ·
        clear h82 h83
        subst e
        refine sr ?_
        refine vy (V.eq h84 rfl rfl) fun x17_50 h85 => ?_
        refine as_ ?_
        refine dn ?_
        refine CV.cond h85 rfl (fun e h86 => ?_) (fun e h86 => ?_)
        ·
         clear h84 h85
         subst e
         refine CV.skip ?_
         exact pa6 hS h86 ⟨rfl, rfl, rfl, rfl, rfl, rfl, trivial⟩
        ·
         clear h84 h85
         subst e
         refine sr ?_
         refine vy (V.eq h86 rfl rfl) fun x18_51 h87 => ?_
         refine as_ ?_
         refine dn ?_
         refine CV.cond h87 rfl (fun e h88 => ?_) (fun e h88 => ?_)
         ·
          clear h86 h87
          subst e
          refine CV.skip ?_
          exact pa6 hS h88 ⟨rfl, rfl, rfl, rfl, rfl, rfl, trivial⟩
         ·
          clear h86 h87
          subst e
          refine sr ?_
          refine vy (V.eq h88 rfl rfl) fun x19_52 h89 => ?_
          refine as_ ?_
          refine dn ?_
          refine CV.cond h89 rfl (fun e h90 => ?_) (fun e h90 => ?_)
          ·
           clear h88 h89
           subst e
           refine CV.skip ?_
           exact pa6 hS h90 ⟨rfl, rfl, rfl, rfl, rfl, rfl, trivial⟩
          ·
           clear h88 h89
           subst e
           refine CV.region ?_
           refine vy (V.eq h90 rfl rfl) fun x20_53 h91 => ?_
           refine as_ ?_
           refine LV.done ?_
           exact pa6 hS h91 ⟨rfl, rfl, rfl, rfl, rfl, rfl, trivial⟩
 ·
  intro y0 y3 y4 y5 y9 y10 T2 n2 ρ its hS h7
  unfold g67_k1 at h7
  clear h1 h2 h3 h4 h5 h6
  refine CV.cond h7 rfl (fun e h8 => ?_) (fun e h8 => ?_)
  ·
   clear h7
   subst e
   refine sr ?_
   refine mv ?_
   refine vy (V.lenS h8 rfl Rnf.ls30) fun x22_6 h9 => ?_
   refine vy (V.eq h9 rfl rfl) fun x23_7 h10 => ?_
   refine as_ ?_
   refine dn ?_
   refine CV.ret ?_
   refine PV.blockR ?_
   refine PV.thenR ?_
   cases h10
   exact PV.ret (by simp) Tryz.results67 hS (RS.tmp rfl RS.nil) rfl
  ·
   clear h7
   subst e
   refine cs6 X 0 3 4 5 9 24 [] (g67_k2 ro) ?_ ?_
   ·
    refine sr ?_
    refine vy (V.eq h8 rfl rfl) fun x25_42 h70 => ?_
    refine as_ ?_
    refine dn ?_
    refine CV.cond h70 rfl (fun e h71 => ?_) (fun e h71 => ?_)
    ·
     clear h8 h70
     subst e
     refine CV.skip ?_
     exact pa6 hS h71 ⟨rfl, rfl, rfl, rfl, rfl, rfl, trivial⟩
    ·
     clear h8 h70
     subst e
     refine CV.region ?_
     refine vy (V.eq h71 rfl rfl) fun x26_43 h72 => ?_
     refine as_ ?_
     refine LV.done ?_
     exact pa6 hS h72 ⟨rfl, rfl, rfl, rfl, rfl, rfl, trivial⟩
   ·
    intro y0 y3 y4 y5 y9 y24 T3 n3 ρ its hS h11
    unfold g67_k2 at h11
    clear h8
    refine CV.cond h11 rfl (fun e h12 => ?_) (fun e h12 => ?_)
    ·
     clear h11
     subst e
     cases h12
    ·
     clear h11
     subst e
     refine sr ?_
     refine vy (V.eq h12 rfl rfl) fun x31_8 h13 => ?_
     refine as_ ?_
     refine dn ?_
     refine CV.cond h13 rfl (fun e h14 => ?_) (fun e h14 => ?_)
     ·
      clear h12 h13
      subst e
      cases h14
     ·
      clear h12 h13
      subst e
      refine cs6 X 0 3 4 5 9 41 [] (g67_k3 ro) ?_ ?_
      ·
       refine sr ?_
       refine vy (V.eq h14 rfl rfl) fun x42_37 h61 => ?_
       refine as_ ?_
       refine dn ?_
       refine CV.cond h61 rfl (fun e h62 => ?_) (fun e h62 => ?_)
       ·
        clear h14 h61
        subst e
        refine CV.skip ?_
        exact pa6 hS h62 ⟨rfl, rfl, rfl, rfl, rfl, rfl, trivial⟩
       ·
        clear h14 h61
        subst e
        refine sr ?_
        refine vy (V.eq h62 rfl rfl) fun x43_38 h63 => ?_
        refine as_ ?_
        refine dn ?_
        refine CV.cond h63 rfl (fun e h64 => ?_) (fun e h64 => ?_)
        ·
         clear h62 h63
         subst e
         refine CV.skip ?_
         exact pa6 hS h64 ⟨rfl, rfl, rfl, rfl, rfl, rfl, trivial⟩
        ·
         clear h62 h63
         subst e
         refine sr ?_
         refine vy (V.eq h64 rfl rfl) fun x44_39 h65 => ?_
         refine as_ ?_
         refine dn ?_
         refine CV.cond h65 rfl (fun e h66 => ?_) (fun e h66 => ?_)
         ·
          clear h64 h65
          subst e
          refine CV.skip ?_
          exact pa6 hS h66 ⟨rfl, rfl, rfl, rfl, rfl, rfl, trivial⟩
         ·
          clear h64 h65
          subst e
          refine sr ?_
          refine vy (V.eq h66 rfl rfl) fun x45_40 h67 => ?_
          refine as_ ?_
          refine dn ?_
          refine CV.cond h67 rfl (fun e h68 => ?_) (fun e h68 => ?_)
          ·
           clear h66 h67
           subst e
           refine CV.skip ?_
           exact pa6 hS h68 ⟨rfl, rfl, rfl, rfl, rfl, rfl, trivial⟩
          ·
           clear h66 h67
           subst e
           refine CV.region ?_
           refine vy (V.eq h68 rfl rfl) fun x46_41 h69 => ?_
           refine as_ ?_
           refine LV.done ?_
           exact pa6 hS h69 ⟨rfl, rfl, rfl, rfl, rfl, rfl, trivial⟩
      ·
       intro y0 y3 y4 y5 y9 y41 T4 n4 ρ its hS h15
       unfold g67_k3 at h15
       clear h14
       refine CV.cond h15 rfl (fun e h16 => ?_) (fun e h16 => ?_)
       ·
        clear h15
        subst e
        refine sr ?_
        refine mv ?_
        refine mv ?_
        refine LV.call hS h16 (g107_ok _ _ _ _ _ _ _ ) hP rfl rfl rfl rfl fun x49_9 T5 n5 h17 ρ its hS => ?_
        refine as_ ?_
        refine dn ?_
        refine CV.ret ?_
        refine PV.blockR ?_
        refine PV.thenR ?_
        cases h17
        exact PV.ret (by simp) Tryz.results67 hS (RS.tmp rfl RS.nil) rfl
       ·
        clear h15
        subst e
        refine sr ?_
        refine vy (V.eq h16 rfl rfl) fun x51_10 h18 => ?_
        refine as_ ?_
        refine dn ?_
        refine CV.cond h18 rfl (fun e h19 => ?_) (fun e h19 => ?_)
        ·
         clear h16 h18
         subst e
         cases h19
        ·
         clear h16 h18
         subst e
         refine cs6 X 0 3 4 5 9 55 [] (g67_k4 ro) ?_ ?_
         ·
          refine sr ?_
          refine vy (V.eq h19 rfl rfl) fun x56_35 h58 => ?_
          refine as_ ?_
          refine dn ?_
          refine CV.cond h58 rfl (fun e h59 => ?_) (fun e h59 => ?_)
          ·
           clear h19 h58
           subst e
           refine CV.skip ?_
           exact pa6 hS h59 ⟨rfl, rfl, rfl, rfl, rfl, rfl, trivial⟩
          ·
           clear h19 h58
           subst e
           refine CV.region ?_
           refine vy (V.eq h59 rfl rfl) fun x57_36 h60 => ?_
           refine as_ ?_
           refine LV.done ?_
           exact pa6 hS h60 ⟨rfl, rfl, rfl, rfl, rfl, rfl, trivial⟩
         ·
          intro y0 y3 y4 y5 y9 y55 T6 n6 ρ its hS h20
          unfold g67_k4 at h20
          clear h19
          refine CV.cond h20 rfl (fun e h21 => ?_) (fun e h21 => ?_)
          ·
           clear h20
           subst e
           refine sr ?_
           refine mv ?_
           refine mv ?_
           refine LV.call hS h21 (g107_ok _ _ _ _ _ _ _ ) hP rfl rfl rfl rfl fun x60_11 T7 n7 h22 ρ its hS => ?_
           refine as_ ?_
           refine dn ?_
           refine CV.ret ?_
           refine PV.blockR ?_
           refine PV.thenR ?_
           cases h22
           exact PV.ret (by simp) Tryz.results67 hS (RS.tmp rfl RS.nil) rfl
          ·
           clear h20
           subst e
           refine sr ?_
           refine vy (V.eq h21 rfl rfl) fun x62_12 h23 => ?_
           refine as_ ?_
           refine dn ?_
           refine CV.cond h23 rfl (fun e h24 => ?_) (fun e h24 => ?_)
           ·
            clear h21 h23
            subst e
            cases h24
           ·
            clear h21 h23
            subst e
            refine sr ?_
            refine vy (V.eq h24 rfl rfl) fun x72_13 h25 => ?_
            refine as_ ?_
            refine dn ?_
            refine CV.cond h25 rfl (fun e h26 => ?_) (fun e h26 => ?_)
            ·
             clear h24 h25
             subst e
             cases h26
            ·
             clear h24 h25
             subst e
             refine sr ?_
             refine vy (V.eq h26 rfl rfl) fun x89_14 h27 => ?_
             refine as_ ?_
             refine dn ?_
             refine CV.cond h27 rfl (fun e h28 => ?_) (fun e h28 => ?_)
             ·
              clear h26 h27
              subst e
              cases h28
             ·
              clear h26 h27
              subst e
              refine sr ?_
              refine vy (V.eq h28 rfl rfl) fun x111_15 h29 => ?_
              refine as_ ?_
              refine dn ?_
              refine CV.cond h29 rfl (fun e h30 => ?_) (fun e h30 => ?_)
              ·
               clear h28 h29
               subst e
               cases h30
              ·
               clear h28 h29
               subst e
               refine sr ?_
               refine vy (V.eq h30 rfl rfl) fun x123_16 h31 => ?_
               refine as_ ?_
               refine dn ?_
               refine CV.cond h31 rfl (fun e h32 => ?_) (fun e h32 => ?_)
               ·
                clear h30 h31
                subst e
                refine sr ?_
                refine mv ?_
                refine vy (V.lenS h32 rfl Rnf.ls30) fun x125_17 h33 => ?_
                refine vy (V.gt h33 rfl rfl) fun x126_18 h34 => ?_
                refine mv ?_
                refine ls5 X 0 3 4 5 135 [] (g67_k5 ro) 8 ?_ ?_
                ·
                 rcases condK_inv h34 with ⟨e, h43⟩ | ⟨e, h43⟩
                 ·
                  clear h32 h33 h34
                  subst e
                  refine mv ?_
                  refine mv ?_
                  refine mv ?_
                  refine vy (V.lenS h43 rfl Rnf.ls30) fun x131_24 h44 => ?_
                  refine vy (V.sub h44 rfl rfl) fun x132_25 h45 => ?_
                  refine vy (V.cutHi hS h45 rfl rfl Rnf.el30) fun x133_26 h46 => ?_
                  refine LV.call hS h46 (g109_ok _ _ _ _ _ _ ) hP rfl rfl rfl rfl fun x134_27 T11 n11 h47 ρ its hS => ?_
                  refine pu ?_
                  exact la5 hS h47 ⟨rfl, rfl, rfl, rfl, rfl, trivial⟩
                 ·
                  clear h32 h33 h34
                  subst e
                  refine sk ?_
                  refine sk ?_
                  refine sk ?_
                  refine sk ?_
                  refine sk ?_
                  refine sk ?_
                  refine sk ?_
                  refine pu ?_
                  exact la5 hS h43 ⟨rfl, rfl, rfl, rfl, rfl, trivial⟩
                ·
                 intro y0 y3 y4 y5 y135 T8 n8 ρ its hS h35
                 unfold g67_k5 at h35
                 clear h32 h33 h34
                 refine mv ?_
                 refine ls5 X 0 3 4 5 145 [] (g67_k6 ro) 9 ?_ ?_
                 ·
                  rcases condK_inv h35 with ⟨e, h37⟩ | ⟨e, h37⟩
                  ·
                   clear h35
                   subst e
                   refine mv ?_
                   refine mv ?_
                   refine mv ?_
                   refine vy (V.lenS h37 rfl Rnf.ls30) fun x140_19 h38 => ?_
                   refine vy (V.sub h38 rfl rfl) fun x141_20 h39 => ?_
                   refine vy (V.ia h39 rfl rfl Rnf.el30) fun x142_21 h40 => ?_
                   refine vy (V.ld hS h40 rfl Rnf.one3) fun x143_22 h41 => ?_
                   refine LV.call hS h41 (g115_ok _ _ _ _ _ _ ) hP rfl rfl rfl rfl fun x144_23 T10 n10 h42 ρ its hS => ?_
                   refine pu ?_
                   exact la5 hS h42 ⟨rfl, rfl, rfl, rfl, rfl, trivial⟩
                  ·
                   clear h35
                   subst e
                   refine sk ?_
                   refine sk ?_
                   refine sk ?_
                   refine sk ?_
                   refine sk ?_
                   refine sk ?_
                   refine sk ?_
                   refine sk ?_
                   refine pu ?_
                   exact la5 hS h37 ⟨rfl, rfl, rfl, rfl, rfl, trivial⟩
                 ·
                  intro y0 y3 y4 y5 y145 T9 n9 ρ its hS h36
                  unfold g67_k6 at h36
                  clear h35
                  refine as_ ?_
                  refine dn ?_
                  refine CV.ret ?_
                  refine PV.blockR ?_
                  refine PV.thenR ?_
                  cases h36
                  exact PV.ret (by simp) Tryz.results67 hS (RS.tmp rfl RS.nil) rfl
               ·
                clear h30 h31
                subst e
                refine sr ?_
                refine vy (V.eq h32 rfl rfl) fun x147_28 h48 => ?_
                refine as_ ?_
                refine dn ?_
                refine CV.cond h48 rfl (fun e h49 => ?_) (fun e h49 => ?_)
                ·
                 clear h32 h48
                 subst e
                 refine sr ?_
                 refine mv ?_
                 refine vy (V.lenS h49 rfl Rnf.ls30) fun x149_29 h50 => ?_
                 refine vy (V.gt h50 rfl rfl) fun x150_30 h51 => ?_
                 refine mv ?_
                 refine ls5 X 0 3 4 5 155 [] (g67_k7 ro) 4 ?_ ?_
                 ·
                  rcases condK_inv h51 with ⟨e, h53⟩ | ⟨e, h53⟩
                  ·
                   clear h49 h50 h51
                   subst e
                   refine mv ?_
                   refine mv ?_
                   refine LV.call hS h53 (g109_ok _ _ _ _ _ _ ) hP rfl rfl rfl rfl fun x154_31 T13 n13 h54 ρ its hS => ?_
                   refine pu ?_
                   exact la5 hS h54 ⟨rfl, rfl, rfl, rfl, rfl, trivial⟩
                  ·
                   clear h49 h50 h51
                   subst e
                   refine sk ?_
                   refine sk ?_
                   refine sk ?_
                   refine pu ?_
                   exact la5 hS h53 ⟨rfl, rfl, rfl, rfl, rfl, trivial⟩
                 ·
                  intro y0 y3 y4 y5 y155 T12 n12 ρ its hS h52
                  unfold g67_k7 at h52
                  clear h49 h50 h51
                  refine as_ ?_
                  refine dn ?_
                  refine CV.ret ?_
                  refine PV.blockR ?_
                  refine PV.thenR ?_
                  cases h52
                  exact PV.ret (by simp) Tryz.results67 hS (RS.tmp rfl RS.nil) rfl
                ·
                 clear h32 h48
                 subst e
                 refine CV.skip ?_
                 refine PV.blockN ?_
                 refine PV.thenN ?_
                 refine sr ?_
                 refine mv ?_
                 refine vy (V.fa h49 rfl Rnf.fo32_0) fun x157_32 h55 => ?_
                 refine vy (V.ld hS h55 rfl Rnf.one3) fun x158_33 h56 => ?_
                 refine mv ?_
                 refine LV.call hS h56 (g118_ok _ _ _ _ _ _ ) hP rfl rfl rfl rfl fun x160_34 T14 n14 h57 ρ its hS => ?_
                 refine as_ ?_
                 refine dn ?_
                 refine CV.ret ?_
                 cases h57
                 exact PV.ret (by simp) Tryz.results67 hS (RS.tmp rfl RS.nil) rfl
noncomputable def g68_k2 (ro : List HT) (lp1 : AV → AV → AV → AV → HT → Nat → R) (y0 y2 y5 y6 y18 : AV) (T2 : HT) (n2 : Nat) : R :=
 condK 680015 y18
 (
  .bad 680016
 )
 (
  addK Tryz.prog 3 (.tmp 6) (.const (.int .i64 (.ofNat 1))) 680017 y6 (.lit (.int .i64 (.ofNat 1))) fun x19_5 =>
  lp1 y0 y2 y5 x19_5 T2 n2
 )
noncomputable def g68_k3 (ro : List HT) (y2 y35 : AV) (T3 : HT) (n3 : Nat) : R :=
 .ok (.val y35) T3 n3
noncomputable def g68_k5 (ro : List HT) (y2 y34 : AV) (T5 : HT) (n5 : Nat) : R :=
 g68_k3 ro y2 y34 T5 n5
noncomputable def g68_k4 (ro : List HT) (y0 y2 y29 : AV) (T4 : HT) (n4 : Nat) : R :=
 condK 680037 y29
 (
  lenTK 680039 y0 fun x32_10 =>
  leK Tryz.prog 3 (.tmp 32) (.const (.int .i64 (.ofNat 600))) 680040 x32_10 (.lit (.int .i64 (.ofNat 600))) fun x33_11 =>
  g68_k5 ro y2 x33_11 T4 n4
 )
 (
  g68_k5 ro y2 (.lit (.bool false)) T4 n4
 )
noncomputable def g68_b1 (ro : List HT) (lp1 : AV → AV → AV → AV → HT → Nat → R) (y0 y2 y5 y6 : AV) (T1 : HT) (n1 : Nat) : R :=
 ltK Tryz.prog 3 (.tmp 6) (.tmp 5) 680006 y6 y5 fun x7_2 =>
 condK 680007 x7_2
 (
  ixK 680012 y0 y6 fun x11_3 =>
  ltK Tryz.prog 5 (.tmp 11) (.const (.int .u8 (.ofNat 48))) 680013 x11_3 (.lit (.int .u8 (.ofNat 48))) fun x12_4 =>
  condK 680019 x12_4
  (
   g68_k2 ro lp1 y0 y2 y5 y6 (.lit (.bool true)) T1 n1
  )
  (
   ixK 680023 y0 y6 fun x16_6 =>
   gtK Tryz.prog 5 (.tmp 16) (.const (.int .u8 (.ofNat 57))) 680024 x16_6 (.lit (.int .u8 (.ofNat 57))) fun x17_7 =>
   g68_k2 ro lp1 y0 y2 y5 y6 x17_7 T1 n1
  )
 )
 (
  eqSK Tryz.prog 9 (.tmp 20) (.const (.string ⟨⟨[48]⟩⟩)) 680027 y0 (.lit (.string ⟨⟨[48]⟩⟩)) fun x21_8 =>
  condK 680030 x21_8
  (
   g68_k3 ro y2 (.lit (.bool true)) T1 n1
  )
  (
   neSK Tryz.prog 9 (.tmp 23) (.const (.string ⟨⟨[]⟩⟩)) 680033 y0 (.lit (.string ⟨⟨[]⟩⟩)) fun x24_9 =>
   condK 680043 x24_9
   (
    ixK 680045 y0 (.lit (.int .i64 (.ofNat 0))) fun x27_12 =>
    neK Tryz.prog 5 (.tmp 27) (.const (.int .u8 (.ofNat 48))) 680046 x27_12 (.lit (.int .u8 (.ofNat 48))) fun x28_13 =>
    g68_k4 ro y0 y2 x28_13 T1 n1
   )
   (
    g68_k4 ro y0 y2 (.lit (.bool false)) T1 n1
   )
  )
 )
noncomputable def g68 (ro : List HT) (a0 : AV) (T : HT) (nx : Nat) : R :=
 lenTK 680003 a0 fun x5_1 =>
 lpf4 680005 (g68_b1 ro) 100000 a0 (.lit (.bool false)) x5_1 (.lit (.int .i64 (.ofNat 0))) T nx
theorem g68_ok (ro : List HT) (a0 : AV) (T : HT) (nx : Nat) : GOk Tryz.prog envE 68 [a0] ro T nx (g68 ro a0 T nx) := by
 refine GOk.of_body Tryz.func68 rfl Tryz.ntmps68 (by kernel_rfl) rfl fun r T' n' h1 w0 base ρ0 its hS hP => ?_
 have X : CtxW envE ρ0 ro r T' n' := trivial
 unfold g68 at h1
 refine sr ?_
 refine as_ ?_
 refine dn ?_
 refine CV.seq ?_
 refine sr ?_
 refine mv ?_
 refine vy (V.lenT h1 rfl Rnf.ls9) fun x5_1 h2 => ?_
 refine mv ?_
 refine dn ?_
 refine CV.block ?_
 refine cl4 X 0 2 5 6 [] hS h2 ⟨rfl, rfl, rfl, rfl, trivial⟩ ?_
 intro f1 y0 y2 y5 y6 T1 n1 ρ its hS h3
 unfold g68_b1 at h3
 clear h1 h2
 refine sr ?_
 refine vy (V.lt h3 rfl rfl) fun x7_2 h4 => ?_
 refine dn ?_
 refine CV.seq ?_
 refine CV.cond h4 rfl (fun e h5 => ?_) (fun e h5 => ?_)
 ·
  clear h3 h4
  subst e
  refine CV.skip ?_
  refine PV.thenN ?_
  refine CV.seq ?_
  refine CV.block ?_
  refine sr ?_
  refine mv ?_
  refine as_ ?_
  refine dn ?_
  refine sr ?_
  refine mv ?_
  refine mv ?_
  refine vy (V.ix h5 rfl rfl Rnf.st9) fun x11_3 h6 => ?_
  refine vy (V.lt h6 rfl rfl) fun x12_4 h7 => ?_
  refine mv ?_
  refine ls5 X 0 2 5 6 18 [] (g68_k2 ro (lpf4 680005 (g68_b1 ro) f1)) 5 ?_ ?_
  ·
   rcases condK_inv h7 with ⟨e, h11⟩ | ⟨e, h11⟩
   ·
    clear h5 h6 h7
    subst e
    refine sk ?_
    refine sk ?_
    refine sk ?_
    refine sk ?_
    refine pu ?_
    exact la5 hS h11 ⟨rfl, rfl, rfl, rfl, rfl, trivial⟩
   ·
    clear h5 h6 h7
    subst e
    refine mv ?_
    refine mv ?_
    refine vy (V.ix h11 rfl rfl Rnf.st9) fun x16_6 h12 => ?_
    refine vy (V.gt h12 rfl rfl) fun x17_7 h13 => ?_
    refine pu ?_
    exact la5 hS h13 ⟨rfl, rfl, rfl, rfl, rfl, trivial⟩
  ·
   intro y0 y2 y5 y6 y18 T2 n2 ρ its hS h8
   unfold g68_k2 at h8
   clear h5 h6 h7
   refine dn ?_
   refine CV.cond h8 rfl (fun e h9 => ?_) (fun e h9 => ?_)
   ·
    clear h8
    subst e
    cases h9
   ·
    clear h8
    subst e
    refine CV.skip ?_
    refine PV.blockN ?_
    refine PV.thenN ?_
    refine CV.region ?_
    refine vy (V.add h9 rfl rfl) fun x19_5 h10 => ?_
    refine mv ?_
    refine LV.done ?_
    exact pb4 hS h10 ⟨rfl, rfl, rfl, rfl, trivial⟩
 ·
  clear h3 h4
  subst e
  refine CV.exit ?_
  refine PV.thenE ?_
  refine PV.thenE ?_
  refine PV.blockE ?_
  refine PV.thenN ?_
  refine sr ?_
  refine mv ?_
  refine vy (V.eqS h5 rfl rfl) fun x21_8 h14 => ?_
  refine mv ?_
  refine ls2 X 2 35 [] (g68_k3 ro) 13 ?_ ?_
  ·
   rcases condK_inv h14 with ⟨e, h16⟩ | ⟨e, h16⟩
   ·
    clear h5 h14
    subst e
    refine sk ?_
    refine sk ?_
    refine sk ?_
    refine sk ?_
    refine sk ?_
    refine sk ?_
    refine sk ?_
    refine sk ?_
    refine sk ?_
    refine sk ?_
    refine sk ?_
    refine sk ?_
    refine pu ?_
    exact la2 hS h16 ⟨rfl, rfl, trivial⟩
   ·
    clear h5 h14
    subst e
    refine mv ?_
    refine vy (V.neS h16 rfl rfl) fun x24_9 h17 => ?_
    refine mv ?_
    refine ls3 X 0 2 29 [(22, (.lit (.bool false)))] (g68_k4 ro) 4 ?_ ?_
    ·
     rcases condK_inv h17 with ⟨e, h23⟩ | ⟨e, h23⟩
     ·
      clear h16 h17
      subst e
      refine mv ?_
      refine vy (V.ix h23 rfl rfl Rnf.st9) fun x27_12 h24 => ?_
      refine vy (V.ne h24 rfl rfl) fun x28_13 h25 => ?_
      refine pu ?_
      exact la3 hS h25 ⟨rfl, rfl, rfl, rfl, trivial⟩
     ·
      clear h16 h17
      subst e
      refine sk ?_
      refine sk ?_
      refine sk ?_
      refine pu ?_
      exact la3 hS h23 ⟨rfl, rfl, rfl, rfl, trivial⟩
    ·
     intro y0 y2 y29 T4 n4 ρ its hS h18
     unfold g68_k4 at h18
     clear h16 h17
     refine mv ?_
     refine ls2 X 2 34 [(22, (.lit (.bool false)))] (g68_k5 ro) 4 ?_ ?_
     ·
      rcases condK_inv h18 with ⟨e, h20⟩ | ⟨e, h20⟩
      ·
       clear h18
       subst e
       refine mv ?_
       refine vy (V.lenT h20 rfl Rnf.ls9) fun x32_10 h21 => ?_
       refine vy (V.le h21 rfl rfl) fun x33_11 h22 => ?_
       refine pu ?_
       exact la2 hS h22 ⟨rfl, rfl, rfl, trivial⟩
      ·
       clear h18
       subst e
       refine sk ?_
       refine sk ?_
       refine sk ?_
       refine pu ?_
       exact la2 hS h20 ⟨rfl, rfl, rfl, trivial⟩
     ·
      intro y2 y34 T5 n5 ρ its hS h19
      unfold g68_k5 at h19
      clear h18
      refine pu ?_
      exact la2 hS h19 ⟨rfl, rfl, trivial⟩
  ·
   intro y2 y35 T3 n3 ρ its hS h15
   unfold g68_k3 at h15
   clear h5 h14
   refine as_ ?_
   refine dn ?_
   refine CV.ret ?_
   cases h15
   exact PV.ret (by simp) Tryz.results68 hS (RS.tmp rfl RS.nil) rfl
noncomputable def g37_k2 (ro : List HT) (y0 y3 y4 y20 : AV) (T4 : HT) (n4 : Nat) : R :=
 .ok (.val y20) T4 n4
noncomputable def g37_k3 (ro : List HT) (y0 y3 y4 y30 : AV) (T7 : HT) (n7 : Nat) : R :=
 .ok (.val y30) T7 n7
noncomputable def g37_k5 (ro : List HT) (y4 y44 : AV) (T10 : HT) (n10 : Nat) : R :=
 .ok (.val y44) T10 n10
noncomputable def g37_k4 (ro : List HT) (y0 y3 y4 y31 : AV) (T9 : HT) (n9 : Nat) : R :=
 condK 370031 y31
 (
  .bad 370032
 )
 (
  faK 370033 y3 3 fun x37_15 =>
  ldK 370034 T9 ro x37_15 fun x38_16 =>
  eqSK Tryz.prog 9 (.tmp 38) (.const (.string ⟨⟨[]⟩⟩)) 370035 x38_16 (.lit (.string ⟨⟨[]⟩⟩)) fun x39_17 =>
  condK 370038 x39_17
  (
   ldAK 370040 T9 ro y3 5 fun x42_18 =>
   callK (g67 ro y0 x42_18 T9 n9) fun x43_19 T11 n11 =>
   g37_k5 ro y4 x43_19 T11 n11
  )
  (
   g37_k5 ro y4 (.lit (.bool false)) T9 n9
  )
 )
noncomputable def g37_k1 (ro : List HT) (y0 y3 y4 y6 y7 : AV) (T2 : HT) (n2 : Nat) : R :=
 condK 370005 y7
 (
  faK 370006 y3 3 fun x13_4 =>
  ldK 370007 T2 ro x13_4 fun x14_5 =>
  callK (g66 ro x14_5 T2 n2) fun x15_6 T3 n3 =>
  condK 370011 x15_6
  (
   ldAK 370013 T3 ro y3 5 fun x18_7 =>
   callK (g67 ro y0 x18_7 T3 n3) fun x19_8 T5 n5 =>
   g37_k2 ro y0 y3 y4 x19_8 T5 n5
  )
  (
   g37_k2 ro y0 y3 y4 (.lit (.bool false)) T3 n3
  )
 )
 (
  eqK Tryz.prog 3 (.tmp 6) (.const (.int .i64 (.ofNat 4))) 370017 y6 (.lit (.int .i64 (.ofNat 4))) fun x22_9 =>
  condK 370019 x22_9
  (
   faK 370020 y3 3 fun x23_10 =>
   ldK 370021 T2 ro x23_10 fun x24_11 =>
   callK (g68 ro x24_11 T2 n2) fun x25_12 T6 n6 =>
   condK 370025 x25_12
   (
    ldAK 370027 T6 ro y3 5 fun x28_13 =>
    callK (g67 ro y0 x28_13 T6 n6) fun x29_14 T8 n8 =>
    g37_k3 ro y0 y3 y4 x29_14 T8 n8
   )
   (
    g37_k3 ro y0 y3 y4 (.lit (.bool false)) T6 n6
   )
  )
  (
   eqK Tryz.prog 3 (.tmp 6) (.const (.int .i64 (.ofNat 5))) 370044 y6 (.lit (.int .i64 (.ofNat 5))) fun x32_20 =>
   condK 370046 x32_20
   (
    g37_k4 ro y0 y3 y4 (.lit (.bool true)) T2 n2
   )
   (
    eqK Tryz.prog 3 (.tmp 6) (.const (.int .i64 (.ofNat 42))) 370047 y6 (.lit (.int .i64 (.ofNat 42))) fun x33_21 =>
    g37_k4 ro y0 y3 y4 x33_21 T2 n2
   )
  )
 )
noncomputable def g37 (ro : List HT) (a0 a1 : AV) (T : HT) (nx : Nat) : R :=
 boxK 370001 T nx a1 32 fun x3_1 T1 n1 =>
 faK 370003 x3_1 0 fun x5_2 =>
 ldK 370004 T1 ro x5_2 fun x6_3 =>
 eqK Tryz.prog 3 (.tmp 6) (.const (.int .i64 (.ofNat 6))) 370049 x6_3 (.lit (.int .i64 (.ofNat 6))) fun x8_22 =>
 condK 370051 x8_22
 (
  g37_k1 ro a0 x3_1 (.lit (.bool false)) x6_3 (.lit (.bool true)) T1 n1
 )
 (
  eqK Tryz.prog 3 (.tmp 6) (.const (.int .i64 (.ofNat 11))) 370052 x6_3 (.lit (.int .i64 (.ofNat 11))) fun x9_23 =>
  condK 370054 x9_23
  (
   g37_k1 ro a0 x3_1 (.lit (.bool false)) x6_3 (.lit (.bool true)) T1 n1
  )
  (
   eqK Tryz.prog 3 (.tmp 6) (.const (.int .i64 (.ofNat 12))) 370055 x6_3 (.lit (.int .i64 (.ofNat 12))) fun x10_24 =>
   condK 370057 x10_24
   (
    g37_k1 ro a0 x3_1 (.lit (.bool false)) x6_3 (.lit (.bool true)) T1 n1
   )
   (
    eqK Tryz.prog 3 (.tmp 6) (.const (.int .i64 (.ofNat 45))) 370058 x6_3 (.lit (.int .i64 (.ofNat 45))) fun x11_25 =>
    condK 370060 x11_25
    (
     g37_k1 ro a0 x3_1 (.lit (.bool false)) x6_3 (.lit (.bool true)) T1 n1
    )
    (
     eqK Tryz.prog 3 (.tmp 6) (.const (.int .i64 (.ofNat 46))) 370061 x6_3 (.lit (.int .i64 (.ofNat 46))) fun x12_26 =>
     g37_k1 ro a0 x3_1 (.lit (.bool false)) x6_3 x12_26 T1 n1
    )
   )
  )
 )
theorem g37_ok (ro : List HT) (a0 a1 : AV) (T : HT) (nx : Nat) : GOk Tryz.prog envE 37 [a0, a1] ro T nx (g37 ro a0 a1 T nx) := by
 refine GOk.of_body Tryz.func37 rfl Tryz.ntmps37 (by kernel_rfl) rfl fun r T' n' h1 w0 base ρ0 its hS hP => ?_
 have X : CtxW envE ρ0 ro r T' n' := trivial
 unfold g37 at h1
 refine sr ?_
 refine LV.box hS h1 rfl rfl rfl rfl rfl fun x3_1 T1 n1 h2 ρ its hS hdr => ?_
 refine as_ ?_
 refine dn ?_
 refine CV.seq ?_
 refine sr ?_
 refine vy (V.fa h2 rfl Rnf.fo32_0) fun x5_2 h3 => ?_
 refine vy (V.ld hS h3 rfl Rnf.one3) fun x6_3 h4 => ?_
 refine dn ?_
 refine CV.block ?_
 refine cs5 X 0 3 4 6 7 [] (g37_k1 ro) ?_ ?_
 ·
  refine sr ?_
  refine vy (V.eq h4 rfl rfl) fun x8_22 h35 => ?_
  refine as_ ?_
  refine dn ?_
  refine CV.cond h35 rfl (fun e h36 => ?_) (fun e h36 => ?_)
  ·
   clear h1 h2 h3 h4 h35
   subst e
   refine CV.skip ?_
   exact pa5 hS h36 ⟨rfl, rfl, rfl, rfl, rfl, trivial⟩
  ·
   clear h1 h2 h3 h4 h35
   subst e
   refine sr ?_
   refine vy (V.eq h36 rfl rfl) fun x9_23 h37 => ?_
   refine as_ ?_
   refine dn ?_
   refine CV.cond h37 rfl (fun e h38 => ?_) (fun e h38 => ?_)
   ·
    clear h36 h37
    subst e
    refine CV.skip ?_
    exact pa5 hS h38 ⟨rfl, rfl, rfl, rfl, rfl, trivial⟩
   ·
    clear h36 h37
    subst e
    refine sr ?_
    refine vy (V.eq h38 rfl rfl) fun x10_24 h39 => ?_
    refine as_ ?_
    refine dn ?_
    refine CV.cond h39 rfl (fun e h40 => ?_) (fun e h40 => ?_)
    ·
     clear h38 h39
     subst e
     refine CV.skip ?_
     exact pa5 hS h40 ⟨rfl, rfl, rfl, rfl, rfl, trivial⟩
    ·
     clear h38 h39
     subst e
     refine sr ?_
     refine vy (V.eq h40 rfl rfl) fun x11_25 h41 => ?_
     refine as_ ?_
     refine dn ?_
     refine CV.cond h41 rfl (fun e h42 => ?_) (fun e h42 => ?_)
     ·
      clear h40 h41
      subst e
      refine CV.skip ?_
      exact pa5 hS h42 ⟨rfl, rfl, rfl, rfl, rfl, trivial⟩
     ·
      clear h40 h41
      subst e
      refine CV.region ?_
      refine vy (V.eq h42 rfl rfl) fun x12_26 h43 => ?_
      refine as_ ?_
      refine LV.done ?_
      exact pa5 hS h43 ⟨rfl, rfl, rfl, rfl, rfl, trivial⟩
 ·
  intro y0 y3 y4 y6 y7 T2 n2 ρ its hS h5
  unfold g37_k1 at h5
  clear h1 h2 h3 h4
  refine CV.cond h5 rfl (fun e h6 => ?_) (fun e h6 => ?_)
  ·
   clear h5
   subst e
   refine sr ?_
   refine vy (V.fa h6 rfl Rnf.fo32_3) fun x13_4 h7 => ?_
   refine vy (V.ld hS h7 rfl Rnf.one9) fun x14_5 h8 => ?_
   refine LV.call hS h8 (g66_ok _ _ _ _ ) hP rfl rfl rfl rfl fun x15_6 T3 n3 h9 ρ its hS => ?_
   refine mv ?_
   refine ls4 X 0 3 4 20 [] (g37_k2 ro) 4 ?_ ?_
   ·
    rcases condK_inv h9 with ⟨e, h11⟩ | ⟨e, h11⟩
    ·
     clear h6 h7 h8 h9
     subst e
     refine mv ?_
     refine vy (V.ldA hS h11 rfl Rnf.agg32) fun x18_7 h12 => ?_
     refine LV.call hS h12 (g67_ok _ _ _ _ _ ) hP rfl rfl rfl rfl fun x19_8 T5 n5 h13 ρ its hS => ?_
     refine pu ?_
     exact la4 hS h13 ⟨rfl, rfl, rfl, rfl, trivial⟩
    ·
     clear h6 h7 h8 h9
     subst e
     refine sk ?_
     refine sk ?_
     refine sk ?_
     refine pu ?_
     exact la4 hS h11 ⟨rfl, rfl, rfl, rfl, trivial⟩
   ·
    intro y0 y3 y4 y20 T4 n4 ρ its hS h10
    unfold g37_k2 at h10
    clear h6 h7 h8 h9
    refine as_ ?_
    refine dn ?_
    refine CV.ret ?_
    refine PV.blockR ?_
    refine PV.thenR ?_
    cases h10
    exact PV.ret (by simp) Tryz.results37 hS (RS.tmp rfl RS.nil) rfl
  ·
   clear h5
   subst e
   refine sr ?_
   refine vy (V.eq h6 rfl rfl) fun x22_9 h14 => ?_
   refine as_ ?_
   refine dn ?_
   refine CV.cond h14 rfl (fun e h15 => ?_) (fun e h15 => ?_)
   ·
    clear h6 h14
    subst e
    refine sr ?_
    refine vy (V.fa h15 rfl Rnf.fo32_3) fun x23_10 h16 => ?_
    refine vy (V.ld hS h16 rfl Rnf.one9) fun x24_11 h17 => ?_
    refine LV.call hS h17 (g68_ok _ _ _ _ ) hP rfl rfl rfl rfl fun x25_12 T6 n6 h18 ρ its hS => ?_
    refine mv ?_
    refine ls4 X 0 3 4 30 [] (g37_k3 ro) 4 ?_ ?_
    ·
     rcases condK_inv h18 with ⟨e, h20⟩ | ⟨e, h20⟩
     ·
      clear h15 h16 h17 h18
      subst e
      refine mv ?_
      refine vy (V.ldA hS h20 rfl Rnf.agg32) fun x28_13 h21 => ?_
      refine LV.call hS h21 (g67_ok _ _ _ _ _ ) hP rfl rfl rfl rfl fun x29_14 T8 n8 h22 ρ its hS => ?_
      refine pu ?_
      exact la4 hS h22 ⟨rfl, rfl, rfl, rfl, trivial⟩
     ·
      clear h15 h16 h17 h18
      subst e
      refine sk ?_
      refine sk ?_
      refine sk ?_
      refine pu ?_
      exact la4 hS h20 ⟨rfl, rfl, rfl, rfl, trivial⟩
    ·
     intro y0 y3 y4 y30 T7 n7 ρ its hS h19
     unfold g37_k3 at h19
     clear h15 h16 h17 h18
     refine as_ ?_
     refine dn ?_
     refine CV.ret ?_
     refine PV.blockR ?_
     refine PV.thenR ?_
     cases h19
     exact PV.ret (by simp) Tryz.results37 hS (RS.tmp rfl RS.nil) rfl
   ·
    clear h6 h14
    subst e
    refine cs4 X 0 3 4 31 [] (g37_k4 ro) ?_ ?_
    ·
     refine sr ?_
     refine vy (V.eq h15 rfl rfl) fun x32_20 h32 => ?_
     refine as_ ?_
     refine dn ?_
     refine CV.cond h32 rfl (fun e h33 => ?_) (fun e h33 => ?_)
     ·
      clear h15 h32
      subst e
      refine CV.skip ?_
      exact pa4 hS h33 ⟨rfl, rfl, rfl, rfl, trivial⟩
     ·
      clear h15 h32
      subst e
      refine CV.region ?_
      refine vy (V.eq h33 rfl rfl) fun x33_21 h34 => ?_
      refine as_ ?_
      refine LV.done ?_
      exact pa4 hS h34 ⟨rfl, rfl, rfl, rfl, trivial⟩
    ·
     intro y0 y3 y4 y31 T9 n9 ρ its hS h23
     unfold g37_k4 at h23
     clear h15
     refine CV.cond h23 rfl (fun e h24 => ?_) (fun e h24 => ?_)
     ·
      clear h23
      subst e
      cases h24
     ·
      clear h23
      subst e
      refine CV.skip ?_
      refine PV.blockN ?_
      refine PV.thenN ?_
      refine sr ?_
      refine vy (V.fa h24 rfl Rnf.fo32_3) fun x37_15 h25 => ?_
      refine vy (V.ld hS h25 rfl Rnf.one9) fun x38_16 h26 => ?_
      refine vy (V.eqS h26 rfl rfl) fun x39_17 h27 => ?_
      refine mv ?_
      refine ls2 X 4 44 [] (g37_k5 ro) 4 ?_ ?_
      ·
       rcases condK_inv h27 with ⟨e, h29⟩ | ⟨e, h29⟩
       ·
        clear h24 h25 h26 h27
        subst e
        refine mv ?_
        refine vy (V.ldA hS h29 rfl Rnf.agg32) fun x42_18 h30 => ?_
        refine LV.call hS h30 (g67_ok _ _ _ _ _ ) hP rfl rfl rfl rfl fun x43_19 T11 n11 h31 ρ its hS => ?_
        refine pu ?_
        exact la2 hS h31 ⟨rfl, rfl, trivial⟩
       ·
        clear h24 h25 h26 h27
        subst e
        refine sk ?_
        refine sk ?_
        refine sk ?_
        refine pu ?_
        exact la2 hS h29 ⟨rfl, rfl, trivial⟩
      ·
       intro y4 y44 T10 n10 ρ its hS h28
       unfold g37_k5 at h28
       clear h24 h25 h26 h27
       refine as_ ?_
       refine dn ?_
       refine CV.ret ?_
       cases h28
       exact PV.ret (by simp) Tryz.results37 hS (RS.tmp rfl RS.nil) rfl
noncomputable def g69_b1 (ro : List HT) (lp1 : AV → AV → AV → AV → AV → HT → Nat → R) (y0 y1 y4 y7 y8 : AV) (T1 : HT) (n1 : Nat) : R :=
 ltK Tryz.prog 3 (.tmp 8) (.tmp 7) 690006 y8 y7 fun x9_2 =>
 condK 690007 x9_2
 (
  iaK 690013 y0 y8 1 fun x14_3 =>
  ldK 690014 T1 ro x14_3 fun x15_4 =>
  bin0 Tryz.prog .eql 4 (.tmp 11) (.tmp 15) 690015 y1 x15_4 fun x16_5 =>
  condK 690016 x16_5
  (
   .ok (.val y8) T1 n1
  )
  (
   addK Tryz.prog 3 (.tmp 8) (.const (.int .i64 (.ofNat 1))) 690019 y8 (.lit (.int .i64 (.ofNat 1))) fun x18_6 =>
   lp1 y0 y1 y4 y7 x18_6 T1 n1
  )
 )
 (
  .ok (.val (.lit (.int .i64 (.negSucc 0)))) T1 n1
 )
noncomputable def g69 (ro : List HT) (a0 a1 : AV) (T : HT) (nx : Nat) : R :=
 lenSK 690003 a0 fun x7_1 =>
 lpf5 690005 (g69_b1 ro) 100000 a0 a1 (.lit (.int .i64 (.ofNat 0))) x7_1 (.lit (.int .i64 (.ofNat 0))) T nx
theorem g69_ok (ro : List HT) (a0 a1 : AV) (T : HT) (nx : Nat) : GOk Tryz.prog envE 69 [a0, a1] ro T nx (g69 ro a0 a1 T nx) := by
 refine GOk.of_body Tryz.func69 rfl Tryz.ntmps69 (by kernel_rfl) rfl fun r T' n' h1 w0 base ρ0 its hS hP => ?_
 have X : CtxW envE ρ0 ro r T' n' := trivial
 unfold g69 at h1
 refine sr ?_
 refine as_ ?_
 refine dn ?_
 refine CV.seq ?_
 refine sr ?_
 refine mv ?_
 refine vy (V.lenS h1 rfl Rnf.ls67) fun x7_1 h2 => ?_
 refine mv ?_
 refine dn ?_
 refine CV.block ?_
 refine cl5 X 0 1 4 7 8 [] hS h2 ⟨rfl, rfl, rfl, rfl, rfl, trivial⟩ ?_
 intro f1 y0 y1 y4 y7 y8 T1 n1 ρ its hS h3
 unfold g69_b1 at h3
 clear h1 h2
 refine sr ?_
 refine vy (V.lt h3 rfl rfl) fun x9_2 h4 => ?_
 refine dn ?_
 refine CV.seq ?_
 refine CV.cond h4 rfl (fun e h5 => ?_) (fun e h5 => ?_)
 ·
  clear h3 h4
  subst e
  refine CV.skip ?_
  refine PV.thenN ?_
  refine CV.seq ?_
  refine CV.block ?_
  refine sr ?_
  refine mv ?_
  refine as_ ?_
  refine dn ?_
  refine sr ?_
  refine mv ?_
  refine mv ?_
  refine mv ?_
  refine vy (V.ia h5 rfl rfl Rnf.el67) fun x14_3 h6 => ?_
  refine vy (V.ld hS h6 rfl Rnf.one4) fun x15_4 h7 => ?_
  refine vy (V.bin0 h7 rfl rfl) fun x16_5 h8 => ?_
  refine dn ?_
  refine CV.cond h8 rfl (fun e h9 => ?_) (fun e h9 => ?_)
  ·
   clear h5 h6 h7 h8
   subst e
   refine sr ?_
   refine mv ?_
   refine as_ ?_
   refine dn ?_
   refine CV.ret ?_
   refine PV.blockR ?_
   refine PV.thenR ?_
   refine PV.thenR ?_
   refine PV.blockR ?_
   refine PV.thenR ?_
   cases h9
   exact PV.ret (by simp) Tryz.results69 hS (RS.tmp rfl RS.nil) rfl
  ·
   clear h5 h6 h7 h8
   subst e
   refine CV.skip ?_
   refine PV.blockN ?_
   refine PV.thenN ?_
   refine CV.region ?_
   refine vy (V.add h9 rfl rfl) fun x18_6 h10 => ?_
   refine mv ?_
   refine LV.done ?_
   exact pb5 hS h10 ⟨rfl, rfl, rfl, rfl, rfl, trivial⟩
 ·
  clear h3 h4
  subst e
  refine CV.exit ?_
  refine PV.thenE ?_
  refine PV.thenE ?_
  refine PV.blockE ?_
  refine PV.thenN ?_
  refine sr ?_
  refine as_ ?_
  refine dn ?_
  refine CV.ret ?_
  cases h5
  exact PV.ret (by simp) Tryz.results69 hS (RS.tmp rfl RS.nil) rfl
noncomputable def g38 (ro : List HT) (a0 a1 : AV) (T : HT) (nx : Nat) : R :=
 callK (g69 ro a0 a1 T nx) fun x7_1 T1 n1 =>
 geK Tryz.prog 3 (.tmp 7) (.const (.int .i64 (.ofNat 0))) 380005 x7_1 (.lit (.int .i64 (.ofNat 0))) fun x8_2 =>
 .ok (.val x8_2) T1 n1
theorem g38_ok (ro : List HT) (a0 a1 : AV) (T : HT) (nx : Nat) : GOk Tryz.prog envE 38 [a0, a1] ro T nx (g38 ro a0 a1 T nx) := by
 refine GOk.of_body Tryz.func38 rfl Tryz.ntmps38 (by kernel_rfl) rfl fun r T' n' h1 w0 base ρ0 its hS hP => ?_
 have X : CtxW envE ρ0 ro r T' n' := trivial
 unfold g38 at h1
 refine sr ?_
 refine as_ ?_
 refine dn ?_
 refine sr ?_
 refine mv ?_
 refine mv ?_
 refine LV.call hS h1 (g69_ok _ _ _ _ _ ) hP rfl rfl rfl rfl fun x7_1 T1 n1 h2 ρ its hS => ?_
 refine vy (V.ge h2 rfl rfl) fun x8_2 h3 => ?_
 refine as_ ?_
 refine dn ?_
 refine CV.ret ?_
 cases h3
 exact PV.ret (by simp) Tryz.results38 hS (RS.tmp rfl RS.nil) rfl
noncomputable def g70_k3 (ro : List HT) (lp1 : AV → AV → AV → AV → AV → AV → AV → HT → Nat → R) (y0 y4 y5 y6 y10 y11 y12 y47 : AV) (T9 : HT) (n9 : Nat) : R :=
 addK Tryz.prog 3 (.tmp 12) (.const (.int .i64 (.ofNat 1))) 700037 y12 (.lit (.int .i64 (.ofNat 1))) fun x48_16 =>
 lp1 y0 y4 y5 y47 y10 y11 x48_16 T9 n9
noncomputable def g70_k2 (ro : List HT) (lp1 : AV → AV → AV → AV → AV → AV → AV → HT → Nat → R) (y0 y4 y5 y6 y9 y10 y11 y12 y35 : AV) (T5 : HT) (n5 : Nat) : R :=
 condK 700025 y35
 (
  .bad 700026
 )
 (
  faK 700028 y9 3 fun x37_12 =>
  ldK 700029 T5 ro x37_12 fun x38_13 =>
  bsK 700030 T5 n5 1 9 1 [(0, x38_13)] fun x39_14 T6 n6 =>
  shrK 700032 T6 y5 fun T7 =>
  appK 700031 T7 ro n6 9 1 16 y5 x39_14 fun x40_15 T8 n8 =>
  condK 700039 y6
  (
   g70_k3 ro lp1 y0 y4 x40_15 (.lit (.bool true)) y10 y11 y12 (.lit (.bool true)) T8 n8
  )
  (
   faK 700041 y9 4 fun x43_17 =>
   ldK 700042 T8 ro x43_17 fun x44_18 =>
   lenSK 700043 x44_18 fun x45_19 =>
   gtK Tryz.prog 3 (.tmp 45) (.const (.int .i64 (.ofNat 0))) 700044 x45_19 (.lit (.int .i64 (.ofNat 0))) fun x46_20 =>
   g70_k3 ro lp1 y0 y4 x40_15 (.lit (.bool false)) y10 y11 y12 x46_20 T8 n8
  )
 )
noncomputable def g70_k4 (ro : List HT) (lp1 : AV → AV → AV → AV → AV → AV → AV → HT → Nat → R) (y0 y4 y5 y6 y9 y10 y11 y12 y34 : AV) (T10 : HT) (n10 : Nat) : R :=
 g70_k2 ro lp1 y0 y4 y5 y6 y9 y10 y11 y12 y34 T10 n10
noncomputable def g70_b1 (ro : List HT) (lp1 : AV → AV → AV → AV → AV → AV → AV → HT → Nat → R) (y0 y4 y5 y6 y10 y11 y12 : AV) (T1 : HT) (n1 : Nat) : R :=
 ltK Tryz.prog 3 (.tmp 12) (.tmp 11) 700008 y12 y11 fun x13_2 =>
 condK 700009 x13_2
 (
  iaK 700010 y10 y12 1 fun x14_3 =>
  ldK 700011 T1 ro x14_3 fun x15_4 =>
  fldK 700014 T1 ro y0 0 fun x19_5 =>
  iaK 700016 x19_5 x15_4 5 fun x21_6 =>
  ldAK 700017 T1 ro x21_6 5 fun x22_7 =>
  newK T1 n1 (.obj [.lit (.int .i64 0), .lit (.int .i64 0), .lit (.int .i64 0), .lit (.string ⟨#[]⟩), .lit (.slice none 0 0)] 32) fun x9_8 T2 n2 =>
  stAK 700019 T2 x9_8 x22_7 5 fun T3 =>
  faK 700021 x9_8 3 fun x24_9 =>
  ldK 700022 T3 ro x24_9 fun x25_10 =>
  callK (g87 ro y5 x25_10 T3 n2) fun x26_11 T4 n4 =>
  condK 700046 x26_11
  (
   g70_k2 ro lp1 y0 y4 y5 y6 x9_8 y10 y11 y12 (.lit (.bool true)) T4 n4
  )
  (
   condK 700051 y6
   (
    faK 700052 x9_8 4 fun x30_21 =>
    ldK 700053 T4 ro x30_21 fun x31_22 =>
    lenSK 700054 x31_22 fun x32_23 =>
    eqK Tryz.prog 3 (.tmp 32) (.const (.int .i64 (.ofNat 0))) 700055 x32_23 (.lit (.int .i64 (.ofNat 0))) fun x33_24 =>
    g70_k4 ro lp1 y0 y4 y5 (.lit (.bool true)) x9_8 y10 y11 y12 x33_24 T4 n4
   )
   (
    g70_k4 ro lp1 y0 y4 y5 (.lit (.bool false)) x9_8 y10 y11 y12 (.lit (.bool false)) T4 n4
   )
  )
 )
 (
  .ok (.val (.lit (.bool true))) T1 n1
 )
noncomputable def g70 (ro : List HT) (a0 a1 : AV) (T : HT) (nx : Nat) : R :=
 lenSK 700005 a1 fun x11_1 =>
 lpf7 700007 (g70_b1 ro) 100000 a0 (.lit (.bool false)) (.lit (.slice none 0 0)) (.lit (.bool false)) a1 x11_1 (.lit (.int .i64 (.ofNat 0))) T nx
theorem g70_ok (ro : List HT) (a0 a1 : AV) (T : HT) (nx : Nat) : GOk Tryz.prog envE 70 [a0, a1] ro T nx (g70 ro a0 a1 T nx) := by
 refine GOk.of_body Tryz.func70 rfl Tryz.ntmps70 (by kernel_rfl) rfl fun r T' n' h1 w0 base ρ0 its hS hP => ?_
 have X : CtxW envE ρ0 ro r T' n' := trivial
 unfold g70 at h1
 refine sr ?_
 refine as_ ?_
 refine dn ?_
 refine sr ?_
 refine as_ ?_
 refine dn ?_
 refine sr ?_
 refine as_ ?_
 refine dn ?_
 refine CV.seq ?_
 refine sr ?_
 refine mv ?_
 refine vy (V.lenS h1 rfl Rnf.ls30) fun x11_1 h2 => ?_
 refine mv ?_
 refine dn ?_
 refine CV.block ?_
 refine cl7 X 0 4 5 6 10 11 12 [] hS h2 ⟨rfl, rfl, rfl, rfl, rfl, rfl, rfl, trivial⟩ ?_
 intro f1 y0 y4 y5 y6 y10 y11 y12 T1 n1 ρ its hS h3
 unfold g70_b1 at h3
 clear h1 h2
 refine sr ?_
 refine vy (V.lt h3 rfl rfl) fun x13_2 h4 => ?_
 refine dn ?_
 refine CV.seq ?_
 refine CV.cond h4 rfl (fun e h5 => ?_) (fun e h5 => ?_)
 ·
  clear h3 h4
  subst e
  refine CV.skip ?_
  refine PV.thenN ?_
  refine CV.seq ?_
  refine CV.block ?_
  refine sr ?_
  refine vy (V.ia h5 rfl rfl Rnf.el30) fun x14_3 h6 => ?_
  refine vy (V.ld hS h6 rfl Rnf.one3) fun x15_4 h7 => ?_
  refine as_ ?_
  refine dn ?_
  refine sr ?_
  refine mv ?_
  refine fl hS h7 Rnf.fo69_0 Rnf.one23 fun x19_5 h8 => ?_
  refine mv ?_
  refine vy (V.ia h8 rfl rfl Rnf.el23) fun x21_6 h9 => ?_
  refine vy (V.ldA hS h9 rfl Rnf.agg32) fun x22_7 h10 => ?_
  refine LV.alloc hS h10 rfl Rnf.zr32 rfl rfl rfl fun x9_8 T2 n2 h11 ρ its hS hdr => ?_
  refine LV.stA hS h11 rfl rfl rfl Rnf.agg32 rfl rfl rfl fun T3 its h12 hS => ?_
  refine dn ?_
  refine CV.seq ?_
  refine sr ?_
  refine mv ?_
  refine vy (V.fa h12 rfl Rnf.fo32_3) fun x24_9 h13 => ?_
  refine vy (V.ld hS h13 rfl Rnf.one9) fun x25_10 h14 => ?_
  refine LV.call hS h14 (g87_ok _ _ _ _ _ ) hP rfl rfl rfl rfl fun x26_11 T4 n4 h15 ρ its hS => ?_
  refine mv ?_
  refine ls9 X 0 4 5 6 9 10 11 12 35 [] (g70_k2 ro (lpf7 700007 (g70_b1 ro) f1)) 8 ?_ ?_
  ·
   rcases condK_inv h15 with ⟨e, h30⟩ | ⟨e, h30⟩
   ·
    clear h5 h6 h7 h8 h9 h10 h11 h12 h13 h14 h15
    subst e
    refine sk ?_
    refine sk ?_
    refine sk ?_
    refine sk ?_
    refine sk ?_
    refine sk ?_
    refine sk ?_
    refine pu ?_
    exact la9 hS h30 ⟨rfl, rfl, rfl, rfl, rfl, rfl, rfl, rfl, rfl, trivial⟩
   ·
    clear h5 h6 h7 h8 h9 h10 h11 h12 h13 h14 h15
    subst e
    refine mv ?_
    refine mv ?_
    refine ls9 X 0 4 5 6 9 10 11 12 34 [(27, (.lit (.bool false)))] (g70_k4 ro (lpf7 700007 (g70_b1 ro) f1)) 5 ?_ ?_
    ·
     rcases condK_inv h30 with ⟨e, h32⟩ | ⟨e, h32⟩
     ·
      clear h30
      subst e
      refine vy (V.fa h32 rfl Rnf.fo32_4) fun x30_21 h33 => ?_
      refine vy (V.ld hS h33 rfl Rnf.one30) fun x31_22 h34 => ?_
      refine vy (V.lenS h34 rfl Rnf.ls30) fun x32_23 h35 => ?_
      refine vy (V.eq h35 rfl rfl) fun x33_24 h36 => ?_
      refine pu ?_
      exact la9 hS h36 ⟨rfl, rfl, rfl, rfl, rfl, rfl, rfl, rfl, rfl, rfl, trivial⟩
     ·
      clear h30
      subst e
      refine sk ?_
      refine sk ?_
      refine sk ?_
      refine sk ?_
      refine pu ?_
      exact la9 hS h32 ⟨rfl, rfl, rfl, rfl, rfl, rfl, rfl, rfl, rfl, rfl, trivial⟩
    ·
     intro y0 y4 y5 y6 y9 y10 y11 y12 y34 T10 n10 ρ its hS h31
     unfold g70_k4 at h31
     clear h30
     refine pu ?_
     exact la9 hS h31 ⟨rfl, rfl, rfl, rfl, rfl, rfl, rfl, rfl, rfl, trivial⟩
  ·
   intro y0 y4 y5 y6 y9 y10 y11 y12 y35 T5 n5 ρ its hS h16
   unfold g70_k2 at h16
   clear h5 h6 h7 h8 h9 h10 h11 h12 h13 h14 h15
   refine dn ?_
   refine CV.cond h16 rfl (fun e h17 => ?_) (fun e h17 => ?_)
   ·
    clear h16
    subst e
    cases h17
   ·
    clear h16
    subst e
    refine CV.skip ?_
    refine PV.thenN ?_
    refine sr ?_
    refine mv ?_
    refine vy (V.fa h17 rfl Rnf.fo32_3) fun x37_12 h18 => ?_
    refine vy (V.ld hS h18 rfl Rnf.one9) fun x38_13 h19 => ?_
    refine LV.bslice hS h19 rfl rfl Rnf.el46 rfl rfl rfl rfl fun x39_14 T6 n6 h20 ρ its hS hdr => ?_
    obtain ⟨T7, its1, h21, hS, hW⟩ := shrK_inv hS h20
    refine LV.world hW ?_
    refine LV.app hS h21 rfl rfl rfl rfl Rnf.el46 rfl rfl rfl fun x40_15 T8 n8 h22 ρ its hS => ?_
    refine as_ ?_
    refine dn ?_
    refine CV.region ?_
    refine mv ?_
    refine mv ?_
    refine ls8 X 0 4 5 6 10 11 12 47 [] (g70_k3 ro (lpf7 700007 (g70_b1 ro) f1)) 5 ?_ ?_
    ·
     rcases condK_inv h22 with ⟨e, h25⟩ | ⟨e, h25⟩
     ·
      clear h17 h18 h19 h20 h21 h22
      subst e
      refine sk ?_
      refine sk ?_
      refine sk ?_
      refine sk ?_
      refine pu ?_
      exact la8 hS h25 ⟨rfl, rfl, rfl, rfl, rfl, rfl, rfl, rfl, trivial⟩
     ·
      clear h17 h18 h19 h20 h21 h22
      subst e
      refine vy (V.fa h25 rfl Rnf.fo32_4) fun x43_17 h26 => ?_
      refine vy (V.ld hS h26 rfl Rnf.one30) fun x44_18 h27 => ?_
      refine vy (V.lenS h27 rfl Rnf.ls30) fun x45_19 h28 => ?_
      refine vy (V.gt h28 rfl rfl) fun x46_20 h29 => ?_
      refine pu ?_
      exact la8 hS h29 ⟨rfl, rfl, rfl, rfl, rfl, rfl, rfl, rfl, trivial⟩
    ·
     intro y0 y4 y5 y6 y10 y11 y12 y47 T9 n9 ρ its hS h23
     unfold g70_k3 at h23
     clear h17 h18 h19 h20 h21 h22
     refine as_ ?_
     refine LV.done ?_
     refine PV.blockN ?_
     refine PV.thenN ?_
     refine CV.region ?_
     refine vy (V.add h23 rfl rfl) fun x48_16 h24 => ?_
     refine mv ?_
     refine LV.done ?_
     exact pb7 hS h24 ⟨rfl, rfl, rfl, rfl, rfl, rfl, rfl, trivial⟩
 ·
  clear h3 h4
  subst e
  refine CV.exit ?_
  refine PV.thenE ?_
  refine PV.thenE ?_
  refine PV.blockE ?_
  refine PV.thenN ?_
  refine sr ?_
  refine as_ ?_
  refine dn ?_
  refine CV.ret ?_
  cases h5
  exact PV.ret (by simp) Tryz.results70 hS (RS.tmp rfl RS.nil) rfl

end Go.Proofs.YtdepmlcnllofiaaGreatDoor.Rn
