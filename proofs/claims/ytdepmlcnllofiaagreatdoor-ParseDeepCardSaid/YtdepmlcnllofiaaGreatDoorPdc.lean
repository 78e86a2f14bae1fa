/-
  Proved here: plain functions that do what the program's functions do, each with its proof.
-/
import Derived.Test.YtdepmlcnllofiaaGreatDoorPdb
namespace Go.Proofs.YtdepmlcnllofiaaGreatDoor.Pd
open Go.EY Go.EX Go.SX Go.RowKit
noncomputable def g172_k2 (ro : List HT) (y0 y2 y3 y4 y84 : AV) (T6 : HT) (n6 : Nat) : R :=
 condK 1720095 y84
 (
  .bad 1720096
 )
 (
  callK (g98 ro y0 (.lit (.int .i64 (.ofNat 2))) y4 y3 T6 n6) fun x90_57 T7 n7 =>
  .ok (.val (.lit (.nilIface))) T7 n7
 )
noncomputable def g172_k3 (ro : List HT) (y0 y2 y3 y4 y83 : AV) (T8 : HT) (n8 : Nat) : R :=
 g172_k2 ro y0 y2 y3 y4 y83 T8 n8
noncomputable def g172_k4 (ro : List HT) (y0 y2 y3 y4 y84 : AV) (T9 : HT) (n9 : Nat) : R :=
 condK 1720132 y84
 (
  .bad 1720133
 )
 (
  callK (g98 ro y0 (.lit (.int .i64 (.ofNat 2))) y4 y3 T9 n9) fun x90_71 T10 n10 =>
  .ok (.val (.lit (.nilIface))) T10 n10
 )
noncomputable def g172_k5 (ro : List HT) (y0 y2 y3 y4 y83 : AV) (T11 : HT) (n11 : Nat) : R :=
 g172_k4 ro y0 y2 y3 y4 y83 T11 n11
noncomputable def g172_b1 (ro : List HT) (lp1 : AV → AV → AV → HT → Nat → R) (y0 y2 y3 : AV) (T1 : HT) (n1 : Nat) : R :=
 ncK 1720007 y0 fun x10_2 =>
 faK 1720008 x10_2 1 fun x11_3 =>
 ldK 1720009 T1 ro x11_3 fun x12_4 =>
 ncK 1720011 y0 fun x14_5 =>
 faK 1720012 x14_5 0 fun x15_6 =>
 ldK 1720013 T1 ro x15_6 fun x16_7 =>
 lenTK 1720014 x16_7 fun x17_8 =>
 ltK Tryz.prog 3 (.tmp 12) (.tmp 17) 1720015 x12_4 x17_8 fun x18_9 =>
 condK 1720017 x18_9
 (
  ncK 1720019 y0 fun x21_10 =>
  faK 1720020 x21_10 0 fun x22_11 =>
  ldK 1720021 T1 ro x22_11 fun x23_12 =>
  ncK 1720023 y0 fun x25_13 =>
  faK 1720024 x25_13 1 fun x26_14 =>
  ldK 1720025 T1 ro x26_14 fun x27_15 =>
  ixK 1720026 x23_12 x27_15 fun x28_16 =>
  callQ 1720027 (g104 (T1 :: ro) x28_16 .nil n1) fun x29_17 =>
  condK 1720029 x29_17
  (
   condK 1720032 (.lit (.bool true))
   (
    ncK 1720034 y0 fun x44_18 =>
    faK 1720035 x44_18 0 fun x45_19 =>
    ldK 1720036 T1 ro x45_19 fun x46_20 =>
    ncK 1720038 y0 fun x48_21 =>
    faK 1720039 x48_21 1 fun x49_22 =>
    ldK 1720040 T1 ro x49_22 fun x50_23 =>
    ixK 1720041 x46_20 x50_23 fun x51_24 =>
    callK (g104 ro x51_24 T1 n1) fun x52_25 T2 n2 =>
    condK 1720043 x52_25
    (
     .bad 1720044
    )
    (
     fldK 1720046 T2 ro y0 1 fun x58_26 =>
     addK Tryz.prog 3 (.tmp 58) (.const (.int .i64 (.ofNat 1))) 1720047 x58_26 (.lit (.int .i64 (.ofNat 1))) fun x59_27 =>
     faK 1720048 y0 1 fun x61_28 =>
     stK 1720049 T2 x61_28 x59_27 fun T3 =>
     lp1 y0 y2 y3 T3 n2
    )
   )
   (
    .bad 0
   )
  )
  (
   ncK 1720051 y0 fun x32_29 =>
   faK 1720052 x32_29 0 fun x33_30 =>
   ldK 1720053 T1 ro x33_30 fun x34_31 =>
   ncK 1720055 y0 fun x36_32 =>
   faK 1720056 x36_32 1 fun x37_33 =>
   ldK 1720057 T1 ro x37_33 fun x38_34 =>
   ixK 1720058 x34_31 x38_34 fun x39_35 =>
   callQ 1720059 (g105 (T1 :: ro) x39_35 .nil n1) fun x40_36 =>
   condK 1720062 x40_36
   (
    ncK 1720064 y0 fun x44_37 =>
    faK 1720065 x44_37 0 fun x45_38 =>
    ldK 1720066 T1 ro x45_38 fun x46_39 =>
    ncK 1720068 y0 fun x48_40 =>
    faK 1720069 x48_40 1 fun x49_41 =>
    ldK 1720070 T1 ro x49_41 fun x50_42 =>
    ixK 1720071 x46_39 x50_42 fun x51_43 =>
    callK (g104 ro x51_43 T1 n1) fun x52_44 T4 n4 =>
    condK 1720073 x52_44
    (
     .bad 1720074
    )
    (
     fldK 1720076 T4 ro y0 1 fun x58_45 =>
     addK Tryz.prog 3 (.tmp 58) (.const (.int .i64 (.ofNat 1))) 1720077 x58_45 (.lit (.int .i64 (.ofNat 1))) fun x59_46 =>
     faK 1720078 y0 1 fun x61_47 =>
     stK 1720079 T4 x61_47 x59_46 fun T5 =>
     lp1 y0 y2 y3 T5 n4
    )
   )
   (
    ncK 1720081 y0 fun x63_48 =>
    faK 1720082 x63_48 0 fun x64_49 =>
    ldK 1720083 T1 ro x64_49 fun x65_50 =>
    ncK 1720086 y0 fun x68_51 =>
    faK 1720087 x68_51 1 fun x69_52 =>
    ldK 1720088 T1 ro x69_52 fun x70_53 =>
    sliceF 1720089 x65_50 (some y3) (some x70_53) fun x71_54 =>
    lenTK 1720092 x71_54 fun x73_55 =>
    gtK Tryz.prog 3 (.tmp 73) (.const (.int .i64 (.ofNat 600))) 1720093 x73_55 (.lit (.int .i64 (.ofNat 600))) fun x74_56 =>
    condK 1720102 x74_56
    (
     g172_k2 ro y0 y2 y3 x71_54 (.lit (.bool true)) T1 n1
    )
    (
     ixK 1720105 x71_54 (.lit (.int .i64 (.ofNat 0))) fun x77_58 =>
     eqK Tryz.prog 5 (.tmp 77) (.const (.int .u8 (.ofNat 48))) 1720106 x77_58 (.lit (.int .u8 (.ofNat 48))) fun x78_59 =>
     condK 1720109 x78_59
     (
      lenTK 1720111 x71_54 fun x81_60 =>
      gtK Tryz.prog 3 (.tmp 81) (.const (.int .i64 (.ofNat 1))) 1720112 x81_60 (.lit (.int .i64 (.ofNat 1))) fun x82_61 =>
      g172_k3 ro y0 y2 y3 x71_54 x82_61 T1 n1
     )
     (
      g172_k3 ro y0 y2 y3 x71_54 (.lit (.bool false)) T1 n1
     )
    )
   )
  )
 )
 (
  condK 1720116 (.lit (.bool false))
  (
   .bad 0
  )
  (
   ncK 1720118 y0 fun x63_62 =>
   faK 1720119 x63_62 0 fun x64_63 =>
   ldK 1720120 T1 ro x64_63 fun x65_64 =>
   ncK 1720123 y0 fun x68_65 =>
   faK 1720124 x68_65 1 fun x69_66 =>
   ldK 1720125 T1 ro x69_66 fun x70_67 =>
   sliceF 1720126 x65_64 (some y3) (some x70_67) fun x71_68 =>
   lenTK 1720129 x71_68 fun x73_69 =>
   gtK Tryz.prog 3 (.tmp 73) (.const (.int .i64 (.ofNat 600))) 1720130 x73_69 (.lit (.int .i64 (.ofNat 600))) fun x74_70 =>
   condK 1720139 x74_70
   (
    g172_k4 ro y0 y2 y3 x71_68 (.lit (.bool true)) T1 n1
   )
   (
    ixK 1720142 x71_68 (.lit (.int .i64 (.ofNat 0))) fun x77_72 =>
    eqK Tryz.prog 5 (.tmp 77) (.const (.int .u8 (.ofNat 48))) 1720143 x77_72 (.lit (.int .u8 (.ofNat 48))) fun x78_73 =>
    condK 1720146 x78_73
    (
     lenTK 1720148 x71_68 fun x81_74 =>
     gtK Tryz.prog 3 (.tmp 81) (.const (.int .i64 (.ofNat 1))) 1720149 x81_74 (.lit (.int .i64 (.ofNat 1))) fun x82_75 =>
     g172_k5 ro y0 y2 y3 x71_68 x82_75 T1 n1
    )
    (
     g172_k5 ro y0 y2 y3 x71_68 (.lit (.bool false)) T1 n1
    )
   )
  )
 )
noncomputable def g172 (ro : List HT) (a0 : AV) (T : HT) (nx : Nat) : R :=
 fldK 1720003 T ro a0 1 fun x8_1 =>
 lpf3 1720005 (g172_b1 ro) 100000 a0 (.lit (.nilIface)) x8_1 T nx
theorem g172_ok (ro : List HT) (a0 : AV) (T : HT) (nx : Nat) : GOk Tryz.prog envE 172 [a0] ro T nx (g172 ro a0 T nx) := by
 refine GOk.of_body Tryz.func172 rfl Tryz.ntmps172 (by kernel_rfl) rfl fun r T' n' h1 w0 base ρ0 its hS hP => ?_
 have X : CtxW envE ρ0 ro r T' n' := trivial
 unfold g172 at h1
 refine sr ?_
 refine as_ ?_
 refine dn ?_
 refine sr ?_
 refine mv ?_
 refine fl hS h1 Pdf.fo168_1 Pdf.one3 fun x8_1 h2 => ?_
 refine as_ ?_
 refine dn ?_
 refine CV.seq ?_
 refine CV.block ?_
 refine cl3 X 0 2 3 [] hS h2 ⟨rfl, rfl, rfl, trivial⟩ ?_
 intro f1 y0 y2 y3 T1 n1 ρ its hS h3
 unfold g172_b1 at h3
 clear h1 h2
 refine CV.seq ?_
 refine CV.seq ?_
 refine CV.regionM [(0, .anywhere), (1, .anywhere), (2, .anywhere), (3, .held), (4, .anywhere), (5, .anywhere), (6, .anywhere), (7, .held), (8, .held), (9, .held), (10, .held), (11, .held), (12, .held), (13, .held), (14, .held), (15, .anywhere), (16, .anywhere), (17, .anywhere), (18, .held), (19, .held), (20, .alone), (21, .anywhere), (22, .anywhere), (23, .anywhere), (24, .anywhere), (25, .held), (26, .anywhere), (27, .anywhere), (28, .anywhere), (29, .held), (30, .held), (31, .alone), (32, .anywhere), (33, .anywhere)] rfl (fun c a a' w hd hq => PanicOk.root (P := Tryz.prog) (fn := Tryz.f172) (w0 := w0) (base := base) (E := envE) (ro := ro) (r := r) (T' := T') (n' := n') (ρ0 := ρ0) c a a' w hd hq) (by kernel_rfl) ?_
 refine MV.step0 (i := 0) rfl (VAL.move rfl) rfl rfl rfl ?_
 refine MV.lift0 (i := 1) rfl (V.nc h3 rfl) rfl rfl rfl fun x10_2 h4 => ?_
 refine MV.lift0 (i := 2) rfl (V.fa h4 rfl Pdf.fo168_1) rfl rfl rfl fun x11_3 h5 => ?_
 refine MV.lift1 (i := 3) rfl (fun _ z => z) (V.ld hS h5 rfl Pdf.one3) rfl rfl rfl [] (by kernel_rfl) fun x12_4 h6 => ?_
 refine MV.step0 (i := 4) rfl (VAL.move rfl) rfl rfl rfl ?_
 refine MV.lift0 (i := 5) rfl (V.nc h6 rfl) rfl rfl rfl fun x14_5 h7 => ?_
 refine MV.lift0 (i := 6) rfl (V.fa h7 rfl Pdf.fo168_0) rfl rfl rfl fun x15_6 h8 => ?_
 refine MV.lift1 (i := 7) rfl (fun _ z => z) (V.ld hS h8 rfl Pdf.one9) rfl rfl rfl [3] (by kernel_rfl) fun x16_7 h9 => ?_
 refine MV.lift1 (i := 8) rfl (fun _ z => z) (V.lenT h9 rfl Pdf.ls9) rfl rfl rfl [3] (by kernel_rfl) fun x17_8 h10 => ?_
 refine MV.lift1 (i := 9) rfl (fun _ z => z) (V.lt h10 rfl rfl) rfl rfl rfl [] (by kernel_rfl) fun x18_9 h11 => ?_
 refine MV.step1 (i := 10) rfl (fun _ z => z) (VAL.move rfl) rfl rfl rfl [] (by kernel_rfl) ?_
 rcases condK_inv h11 with ⟨e, h12⟩ | ⟨e, h12⟩
 ·
  clear h3 h4 h5 h6 h7 h8 h9 h10 h11
  subst e
  refine MV.step1 (i := 11) rfl (fun _ z => z) (VAL.move rfl) rfl rfl rfl [] (by kernel_rfl) ?_
  refine MV.lift1 (i := 12) rfl (fun _ z => z) (V.nc h12 rfl) rfl rfl rfl [] (by kernel_rfl) fun x21_10 h13 => ?_
  refine MV.lift1 (i := 13) rfl (fun _ z => z) (V.fa h13 rfl Pdf.fo168_0) rfl rfl rfl [] (by kernel_rfl) fun x22_11 h14 => ?_
  refine MV.lift1 (i := 14) rfl (fun _ z => z) (V.ld hS h14 rfl Pdf.one9) rfl rfl rfl [] (by kernel_rfl) fun x23_12 h15 => ?_
  refine MV.step0 (i := 15) rfl (VAL.move rfl) rfl rfl rfl ?_
  refine MV.lift0 (i := 16) rfl (V.nc h15 rfl) rfl rfl rfl fun x25_13 h16 => ?_
  refine MV.lift0 (i := 17) rfl (V.fa h16 rfl Pdf.fo168_1) rfl rfl rfl fun x26_14 h17 => ?_
  refine MV.lift1 (i := 18) rfl (fun _ z => z) (V.ld hS h17 rfl Pdf.one3) rfl rfl rfl [14] (by kernel_rfl) fun x27_15 h18 => ?_
  refine MV.lift1 (i := 19) rfl (fun _ z => z) (V.ix h18 rfl rfl Pdf.st9) rfl rfl rfl [] (by kernel_rfl) fun x28_16 h19 => ?_
  refine MV.force (i := 20) rfl ?_
  refine LV.callQ hS h19 (g104_ok _ _ _ _ ) rfl rfl rfl rfl fun x29_17 h20 => ?_
  refine LV.nextM [] (by kernel_rfl) (fun z => absurd rfl z) ?_
  refine MV.step0 (i := 21) rfl (VAL.move rfl) rfl rfl rfl ?_
  rcases condK_inv h20 with ⟨e, h21⟩ | ⟨e, h21⟩
  ·
   clear h12 h13 h14 h15 h16 h17 h18 h19 h20
   subst e
   refine MV.skip0 (i := 22) rfl rfl rfl rfl ?_
   refine MV.skip0 (i := 23) rfl rfl rfl rfl ?_
   refine MV.skip0 (i := 24) rfl rfl rfl rfl ?_
   refine MV.skip1 (i := 25) rfl (fun _ z => z) rfl rfl rfl [] (by kernel_rfl) ?_
   refine MV.skip0 (i := 26) rfl rfl rfl rfl ?_
   refine MV.skip0 (i := 27) rfl rfl rfl rfl ?_
   refine MV.skip0 (i := 28) rfl rfl rfl rfl ?_
   refine MV.skip1 (i := 29) rfl (fun _ z => z) rfl rfl rfl [25] (by kernel_rfl) ?_
   refine MV.skip1 (i := 30) rfl (fun _ z => z) rfl rfl rfl [] (by kernel_rfl) ?_
   refine MV.force (i := 31) rfl ?_
   refine sk ?_
   refine LV.nextM [] (by kernel_rfl) (fun z => absurd rfl z) ?_
   refine MV.step0 (i := 32) rfl (VAL.pure rfl) rfl rfl rfl ?_
   refine MV.step0 (i := 33) rfl (VAL.pure rfl) rfl rfl rfl ?_
   refine mdn ?_
   refine CV.cond h21 rfl (fun e h22 => ?_) (fun e h22 => ?_)
   ·
    clear h21
    refine CV.skip ?_
    refine PV.thenN ?_
    refine CV.block ?_
    refine CV.seq ?_
    refine CV.seq ?_
    refine CV.regionM [(0, .anywhere), (1, .anywhere), (2, .anywhere), (3, .held), (4, .anywhere), (5, .anywhere), (6, .anywhere), (7, .held), (8, .held), (9, .alone)] rfl (fun c a a' w hd hq => PanicOk.root (P := Tryz.prog) (fn := Tryz.f172) (w0 := w0) (base := base) (E := envE) (ro := ro) (r := r) (T' := T') (n' := n') (ρ0 := ρ0) c a a' w hd hq) (by kernel_rfl) ?_
    refine MV.step0 (i := 0) rfl (VAL.move rfl) rfl rfl rfl ?_
    refine MV.lift0 (i := 1) rfl (V.nc h22 rfl) rfl rfl rfl fun x44_18 h23 => ?_
    refine MV.lift0 (i := 2) rfl (V.fa h23 rfl Pdf.fo168_0) rfl rfl rfl fun x45_19 h24 => ?_
    refine MV.lift1 (i := 3) rfl (fun _ z => z) (V.ld hS h24 rfl Pdf.one9) rfl rfl rfl [] (by kernel_rfl) fun x46_20 h25 => ?_
    refine MV.step0 (i := 4) rfl (VAL.move rfl) rfl rfl rfl ?_
    refine MV.lift0 (i := 5) rfl (V.nc h25 rfl) rfl rfl rfl fun x48_21 h26 => ?_
    refine MV.lift0 (i := 6) rfl (V.fa h26 rfl Pdf.fo168_1) rfl rfl rfl fun x49_22 h27 => ?_
    refine MV.lift1 (i := 7) rfl (fun _ z => z) (V.ld hS h27 rfl Pdf.one3) rfl rfl rfl [3] (by kernel_rfl) fun x50_23 h28 => ?_
    refine MV.lift1 (i := 8) rfl (fun _ z => z) (V.ix h28 rfl rfl Pdf.st9) rfl rfl rfl [] (by kernel_rfl) fun x51_24 h29 => ?_
    refine MV.force (i := 9) rfl ?_
    refine LV.call hS h29 (g104_ok _ _ _ _ ) hP rfl rfl rfl rfl fun x52_25 T2 n2 h30 ρ its hS => ?_
    refine LV.nextM [] (by kernel_rfl) (fun z => absurd rfl z) ?_
    refine mdn ?_
    refine CV.cond h30 rfl (fun e h31 => ?_) (fun e h31 => ?_)
    ·
     clear h22 h23 h24 h25 h26 h27 h28 h29 h30
     subst e
     cases h31
    ·
     clear h22 h23 h24 h25 h26 h27 h28 h29 h30
     subst e
     refine CV.skip ?_
     refine PV.thenN ?_
     refine CV.region ?_
     refine mv ?_
     refine fl hS h31 Pdf.fo168_1 Pdf.one3 fun x58_26 h32 => ?_
     refine vy (V.add h32 rfl rfl) fun x59_27 h33 => ?_
     refine fa2 h33 Pdf.fo168_1 fun x61_28 h34 => ?_
     refine LV.st hS h34 rfl rfl rfl Pdf.siz3 rfl rfl fun T3 its h35 hS => ?_
     refine LV.done ?_
     refine PV.blockN ?_
     exact pb3 hS h35 ⟨rfl, rfl, rfl, trivial⟩
   ·
    clear h21
    cases e
  ·
   clear h12 h13 h14 h15 h16 h17 h18 h19 h20
   subst e
   refine MV.step0 (i := 22) rfl (VAL.move rfl) rfl rfl rfl ?_
   refine MV.lift0 (i := 23) rfl (V.nc h21 rfl) rfl rfl rfl fun x32_29 h36 => ?_
   refine MV.lift0 (i := 24) rfl (V.fa h36 rfl Pdf.fo168_0) rfl rfl rfl fun x33_30 h37 => ?_
   refine MV.lift1 (i := 25) rfl (fun _ z => z) (V.ld hS h37 rfl Pdf.one9) rfl rfl rfl [] (by kernel_rfl) fun x34_31 h38 => ?_
   refine MV.step0 (i := 26) rfl (VAL.move rfl) rfl rfl rfl ?_
   refine MV.lift0 (i := 27) rfl (V.nc h38 rfl) rfl rfl rfl fun x36_32 h39 => ?_
   refine MV.lift0 (i := 28) rfl (V.fa h39 rfl Pdf.fo168_1) rfl rfl rfl fun x37_33 h40 => ?_
   refine MV.lift1 (i := 29) rfl (fun _ z => z) (V.ld hS h40 rfl Pdf.one3) rfl rfl rfl [25] (by kernel_rfl) fun x38_34 h41 => ?_
   refine MV.lift1 (i := 30) rfl (fun _ z => z) (V.ix h41 rfl rfl Pdf.st9) rfl rfl rfl [] (by kernel_rfl) fun x39_35 h42 => ?_
   refine MV.force (i := 31) rfl ?_
   refine LV.callQ hS h42 (g105_ok _ _ _ _ ) rfl rfl rfl rfl fun x40_36 h43 => ?_
   refine LV.nextM [] (by kernel_rfl) (fun z => absurd rfl z) ?_
   refine MV.step0 (i := 32) rfl (VAL.pure rfl) rfl rfl rfl ?_
   refine MV.step0 (i := 33) rfl (VAL.pure rfl) rfl rfl rfl ?_
   refine mdn ?_
   refine CV.cond h43 rfl (fun e h44 => ?_) (fun e h44 => ?_)
   ·
    clear h21 h36 h37 h38 h39 h40 h41 h42 h43
    subst e
    refine CV.skip ?_
    refine PV.thenN ?_
    refine CV.block ?_
    refine CV.seq ?_
    refine CV.seq ?_
    refine CV.regionM [(0, .anywhere), (1, .anywhere), (2, .anywhere), (3, .held), (4, .anywhere), (5, .anywhere), (6, .anywhere), (7, .held), (8, .held), (9, .alone)] rfl (fun c a a' w hd hq => PanicOk.root (P := Tryz.prog) (fn := Tryz.f172) (w0 := w0) (base := base) (E := envE) (ro := ro) (r := r) (T' := T') (n' := n') (ρ0 := ρ0) c a a' w hd hq) (by kernel_rfl) ?_
    refine MV.step0 (i := 0) rfl (VAL.move rfl) rfl rfl rfl ?_
    refine MV.lift0 (i := 1) rfl (V.nc h44 rfl) rfl rfl rfl fun x44_37 h45 => ?_
    refine MV.lift0 (i := 2) rfl (V.fa h45 rfl Pdf.fo168_0) rfl rfl rfl fun x45_38 h46 => ?_
    refine MV.lift1 (i := 3) rfl (fun _ z => z) (V.ld hS h46 rfl Pdf.one9) rfl rfl rfl [] (by kernel_rfl) fun x46_39 h47 => ?_
    refine MV.step0 (i := 4) rfl (VAL.move rfl) rfl rfl rfl ?_
    refine MV.lift0 (i := 5) rfl (V.nc h47 rfl) rfl rfl rfl fun x48_40 h48 => ?_
    refine MV.lift0 (i := 6) rfl (V.fa h48 rfl Pdf.fo168_1) rfl rfl rfl fun x49_41 h49 => ?_
    refine MV.lift1 (i := 7) rfl (fun _ z => z) (V.ld hS h49 rfl Pdf.one3) rfl rfl rfl [3] (by kernel_rfl) fun x50_42 h50 => ?_
    refine MV.lift1 (i := 8) rfl (fun _ z => z) (V.ix h50 rfl rfl Pdf.st9) rfl rfl rfl [] (by kernel_rfl) fun x51_43 h51 => ?_
    refine MV.force (i := 9) rfl ?_
    refine LV.call hS h51 (g104_ok _ _ _ _ ) hP rfl rfl rfl rfl fun x52_44 T4 n4 h52 ρ its hS => ?_
    refine LV.nextM [] (by kernel_rfl) (fun z => absurd rfl z) ?_
    refine mdn ?_
    refine CV.cond h52 rfl (fun e h53 => ?_) (fun e h53 => ?_)
    ·
     clear h44 h45 h46 h47 h48 h49 h50 h51 h52
     subst e
     cases h53
    ·
     clear h44 h45 h46 h47 h48 h49 h50 h51 h52
     subst e
     refine CV.skip ?_
     refine PV.thenN ?_
     refine CV.region ?_
     refine mv ?_
     refine fl hS h53 Pdf.fo168_1 Pdf.one3 fun x58_45 h54 => ?_
     refine vy (V.add h54 rfl rfl) fun x59_46 h55 => ?_
     refine fa2 h55 Pdf.fo168_1 fun x61_47 h56 => ?_
     refine LV.st hS h56 rfl rfl rfl Pdf.siz3 rfl rfl fun T5 its h57 hS => ?_
     refine LV.done ?_
     refine PV.blockN ?_
     exact pb3 hS h57 ⟨rfl, rfl, rfl, trivial⟩
   ·
    clear h21 h36 h37 h38 h39 h40 h41 h42 h43
    subst e
    refine CV.exit ?_
    refine PV.thenE ?_
    refine PV.thenE ?_
    refine PV.blockE ?_
    refine PV.thenN ?_
    refine CV.seq ?_
    refine CV.regionM [(0, .anywhere), (1, .anywhere), (2, .anywhere), (3, .held), (4, .anywhere), (5, .anywhere), (6, .anywhere), (7, .anywhere), (8, .held), (9, .held), (10, .held)] rfl (fun c a a' w hd hq => PanicOk.root (P := Tryz.prog) (fn := Tryz.f172) (w0 := w0) (base := base) (E := envE) (ro := ro) (r := r) (T' := T') (n' := n') (ρ0 := ρ0) c a a' w hd hq) (by kernel_rfl) ?_
    refine MV.step0 (i := 0) rfl (VAL.move rfl) rfl rfl rfl ?_
    refine MV.lift0 (i := 1) rfl (V.nc h44 rfl) rfl rfl rfl fun x63_48 h58 => ?_
    refine MV.lift0 (i := 2) rfl (V.fa h58 rfl Pdf.fo168_0) rfl rfl rfl fun x64_49 h59 => ?_
    refine MV.lift1 (i := 3) rfl (fun _ z => z) (V.ld hS h59 rfl Pdf.one9) rfl rfl rfl [] (by kernel_rfl) fun x65_50 h60 => ?_
    refine MV.step0 (i := 4) rfl (VAL.move rfl) rfl rfl rfl ?_
    refine MV.step0 (i := 5) rfl (VAL.move rfl) rfl rfl rfl ?_
    refine MV.lift0 (i := 6) rfl (V.nc h60 rfl) rfl rfl rfl fun x68_51 h61 => ?_
    refine MV.lift0 (i := 7) rfl (V.fa h61 rfl Pdf.fo168_1) rfl rfl rfl fun x69_52 h62 => ?_
    refine MV.lift1 (i := 8) rfl (fun _ z => z) (V.ld hS h62 rfl Pdf.one3) rfl rfl rfl [3] (by kernel_rfl) fun x70_53 h63 => ?_
    refine MV.lift1 (i := 9) rfl (fun _ z => z) (V.slBo (sliceF_ok h63) rfl rfl rfl Pdf.st9) rfl rfl rfl [] (by kernel_rfl) fun x71_54 h64 => ?_
    refine MV.step1 (i := 10) rfl (fun _ z => z) (VAL.assign rfl) rfl rfl rfl [] (by kernel_rfl) ?_
    refine mdn ?_
    refine CV.seq ?_
    refine sr ?_
    refine mv ?_
    refine vy (V.lenT h64 rfl Pdf.ls9) fun x73_55 h65 => ?_
    refine vy (V.gt h65 rfl rfl) fun x74_56 h66 => ?_
    refine mv ?_
    refine ls5 X 0 2 3 4 84 [] (g172_k2 ro) 9 ?_ ?_
    ·
     rcases condK_inv h66 with ⟨e, h70⟩ | ⟨e, h70⟩
     ·
      clear h44 h58 h59 h60 h61 h62 h63 h64 h65 h66
      subst e
      refine sk ?_
      refine sk ?_
      refine sk ?_
      refine sk ?_
      refine sk ?_
      refine sk ?_
      refine sk ?_
      refine sk ?_
      refine pu ?_
      exact la5 hS h70 ⟨rfl, rfl, rfl, rfl, rfl, trivial⟩
     ·
      clear h44 h58 h59 h60 h61 h62 h63 h64 h65 h66
      subst e
      refine mv ?_
      refine vy (V.ix h70 rfl rfl Pdf.st9) fun x77_58 h71 => ?_
      refine vy (V.eq h71 rfl rfl) fun x78_59 h72 => ?_
      refine mv ?_
      refine ls5 X 0 2 3 4 83 [(75, (.lit (.bool false)))] (g172_k3 ro) 4 ?_ ?_
      ·
       rcases condK_inv h72 with ⟨e, h74⟩ | ⟨e, h74⟩
       ·
        clear h70 h71 h72
        subst e
        refine mv ?_
        refine vy (V.lenT h74 rfl Pdf.ls9) fun x81_60 h75 => ?_
        refine vy (V.gt h75 rfl rfl) fun x82_61 h76 => ?_
        refine pu ?_
        exact la5 hS h76 ⟨rfl, rfl, rfl, rfl, rfl, rfl, trivial⟩
       ·
        clear h70 h71 h72
        subst e
        refine sk ?_
        refine sk ?_
        refine sk ?_
        refine pu ?_
        exact la5 hS h74 ⟨rfl, rfl, rfl, rfl, rfl, rfl, trivial⟩
      ·
       intro y0 y2 y3 y4 y83 T8 n8 ρ its hS h73
       unfold g172_k3 at h73
       clear h70 h71 h72
       refine pu ?_
       exact la5 hS h73 ⟨rfl, rfl, rfl, rfl, rfl, trivial⟩
    ·
     intro y0 y2 y3 y4 y84 T6 n6 ρ its hS h67
     unfold g172_k2 at h67
     clear h44 h58 h59 h60 h61 h62 h63 h64 h65 h66
     refine dn ?_
     refine CV.cond h67 rfl (fun e h68 => ?_) (fun e h68 => ?_)
     ·
      clear h67
      subst e
      cases h68
     ·
      clear h67
      subst e
      refine CV.skip ?_
      refine PV.thenN ?_
      refine sr ?_
      refine mv ?_
      refine mv ?_
      refine mv ?_
      refine LV.call hS h68 (g98_ok _ _ _ _ _ _ _ ) hP rfl rfl rfl rfl fun x90_57 T7 n7 h69 ρ its hS => ?_
      refine dn ?_
      refine sr ?_
      refine as_ ?_
      refine dn ?_
      refine CV.ret ?_
      cases h69
      exact PV.ret (by simp) Tryz.results172 hS (RS.tmp rfl RS.nil) rfl
 ·
  clear h3 h4 h5 h6 h7 h8 h9 h10 h11
  subst e
  refine MV.skip1 (i := 11) rfl (fun _ z => z) rfl rfl rfl [] (by kernel_rfl) ?_
  refine MV.skip1 (i := 12) rfl (fun _ z => z) rfl rfl rfl [] (by kernel_rfl) ?_
  refine MV.skip1 (i := 13) rfl (fun _ z => z) rfl rfl rfl [] (by kernel_rfl) ?_
  refine MV.skip1 (i := 14) rfl (fun _ z => z) rfl rfl rfl [] (by kernel_rfl) ?_
  refine MV.skip0 (i := 15) rfl rfl rfl rfl ?_
  refine MV.skip0 (i := 16) rfl rfl rfl rfl ?_
  refine MV.skip0 (i := 17) rfl rfl rfl rfl ?_
  refine MV.skip1 (i := 18) rfl (fun _ z => z) rfl rfl rfl [14] (by kernel_rfl) ?_
  refine MV.skip1 (i := 19) rfl (fun _ z => z) rfl rfl rfl [] (by kernel_rfl) ?_
  refine MV.force (i := 20) rfl ?_
  refine sk ?_
  refine LV.nextM [] (by kernel_rfl) (fun z => absurd rfl z) ?_
  refine MV.skip0 (i := 21) rfl rfl rfl rfl ?_
  refine MV.skip0 (i := 22) rfl rfl rfl rfl ?_
  refine MV.skip0 (i := 23) rfl rfl rfl rfl ?_
  refine MV.skip0 (i := 24) rfl rfl rfl rfl ?_
  refine MV.skip1 (i := 25) rfl (fun _ z => z) rfl rfl rfl [] (by kernel_rfl) ?_
  refine MV.skip0 (i := 26) rfl rfl rfl rfl ?_
  refine MV.skip0 (i := 27) rfl rfl rfl rfl ?_
  refine MV.skip0 (i := 28) rfl rfl rfl rfl ?_
  refine MV.skip1 (i := 29) rfl (fun _ z => z) rfl rfl rfl [25] (by kernel_rfl) ?_
  refine MV.skip1 (i := 30) rfl (fun _ z => z) rfl rfl rfl [] (by kernel_rfl) ?_
  refine MV.force (i := 31) rfl ?_
  refine sk ?_
  refine LV.nextM [] (by kernel_rfl) (fun z => absurd rfl z) ?_
  refine MV.skip0 (i := 32) rfl rfl rfl rfl ?_
  refine MV.step0 (i := 33) rfl (VAL.pure rfl) rfl rfl rfl ?_
  refine mdn ?_
  refine CV.cond h12 rfl (fun e h77 => ?_) (fun e h77 => ?_)
  ·
   clear h12
   cases e
  ·
   clear h12
   refine CV.exit ?_
   refine PV.thenE ?_
   refine PV.thenE ?_
   refine PV.blockE ?_
   refine PV.thenN ?_
   refine CV.seq ?_
   refine CV.regionM [(0, .anywhere), (1, .anywhere), (2, .anywhere), (3, .held), (4, .anywhere), (5, .anywhere), (6, .anywhere), (7, .anywhere), (8, .held), (9, .held), (10, .held)] rfl (fun c a a' w hd hq => PanicOk.root (P := Tryz.prog) (fn := Tryz.f172) (w0 := w0) (base := base) (E := envE) (ro := ro) (r := r) (T' := T') (n' := n') (ρ0 := ρ0) c a a' w hd hq) (by kernel_rfl) ?_
   refine MV.step0 (i := 0) rfl (VAL.move rfl) rfl rfl rfl ?_
   refine MV.lift0 (i := 1) rfl (V.nc h77 rfl) rfl rfl rfl fun x63_62 h78 => ?_
   refine MV.lift0 (i := 2) rfl (V.fa h78 rfl Pdf.fo168_0) rfl rfl rfl fun x64_63 h79 => ?_
   refine MV.lift1 (i := 3) rfl (fun _ z => z) (V.ld hS h79 rfl Pdf.one9) rfl rfl rfl [] (by kernel_rfl) fun x65_64 h80 => ?_
   refine MV.step0 (i := 4) rfl (VAL.move rfl) rfl rfl rfl ?_
   refine MV.step0 (i := 5) rfl (VAL.move rfl) rfl rfl rfl ?_
   refine MV.lift0 (i := 6) rfl (V.nc h80 rfl) rfl rfl rfl fun x68_65 h81 => ?_
   refine MV.lift0 (i := 7) rfl (V.fa h81 rfl Pdf.fo168_1) rfl rfl rfl fun x69_66 h82 => ?_
   refine MV.lift1 (i := 8) rfl (fun _ z => z) (V.ld hS h82 rfl Pdf.one3) rfl rfl rfl [3] (by kernel_rfl) fun x70_67 h83 => ?_
   refine MV.lift1 (i := 9) rfl (fun _ z => z) (V.slBo (sliceF_ok h83) rfl rfl rfl Pdf.st9) rfl rfl rfl [] (by kernel_rfl) fun x71_68 h84 => ?_
   refine MV.step1 (i := 10) rfl (fun _ z => z) (VAL.assign rfl) rfl rfl rfl [] (by kernel_rfl) ?_
   refine mdn ?_
   refine CV.seq ?_
   refine sr ?_
   refine mv ?_
   refine vy (V.lenT h84 rfl Pdf.ls9) fun x73_69 h85 => ?_
   refine vy (V.gt h85 rfl rfl) fun x74_70 h86 => ?_
   refine mv ?_
   refine ls5 X 0 2 3 4 84 [] (g172_k4 ro) 9 ?_ ?_
   ·
    rcases condK_inv h86 with ⟨e, h90⟩ | ⟨e, h90⟩
    ·
     clear h77 h78 h79 h80 h81 h82 h83 h84 h85 h86
     subst e
     refine sk ?_
     refine sk ?_
     refine sk ?_
     refine sk ?_
     refine sk ?_
     refine sk ?_
     refine sk ?_
     refine sk ?_
     refine pu ?_
     exact la5 hS h90 ⟨rfl, rfl, rfl, rfl, rfl, trivial⟩
    ·
     clear h77 h78 h79 h80 h81 h82 h83 h84 h85 h86
     subst e
     refine mv ?_
     refine vy (V.ix h90 rfl rfl Pdf.st9) fun x77_72 h91 => ?_
     refine vy (V.eq h91 rfl rfl) fun x78_73 h92 => ?_
     refine mv ?_
     refine ls5 X 0 2 3 4 83 [(75, (.lit (.bool false)))] (g172_k5 ro) 4 ?_ ?_
     ·
      rcases condK_inv h92 with ⟨e, h94⟩ | ⟨e, h94⟩
      ·
       clear h90 h91 h92
       subst e
       refine mv ?_
       refine vy (V.lenT h94 rfl Pdf.ls9) fun x81_74 h95 => ?_
       refine vy (V.gt h95 rfl rfl) fun x82_75 h96 => ?_
       refine pu ?_
       exact la5 hS h96 ⟨rfl, rfl, rfl, rfl, rfl, rfl, trivial⟩
      ·
       clear h90 h91 h92
       subst e
       refine sk ?_
       refine sk ?_
       refine sk ?_
       refine pu ?_
       exact la5 hS h94 ⟨rfl, rfl, rfl, rfl, rfl, rfl, trivial⟩
     ·
      intro y0 y2 y3 y4 y83 T11 n11 ρ its hS h93
      unfold g172_k5 at h93
      clear h90 h91 h92
      refine pu ?_
      exact la5 hS h93 ⟨rfl, rfl, rfl, rfl, rfl, trivial⟩
   ·
    intro y0 y2 y3 y4 y84 T9 n9 ρ its hS h87
    unfold g172_k4 at h87
    clear h77 h78 h79 h80 h81 h82 h83 h84 h85 h86
    refine dn ?_
    refine CV.cond h87 rfl (fun e h88 => ?_) (fun e h88 => ?_)
    ·
     clear h87
     subst e
     cases h88
    ·
     clear h87
     subst e
     refine CV.skip ?_
     refine PV.thenN ?_
     refine sr ?_
     refine mv ?_
     refine mv ?_
     refine mv ?_
     refine LV.call hS h88 (g98_ok _ _ _ _ _ _ _ ) hP rfl rfl rfl rfl fun x90_71 T10 n10 h89 ρ its hS => ?_
     refine dn ?_
     refine sr ?_
     refine as_ ?_
     refine dn ?_
     refine CV.ret ?_
     cases h89
     exact PV.ret (by simp) Tryz.results172 hS (RS.tmp rfl RS.nil) rfl
noncomputable def g96 (ro : List HT) (a0 : AV) (T : HT) (nx : Nat) : R :=
 optK 960004 (bld74 [(0, a0), (1, (.iface 253 (.opq 0)))]) fun x5_1 =>
 boxK 960005 T nx x5_1 74 fun x6_2 T1 n1 =>
 .ok (.val (.iface 72 x6_2)) T1 n1
theorem g96_ok (ro : List HT) (a0 : AV) (T : HT) (nx : Nat) : GOk Tryz.prog envE 96 [a0] ro T nx (g96 ro a0 T nx) := by
 refine GOk.of_body Tryz.func96 rfl Tryz.ntmps96 (by kernel_rfl) rfl fun r T' n' h1 w0 base ρ0 its hS hP => ?_
 have X : CtxW envE ρ0 ro r T' n' := trivial
 unfold g96 at h1
 refine sr ?_
 refine as_ ?_
 refine dn ?_
 refine sr ?_
 refine mv ?_
 refine sv (VAL.ldG hS (by rfl) Pdf.one25) ?_
 refine vy (V.bld h1 rfl) fun x5_1 h2 => ?_
 refine LV.box hS h2 rfl rfl rfl rfl rfl fun x6_2 T1 n1 h3 ρ its hS hdr => ?_
 refine sv (VAL.mkI rfl Pdf.ni72) ?_
 refine as_ ?_
 refine dn ?_
 refine CV.ret ?_
 cases h3
 exact PV.ret (by simp) Tryz.results96 hS (RS.tmp rfl RS.nil) rfl
noncomputable def g229 (ro : List HT) (a0 a1 : AV) (T : HT) (nx : Nat) : R :=
 ibsK 2290004 a0 a1 fun x7_1 =>
 .ok (.val x7_1) T nx
theorem g229_ok (ro : List HT) (a0 a1 : AV) (T : HT) (nx : Nat) : GOk Tryz.prog envE 229 [a0, a1] ro T nx (g229 ro a0 a1 T nx) := by
 refine GOk.of_body Tryz.func229 rfl Tryz.ntmps229 (by kernel_rfl) rfl fun r T' n' h1 w0 base ρ0 its hS hP => ?_
 have X : CtxW envE ρ0 ro r T' n' := trivial
 unfold g229 at h1
 refine sr ?_
 refine as_ ?_
 refine dn ?_
 refine sr ?_
 refine mv ?_
 refine mv ?_
 refine vy (Pdf.ibf234 h1 rfl rfl) fun x7_1 h2 => ?_
 refine as_ ?_
 refine dn ?_
 refine CV.ret ?_
 cases h2
 exact PV.ret (by simp) Tryz.results229 hS (RS.tmp rfl RS.nil) rfl
noncomputable def g214 (ro : List HT) (a0 a1 : AV) (T : HT) (nx : Nat) : R :=
 callK (g229 ro a0 a1 T nx) fun x7_1 T1 n1 =>
 .ok (.val x7_1) T1 n1
theorem g214_ok (ro : List HT) (a0 a1 : AV) (T : HT) (nx : Nat) : GOk Tryz.prog envE 214 [a0, a1] ro T nx (g214 ro a0 a1 T nx) := by
 refine GOk.of_body Tryz.func214 rfl Tryz.ntmps214 (by kernel_rfl) rfl fun r T' n' h1 w0 base ρ0 its hS hP => ?_
 have X : CtxW envE ρ0 ro r T' n' := trivial
 unfold g214 at h1
 refine sr ?_
 refine as_ ?_
 refine dn ?_
 refine sr ?_
 refine mv ?_
 refine mv ?_
 refine LV.call hS h1 (g229_ok _ _ _ _ _ ) hP rfl rfl rfl rfl fun x7_1 T1 n1 h2 ρ its hS => ?_
 refine as_ ?_
 refine dn ?_
 refine CV.ret ?_
 cases h2
 exact PV.ret (by simp) Tryz.results214 hS (RS.tmp rfl RS.nil) rfl
noncomputable def g174_k2 (ro : List HT) (y0 y2 y3 : AV) (T3 : HT) (n3 : Nat) : R :=
 fldK 1740012 T3 ro y0 1 fun x85_3 =>
 callK (g98 ro y0 (.lit (.int .i64 (.ofNat 4))) y3 x85_3 T3 n3) fun x86_4 T4 n4 =>
 fldK 1740015 T4 ro y0 1 fun x90_5 =>
 lenTK 1740017 y3 fun x92_6 =>
 addK Tryz.prog 3 (.tmp 90) (.tmp 92) 1740018 x90_5 x92_6 fun x93_7 =>
 faK 1740019 y0 1 fun x95_8 =>
 stK 1740020 T4 x95_8 x93_7 fun T5 =>
 .ok (.val (.lit (.nilIface))) T5 n4
noncomputable def g174_k1 (ro : List HT) (y0 y2 y3 : AV) (T2 : HT) (n2 : Nat) : R :=
 ixK 1740023 y3 (.lit (.int .i64 (.ofNat 0))) fun x43_9 =>
 callK (g214 ro (.lit (.string ⟨⟨[41, 93, 125]⟩⟩)) x43_9 T2 n2) fun x44_10 T6 n6 =>
 geK Tryz.prog 3 (.tmp 44) (.const (.int .i64 (.ofNat 0))) 1740025 x44_10 (.lit (.int .i64 (.ofNat 0))) fun x45_11 =>
 condK 1740026 x45_11
 (
  fldK 1740028 T6 ro y0 4 fun x49_12 =>
  lenSK 1740029 x49_12 fun x50_13 =>
  subK Tryz.prog 3 (.tmp 50) (.const (.int .i64 (.ofNat 1))) 1740030 x50_13 (.lit (.int .i64 (.ofNat 1))) fun x51_14 =>
  ltK Tryz.prog 3 (.tmp 52) (.const (.int .i64 (.ofNat 0))) 1740033 x51_14 (.lit (.int .i64 (.ofNat 0))) fun x53_15 =>
  condK 1740035 x53_15
  (
   condK 1740037 (.lit (.bool true))
   (
    .bad 1740038
   )
   (
    .bad 0
   )
  )
  (
   ncK 1740040 y0 fun x56_16 =>
   faK 1740041 x56_16 4 fun x57_17 =>
   ldK 1740042 T6 ro x57_17 fun x58_18 =>
   iaK 1740044 x58_18 x51_14 1 fun x60_19 =>
   ldK 1740045 T6 ro x60_19 fun x61_20 =>
   ixK 1740047 y3 (.lit (.int .i64 (.ofNat 0))) fun x63_21 =>
   neK Tryz.prog 5 (.tmp 61) (.tmp 63) 1740048 x61_20 x63_21 fun x64_22 =>
   condK 1740050 x64_22
   (
    .bad 1740051
   )
   (
    fldK 1740054 T6 ro y0 4 fun x75_23 =>
    cutHiK 1740056 T6 ro x75_23 x51_14 fun x77_24 =>
    faK 1740057 y0 4 fun x79_25 =>
    stK 1740058 T6 x79_25 x77_24 fun T7 =>
    g174_k2 ro y0 y2 y3 T7 n6
   )
  )
 )
 (
  g174_k2 ro y0 y2 y3 T6 n6
 )
noncomputable def g174 (ro : List HT) (a0 : AV) (T : HT) (nx : Nat) : R :=
 callK (g213 ro a0 T nx) fun x7_1 T1 n1 =>
 eqSK Tryz.prog 9 (.tmp 8) (.const (.string ⟨⟨[]⟩⟩)) 1740006 x7_1 (.lit (.string ⟨⟨[]⟩⟩)) fun x9_2 =>
 condK 1740007 x9_2
 (
  .bad 1740008
 )
 (
  ixK 1740060 x7_1 (.lit (.int .i64 (.ofNat 0))) fun x16_26 =>
  callK (g214 ro (.lit (.string ⟨⟨[40, 91, 123]⟩⟩)) x16_26 T1 n1) fun x17_27 T8 n8 =>
  geK Tryz.prog 3 (.tmp 18) (.const (.int .i64 (.ofNat 0))) 1740064 x17_27 (.lit (.int .i64 (.ofNat 0))) fun x19_28 =>
  condK 1740065 x19_28
  (
   fldK 1740067 T8 ro a0 4 fun x23_29 =>
   lenSK 1740068 x23_29 fun x24_30 =>
   geK Tryz.prog 3 (.tmp 24) (.const (.int .i64 (.ofNat 60))) 1740069 x24_30 (.lit (.int .i64 (.ofNat 60))) fun x25_31 =>
   condK 1740070 x25_31
   (
    fldK 1740072 T8 ro a0 1 fun x29_32 =>
    callK (g96 ro x29_32 T8 n8) fun x30_33 T9 n9 =>
    .ok (.val x30_33) T9 n9
   )
   (
    ncK 1740077 a0 fun x33_34 =>
    faK 1740078 x33_34 4 fun x34_35 =>
    ldK 1740079 T8 ro x34_35 fun x35_36 =>
    ixK 1740081 (.lit (.string ⟨⟨[41, 93, 125]⟩⟩)) x17_27 fun x37_37 =>
    bsK 1740082 T8 n8 1 5 1 [(0, x37_37)] fun x38_38 T10 n10 =>
    appK 1740083 T10 ro n10 5 1 1 x35_36 x38_38 fun x39_39 T11 n11 =>
    ncK 1740084 a0 fun x40_40 =>
    faK 1740085 x40_40 4 fun x41_41 =>
    stK 1740086 T11 x41_41 x39_39 fun T12 =>
    g174_k1 ro a0 (.lit (.nilIface)) x7_1 T12 n11
   )
  )
  (
   g174_k1 ro a0 (.lit (.nilIface)) x7_1 T8 n8
  )
 )
theorem g174_ok (ro : List HT) (a0 : AV) (T : HT) (nx : Nat) : GOk Tryz.prog envE 174 [a0] ro T nx (g174 ro a0 T nx) := by
 refine GOk.of_body Tryz.func174 rfl Tryz.ntmps174 (by kernel_rfl) rfl fun r T' n' h1 w0 base ρ0 its hS hP => ?_
 have X : CtxW envE ρ0 ro r T' n' := trivial
 unfold g174 at h1
 refine sr ?_
 refine as_ ?_
 refine dn ?_
 refine sr ?_
 refine mv ?_
 refine LV.call hS h1 (g213_ok _ _ _ _ ) hP rfl rfl rfl rfl fun x7_1 T1 n1 h2 ρ its hS => ?_
 refine as_ ?_
 refine dn ?_
 refine CV.seq ?_
 refine sr ?_
 refine mv ?_
 refine vy (V.eqS h2 rfl rfl) fun x9_2 h3 => ?_
 refine dn ?_
 refine CV.cond h3 rfl (fun e h4 => ?_) (fun e h4 => ?_)
 ·
  clear h1 h2 h3
  subst e
  cases h4
 ·
  clear h1 h2 h3
  subst e
  refine CV.skip ?_
  refine PV.thenN ?_
  refine cs3 X 0 2 3 [] (g174_k1 ro) ?_ ?_
  ·
   refine sr ?_
   refine mv ?_
   refine vy (V.ix h4 rfl rfl Pdf.st9) fun x16_26 h36 => ?_
   refine LV.call hS h36 (g214_ok _ _ _ _ _ ) hP rfl rfl rfl rfl fun x17_27 T8 n8 h37 ρ its hS => ?_
   refine as_ ?_
   refine dn ?_
   refine sr ?_
   refine mv ?_
   refine vy (V.ge h37 rfl rfl) fun x19_28 h38 => ?_
   refine dn ?_
   refine CV.cond h38 rfl (fun e h39 => ?_) (fun e h39 => ?_)
   ·
    clear h4 h36 h37 h38
    subst e
    refine CV.seq ?_
    refine sr ?_
    refine mv ?_
    refine fl hS h39 Pdf.fo168_4 Pdf.one88 fun x23_29 h40 => ?_
    refine vy (V.lenS h40 rfl Pdf.ls88) fun x24_30 h41 => ?_
    refine vy (V.ge h41 rfl rfl) fun x25_31 h42 => ?_
    refine dn ?_
    refine CV.cond h42 rfl (fun e h43 => ?_) (fun e h43 => ?_)
    ·
     clear h39 h40 h41 h42
     subst e
     refine sr ?_
     refine mv ?_
     refine fl hS h43 Pdf.fo168_1 Pdf.one3 fun x29_32 h44 => ?_
     refine LV.call hS h44 (g96_ok _ _ _ _ ) hP rfl rfl rfl rfl fun x30_33 T9 n9 h45 ρ its hS => ?_
     refine as_ ?_
     refine dn ?_
     refine CV.ret ?_
     refine PV.thenR ?_
     refine PV.thenR ?_
     cases h45
     exact PV.ret (by simp) Tryz.results174 hS (RS.tmp rfl RS.nil) rfl
    ·
     clear h39 h40 h41 h42
     subst e
     refine CV.skip ?_
     refine PV.thenN ?_
     refine CV.regionM [(0, .anywhere), (1, .anywhere), (2, .anywhere), (3, .anywhere), (4, .held), (5, .anywhere), (6, .anywhere), (7, .alone), (8, .alone), (9, .alone), (10, .alone), (11, .alone)] rfl (fun c a a' w hd hq => PanicOk.root (P := Tryz.prog) (fn := Tryz.f174) (w0 := w0) (base := base) (E := envE) (ro := ro) (r := r) (T' := T') (n' := n') (ρ0 := ρ0) c a a' w hd hq) (by kernel_rfl) ?_
     refine MV.step0 (i := 0) rfl (VAL.move rfl) rfl rfl rfl ?_
     refine MV.step0 (i := 1) rfl (VAL.move rfl) rfl rfl rfl ?_
     refine MV.lift0 (i := 2) rfl (V.nc h43 rfl) rfl rfl rfl fun x33_34 h46 => ?_
     refine MV.lift0 (i := 3) rfl (V.fa h46 rfl Pdf.fo168_4) rfl rfl rfl fun x34_35 h47 => ?_
     refine MV.lift1 (i := 4) rfl (fun _ z => z) (V.ld hS h47 rfl Pdf.one88) rfl rfl rfl [] (by kernel_rfl) fun x35_36 h48 => ?_
     refine MV.step0 (i := 5) rfl (VAL.move rfl) rfl rfl rfl ?_
     refine MV.lift0 (i := 6) rfl (V.ix h48 rfl rfl Pdf.st9) rfl rfl rfl fun x37_37 h49 => ?_
     refine MV.force (i := 7) rfl ?_
     refine LV.bslice hS h49 rfl rfl Pdf.el88 rfl rfl rfl rfl fun x38_38 T10 n10 h50 ρ its hS hdr => ?_
     refine LV.nextM [4] (by kernel_rfl) (fun _ => hdr) ?_
     refine MV.force (i := 8) rfl ?_
     refine LV.app hS h50 rfl rfl rfl rfl Pdf.el88 rfl rfl rfl fun x39_39 T11 n11 h51 ρ its hS => ?_
     refine LV.nextM [] (by kernel_rfl) (fun z => absurd rfl z) ?_
     refine MV.force (i := 9) rfl ?_
     refine vy (V.nc h51 rfl) fun x40_40 h52 => ?_
     refine LV.nextM [] (by kernel_rfl) (fun z => absurd rfl z) ?_
     refine MV.force (i := 10) rfl ?_
     refine vy (V.fa h52 rfl Pdf.fo168_4) fun x41_41 h53 => ?_
     refine LV.nextM [] (by kernel_rfl) (fun z => absurd rfl z) ?_
     refine MV.force (i := 11) rfl ?_
     refine LV.st hS h53 rfl rfl rfl Pdf.siz88 rfl rfl fun T12 its h54 hS => ?_
     refine LV.nextM [] (by kernel_rfl) (fun z => absurd rfl z) ?_
     refine MV.done ?_
     exact pa3 hS h54 ⟨rfl, rfl, rfl, trivial⟩
   ·
    clear h4 h36 h37 h38
    subst e
    refine CV.skip ?_
    exact pa3 hS h39 ⟨rfl, rfl, rfl, trivial⟩
  ·
   intro y0 y2 y3 T2 n2 ρ its hS h5
   unfold g174_k1 at h5
   clear h4
   refine cs3 X 0 2 3 [] (g174_k2 ro) ?_ ?_
   ·
    refine sr ?_
    refine mv ?_
    refine vy (V.ix h5 rfl rfl Pdf.st9) fun x43_9 h14 => ?_
    refine LV.call hS h14 (g214_ok _ _ _ _ _ ) hP rfl rfl rfl rfl fun x44_10 T6 n6 h15 ρ its hS => ?_
    refine vy (V.ge h15 rfl rfl) fun x45_11 h16 => ?_
    refine dn ?_
    refine CV.cond h16 rfl (fun e h17 => ?_) (fun e h17 => ?_)
    ·
     clear h5 h14 h15 h16
     subst e
     refine sr ?_
     refine mv ?_
     refine fl hS h17 Pdf.fo168_4 Pdf.one88 fun x49_12 h18 => ?_
     refine vy (V.lenS h18 rfl Pdf.ls88) fun x50_13 h19 => ?_
     refine vy (V.sub h19 rfl rfl) fun x51_14 h20 => ?_
     refine as_ ?_
     refine dn ?_
     refine CV.seq ?_
     refine CV.seq ?_
     refine CV.regionM [(0, .anywhere), (1, .anywhere), (2, .anywhere), (3, .anywhere), (4, .anywhere), (5, .anywhere), (6, .held), (7, .anywhere), (8, .held), (9, .held), (10, .anywhere), (11, .anywhere), (12, .held), (13, .held)] rfl (fun c a a' w hd hq => PanicOk.root (P := Tryz.prog) (fn := Tryz.f174) (w0 := w0) (base := base) (E := envE) (ro := ro) (r := r) (T' := T') (n' := n') (ρ0 := ρ0) c a a' w hd hq) (by kernel_rfl) ?_
     refine MV.step0 (i := 0) rfl (VAL.move rfl) rfl rfl rfl ?_
     refine MV.lift0 (i := 1) rfl (V.lt h20 rfl rfl) rfl rfl rfl fun x53_15 h21 => ?_
     refine MV.step0 (i := 2) rfl (VAL.move rfl) rfl rfl rfl ?_
     rcases condK_inv h21 with ⟨e, h22⟩ | ⟨e, h22⟩
     ·
      clear h17 h18 h19 h20 h21
      subst e
      refine MV.skip0 (i := 3) rfl rfl rfl rfl ?_
      refine MV.skip0 (i := 4) rfl rfl rfl rfl ?_
      refine MV.skip0 (i := 5) rfl rfl rfl rfl ?_
      refine MV.skip1 (i := 6) rfl (fun _ z => z) rfl rfl rfl [] (by kernel_rfl) ?_
      refine MV.skip0 (i := 7) rfl rfl rfl rfl ?_
      refine MV.skip1 (i := 8) rfl (fun _ z => z) rfl rfl rfl [] (by kernel_rfl) ?_
      refine MV.skip1 (i := 9) rfl (fun _ z => z) rfl rfl rfl [] (by kernel_rfl) ?_
      refine MV.skip0 (i := 10) rfl rfl rfl rfl ?_
      refine MV.skip0 (i := 11) rfl rfl rfl rfl ?_
      refine MV.skip1 (i := 12) rfl (fun _ z => z) rfl rfl rfl [] (by kernel_rfl) ?_
      refine MV.step1 (i := 13) rfl (fun _ z => z) (VAL.pure rfl) rfl rfl rfl [] (by kernel_rfl) ?_
      refine mdn ?_
      refine CV.cond h22 rfl (fun e h23 => ?_) (fun e h23 => ?_)
      ·
       clear h22
       cases h23
      ·
       clear h22
       cases e
     ·
      clear h17 h18 h19 h20 h21
      subst e
      refine MV.step0 (i := 3) rfl (VAL.move rfl) rfl rfl rfl ?_
      refine MV.lift0 (i := 4) rfl (V.nc h22 rfl) rfl rfl rfl fun x56_16 h24 => ?_
      refine MV.lift0 (i := 5) rfl (V.fa h24 rfl Pdf.fo168_4) rfl rfl rfl fun x57_17 h25 => ?_
      refine MV.lift1 (i := 6) rfl (fun _ z => z) (V.ld hS h25 rfl Pdf.one88) rfl rfl rfl [] (by kernel_rfl) fun x58_18 h26 => ?_
      refine MV.step0 (i := 7) rfl (VAL.move rfl) rfl rfl rfl ?_
      refine MV.lift1 (i := 8) rfl (fun _ z => z) (V.ia h26 rfl rfl Pdf.el88) rfl rfl rfl [] (by kernel_rfl) fun x60_19 h27 => ?_
      refine MV.lift1 (i := 9) rfl (fun _ z => z) (V.ld hS h27 rfl Pdf.one5) rfl rfl rfl [] (by kernel_rfl) fun x61_20 h28 => ?_
      refine MV.step0 (i := 10) rfl (VAL.move rfl) rfl rfl rfl ?_
      refine MV.lift0 (i := 11) rfl (V.ix h28 rfl rfl Pdf.st9) rfl rfl rfl fun x63_21 h29 => ?_
      refine MV.lift1 (i := 12) rfl (fun _ z => z) (V.ne h29 rfl rfl) rfl rfl rfl [] (by kernel_rfl) fun x64_22 h30 => ?_
      refine MV.step1 (i := 13) rfl (fun _ z => z) (VAL.pure rfl) rfl rfl rfl [] (by kernel_rfl) ?_
      refine mdn ?_
      refine CV.cond h30 rfl (fun e h31 => ?_) (fun e h31 => ?_)
      ·
       clear h22 h24 h25 h26 h27 h28 h29 h30
       subst e
       cases h31
      ·
       clear h22 h24 h25 h26 h27 h28 h29 h30
       subst e
       refine CV.skip ?_
       refine PV.thenN ?_
       refine CV.region ?_
       refine mv ?_
       refine mv ?_
       refine fl hS h31 Pdf.fo168_4 Pdf.one88 fun x75_23 h32 => ?_
       refine mv ?_
       refine vy (V.cutHi hS h32 rfl rfl Pdf.el88) fun x77_24 h33 => ?_
       refine fa2 h33 Pdf.fo168_4 fun x79_25 h34 => ?_
       refine LV.st hS h34 rfl rfl rfl Pdf.siz88 rfl rfl fun T7 its h35 hS => ?_
       refine LV.done ?_
       exact pa3 hS h35 ⟨rfl, rfl, rfl, trivial⟩
    ·
     clear h5 h14 h15 h16
     subst e
     refine CV.skip ?_
     exact pa3 hS h17 ⟨rfl, rfl, rfl, trivial⟩
   ·
    intro y0 y2 y3 T3 n3 ρ its hS h6
    unfold g174_k2 at h6
    clear h5
    refine sr ?_
    refine mv ?_
    refine mv ?_
    refine mv ?_
    refine fl hS h6 Pdf.fo168_1 Pdf.one3 fun x85_3 h7 => ?_
    refine LV.call hS h7 (g98_ok _ _ _ _ _ _ _ ) hP rfl rfl rfl rfl fun x86_4 T4 n4 h8 ρ its hS => ?_
    refine dn ?_
    refine sr ?_
    refine mv ?_
    refine fl hS h8 Pdf.fo168_1 Pdf.one3 fun x90_5 h9 => ?_
    refine mv ?_
    refine vy (V.lenT h9 rfl Pdf.ls9) fun x92_6 h10 => ?_
    refine vy (V.add h10 rfl rfl) fun x93_7 h11 => ?_
    refine fa2 h11 Pdf.fo168_1 fun x95_8 h12 => ?_
    refine LV.st hS h12 rfl rfl rfl Pdf.siz3 rfl rfl fun T5 its h13 hS => ?_
    refine dn ?_
    refine sr ?_
    refine as_ ?_
    refine dn ?_
    refine CV.ret ?_
    cases h13
    exact PV.ret (by simp) Tryz.results174 hS (RS.tmp rfl RS.nil) rfl
noncomputable def g95_k2 (ro : List HT) (y0 y2 y73 : AV) (T7 : HT) (n7 : Nat) : R :=
 condK 950050 y73
 (
  .bad 950051
 )
 (
  callK (g174 ro y0 T7 n7) fun x78_19 T8 n8 =>
  .ok (.val x78_19) T8 n8
 )
noncomputable def g95_k1 (ro : List HT) (y0 y2 y3 : AV) (T2 : HT) (n2 : Nat) : R :=
 callK (g104 ro y3 T2 n2) fun x59_14 T3 n3 =>
 condK 950035 x59_14
 (
  callK (g171 ro y0 T3 n3) fun x61_15 T4 n4 =>
  .ok (.val (.lit (.nilIface))) T4 n4
 )
 (
  callK (g105 ro y3 T3 n3) fun x64_16 T5 n5 =>
  condK 950042 x64_16
  (
   callK (g172 ro y0 T5 n5) fun x66_17 T6 n6 =>
   .ok (.val x66_17) T6 n6
  )
  (
   eqK Tryz.prog 5 (.tmp 68) (.const (.int .u8 (.ofNat 34))) 950047 y3 (.lit (.int .u8 (.ofNat 34))) fun x69_18 =>
   condK 950055 x69_18
   (
    g95_k2 ro y0 y2 (.lit (.bool true)) T5 n5
   )
   (
    eqK Tryz.prog 5 (.tmp 71) (.const (.int .u8 (.ofNat 39))) 950058 y3 (.lit (.int .u8 (.ofNat 39))) fun x72_20 =>
    g95_k2 ro y0 y2 x72_20 T5 n5
   )
  )
 )
noncomputable def g95 (ro : List HT) (a0 : AV) (T : HT) (nx : Nat) : R :=
 ncK 950003 a0 fun x6_1 =>
 faK 950004 x6_1 0 fun x7_2 =>
 ldK 950005 T ro x7_2 fun x8_3 =>
 ncK 950007 a0 fun x10_4 =>
 faK 950008 x10_4 1 fun x11_5 =>
 ldK 950009 T ro x11_5 fun x12_6 =>
 ixK 950010 x8_3 x12_6 fun x13_7 =>
 eqK Tryz.prog 5 (.tmp 15) (.const (.int .u8 (.ofNat 10))) 950013 x13_7 (.lit (.int .u8 (.ofNat 10))) fun x16_8 =>
 condK 950015 x16_8
 (
  .bad 950016
 )
 (
  eqK Tryz.prog 5 (.tmp 33) (.const (.int .u8 (.ofNat 32))) 950018 x13_7 (.lit (.int .u8 (.ofNat 32))) fun x34_9 =>
  condK 950020 x34_9
  (
   fldK 950022 T ro a0 1 fun x38_10 =>
   addK Tryz.prog 3 (.tmp 38) (.const (.int .i64 (.ofNat 1))) 950023 x38_10 (.lit (.int .i64 (.ofNat 1))) fun x39_11 =>
   faK 950024 a0 1 fun x41_12 =>
   stK 950025 T x41_12 x39_11 fun T1 =>
   .ok (.val (.lit (.nilIface))) T1 nx
  )
  (
   eqK Tryz.prog 5 (.tmp 43) (.const (.int .u8 (.ofNat 35))) 950028 x13_7 (.lit (.int .u8 (.ofNat 35))) fun x44_13 =>
   condK 950030 x44_13
   (
    .bad 950031
   )
   (
    fldK 950061 T ro a0 5 fun x50_21 =>
    notK 950062 x50_21 fun x51_22 =>
    condK 950063 x51_22
    (
     callK (g170 ro a0 T nx) fun x53_23 T9 n9 =>
     bin0 Tryz.prog .neq 25 (.tmp 54) (.const (.nilIface)) 950068 x53_23 (.lit (.nilIface)) fun x55_24 =>
     condK 950069 x55_24
     (
      .bad 950070
     )
     (
      g95_k1 ro a0 (.lit (.nilIface)) x13_7 T9 n9
     )
    )
    (
     g95_k1 ro a0 (.lit (.nilIface)) x13_7 T nx
    )
   )
  )
 )
theorem g95_ok (ro : List HT) (a0 : AV) (T : HT) (nx : Nat) : GOk Tryz.prog envE 95 [a0] ro T nx (g95 ro a0 T nx) := by
 refine GOk.of_body Tryz.func95 rfl Tryz.ntmps95 (by kernel_rfl) rfl fun r T' n' h1 w0 base ρ0 its hS hP => ?_
 have X : CtxW envE ρ0 ro r T' n' := trivial
 unfold g95 at h1
 refine sr ?_
 refine as_ ?_
 refine dn ?_
 refine CV.seq ?_
 refine CV.regionM [(0, .anywhere), (1, .anywhere), (2, .anywhere), (3, .held), (4, .anywhere), (5, .anywhere), (6, .anywhere), (7, .held), (8, .held), (9, .held)] rfl (fun c a a' w hd hq => PanicOk.root (P := Tryz.prog) (fn := Tryz.f95) (w0 := w0) (base := base) (E := envE) (ro := ro) (r := r) (T' := T') (n' := n') (ρ0 := ρ0) c a a' w hd hq) (by kernel_rfl) ?_
 refine MV.step0 (i := 0) rfl (VAL.move rfl) rfl rfl rfl ?_
 refine MV.lift0 (i := 1) rfl (V.nc h1 rfl) rfl rfl rfl fun x6_1 h2 => ?_
 refine MV.lift0 (i := 2) rfl (V.fa h2 rfl Pdf.fo168_0) rfl rfl rfl fun x7_2 h3 => ?_
 refine MV.lift1 (i := 3) rfl (fun _ z => z) (V.ld hS h3 rfl Pdf.one9) rfl rfl rfl [] (by kernel_rfl) fun x8_3 h4 => ?_
 refine MV.step0 (i := 4) rfl (VAL.move rfl) rfl rfl rfl ?_
 refine MV.lift0 (i := 5) rfl (V.nc h4 rfl) rfl rfl rfl fun x10_4 h5 => ?_
 refine MV.lift0 (i := 6) rfl (V.fa h5 rfl Pdf.fo168_1) rfl rfl rfl fun x11_5 h6 => ?_
 refine MV.lift1 (i := 7) rfl (fun _ z => z) (V.ld hS h6 rfl Pdf.one3) rfl rfl rfl [3] (by kernel_rfl) fun x12_6 h7 => ?_
 refine MV.lift1 (i := 8) rfl (fun _ z => z) (V.ix h7 rfl rfl Pdf.st9) rfl rfl rfl [] (by kernel_rfl) fun x13_7 h8 => ?_
 refine MV.step1 (i := 9) rfl (fun _ z => z) (VAL.assign rfl) rfl rfl rfl [] (by kernel_rfl) ?_
 refine mdn ?_
 refine CV.seq ?_
 refine CV.block ?_
 refine sr ?_
 refine mv ?_
 refine vy (V.eq h8 rfl rfl) fun x16_8 h9 => ?_
 refine as_ ?_
 refine dn ?_
 refine CV.cond h9 rfl (fun e h10 => ?_) (fun e h10 => ?_)
 ·
  clear h1 h2 h3 h4 h5 h6 h7 h8 h9
  subst e
  cases h10
 ·
  clear h1 h2 h3 h4 h5 h6 h7 h8 h9
  subst e
  refine sr ?_
  refine mv ?_
  refine vy (V.eq h10 rfl rfl) fun x34_9 h11 => ?_
  refine as_ ?_
  refine dn ?_
  refine CV.cond h11 rfl (fun e h12 => ?_) (fun e h12 => ?_)
  ·
   clear h10 h11
   subst e
   refine sr ?_
   refine mv ?_
   refine fl hS h12 Pdf.fo168_1 Pdf.one3 fun x38_10 h13 => ?_
   refine vy (V.add h13 rfl rfl) fun x39_11 h14 => ?_
   refine fa2 h14 Pdf.fo168_1 fun x41_12 h15 => ?_
   refine LV.st hS h15 rfl rfl rfl Pdf.siz3 rfl rfl fun T1 its h16 hS => ?_
   refine dn ?_
   refine sr ?_
   refine as_ ?_
   refine dn ?_
   refine CV.ret ?_
   refine PV.blockR ?_
   refine PV.thenR ?_
   cases h16
   exact PV.ret (by simp) Tryz.results95 hS (RS.tmp rfl RS.nil) rfl
  ·
   clear h10 h11
   subst e
   refine sr ?_
   refine mv ?_
   refine vy (V.eq h12 rfl rfl) fun x44_13 h17 => ?_
   refine as_ ?_
   refine dn ?_
   refine CV.cond h17 rfl (fun e h18 => ?_) (fun e h18 => ?_)
   ·
    clear h12 h17
    subst e
    cases h18
   ·
    clear h12 h17
    subst e
    refine CV.skip ?_
    refine PV.blockN ?_
    refine PV.thenN ?_
    refine cs3 X 0 2 3 [] (g95_k1 ro) ?_ ?_
    ·
     refine sr ?_
     refine mv ?_
     refine fl hS h18 Pdf.fo168_5 Pdf.one4 fun x50_21 h32 => ?_
     refine vy (V.not h32 rfl) fun x51_22 h33 => ?_
     refine dn ?_
     refine CV.cond h33 rfl (fun e h34 => ?_) (fun e h34 => ?_)
     ·
      clear h18 h32 h33
      subst e
      refine sr ?_
      refine mv ?_
      refine LV.call hS h34 (g170_ok _ _ _ _ ) hP rfl rfl rfl rfl fun x53_23 T9 n9 h35 ρ its hS => ?_
      refine as_ ?_
      refine dn ?_
      refine sr ?_
      refine mv ?_
      refine vy (V.bin0 h35 rfl rfl) fun x55_24 h36 => ?_
      refine dn ?_
      refine CV.cond h36 rfl (fun e h37 => ?_) (fun e h37 => ?_)
      ·
       clear h34 h35 h36
       subst e
       cases h37
      ·
       clear h34 h35 h36
       subst e
       refine CV.skip ?_
       exact pa3 hS h37 ⟨rfl, rfl, rfl, trivial⟩
     ·
      clear h18 h32 h33
      subst e
      refine CV.skip ?_
      exact pa3 hS h34 ⟨rfl, rfl, rfl, trivial⟩
    ·
     intro y0 y2 y3 T2 n2 ρ its hS h19
     unfold g95_k1 at h19
     clear h18
     refine CV.seq ?_
     refine CV.block ?_
     refine sr ?_
     refine mv ?_
     refine LV.call hS h19 (g104_ok _ _ _ _ ) hP rfl rfl rfl rfl fun x59_14 T3 n3 h20 ρ its hS => ?_
     refine as_ ?_
     refine dn ?_
     refine CV.cond h20 rfl (fun e h21 => ?_) (fun e h21 => ?_)
     ·
      clear h19 h20
      subst e
      refine sr ?_
      refine mv ?_
      refine LV.call hS h21 (g171_ok _ _ _ _ ) hP rfl rfl rfl rfl fun x61_15 T4 n4 h22 ρ its hS => ?_
      refine dn ?_
      refine sr ?_
      refine as_ ?_
      refine dn ?_
      refine CV.ret ?_
      refine PV.blockR ?_
      refine PV.thenR ?_
      cases h22
      exact PV.ret (by simp) Tryz.results95 hS (RS.tmp rfl RS.nil) rfl
     ·
      clear h19 h20
      subst e
      refine sr ?_
      refine mv ?_
      refine LV.call hS h21 (g105_ok _ _ _ _ ) hP rfl rfl rfl rfl fun x64_16 T5 n5 h23 ρ its hS => ?_
      refine as_ ?_
      refine dn ?_
      refine CV.cond h23 rfl (fun e h24 => ?_) (fun e h24 => ?_)
      ·
       clear h21 h23
       subst e
       refine sr ?_
       refine mv ?_
       refine LV.call hS h24 (g172_ok _ _ _ _ ) hP rfl rfl rfl rfl fun x66_17 T6 n6 h25 ρ its hS => ?_
       refine as_ ?_
       refine dn ?_
       refine CV.ret ?_
       refine PV.blockR ?_
       refine PV.thenR ?_
       cases h25
       exact PV.ret (by simp) Tryz.results95 hS (RS.tmp rfl RS.nil) rfl
      ·
       clear h21 h23
       subst e
       refine sr ?_
       refine mv ?_
       refine vy (V.eq h24 rfl rfl) fun x69_18 h26 => ?_
       refine mv ?_
       refine ls3 X 0 2 73 [] (g95_k2 ro) 3 ?_ ?_
       ·
        rcases condK_inv h26 with ⟨e, h30⟩ | ⟨e, h30⟩
        ·
         clear h24 h26
         subst e
         refine sk ?_
         refine sk ?_
         refine pu ?_
         exact la3 hS h30 ⟨rfl, rfl, rfl, trivial⟩
        ·
         clear h24 h26
         subst e
         refine mv ?_
         refine vy (V.eq h30 rfl rfl) fun x72_20 h31 => ?_
         refine pu ?_
         exact la3 hS h31 ⟨rfl, rfl, rfl, trivial⟩
       ·
        intro y0 y2 y73 T7 n7 ρ its hS h27
        unfold g95_k2 at h27
        clear h24 h26
        refine as_ ?_
        refine dn ?_
        refine CV.cond h27 rfl (fun e h28 => ?_) (fun e h28 => ?_)
        ·
         clear h27
         subst e
         cases h28
        ·
         clear h27
         subst e
         refine CV.skip ?_
         refine PV.blockN ?_
         refine PV.thenN ?_
         refine sr ?_
         refine mv ?_
         refine LV.call hS h28 (g174_ok _ _ _ _ ) hP rfl rfl rfl rfl fun x78_19 T8 n8 h29 ρ its hS => ?_
         refine as_ ?_
         refine dn ?_
         refine CV.ret ?_
         cases h29
         exact PV.ret (by simp) Tryz.results95 hS (RS.tmp rfl RS.nil) rfl
noncomputable def g97_k1 (ro : List HT) (y0 : AV) (T1 : HT) (n1 : Nat) : R :=
 faK 970002 y0 5 fun x14_1 =>
 stK 970003 T1 x14_1 (.lit (.bool false)) fun T2 =>
 .ok (.val (.tup [])) T2 n1
noncomputable def g97 (ro : List HT) (a0 : AV) (T : HT) (nx : Nat) : R :=
 fldK 970005 T ro a0 5 fun x5_2 =>
 condK 970006 x5_2
 (
  fldK 970009 T ro a0 1 fun x10_3 =>
  callK (g98 ro a0 (.lit (.int .i64 (.ofNat 5))) (.lit (.string ⟨⟨[]⟩⟩)) x10_3 T nx) fun x11_4 T3 n3 =>
  g97_k1 ro a0 T3 n3
 )
 (
  g97_k1 ro a0 T nx
 )
theorem g97_ok (ro : List HT) (a0 : AV) (T : HT) (nx : Nat) : GOk Tryz.prog envE 97 [a0] ro T nx (g97 ro a0 T nx) := by
 refine GOk.of_body Tryz.func97 rfl Tryz.ntmps97 (by kernel_rfl) rfl fun r T' n' h1 w0 base ρ0 its hS hP => ?_
 have X : CtxW envE ρ0 ro r T' n' := trivial
 unfold g97 at h1
 refine cs1 X 0 [] (g97_k1 ro) ?_ ?_
 ·
  refine sr ?_
  refine mv ?_
  refine fl hS h1 Pdf.fo168_5 Pdf.one4 fun x5_2 h5 => ?_
  refine dn ?_
  refine CV.cond h5 rfl (fun e h6 => ?_) (fun e h6 => ?_)
  ·
   clear h1 h5
   subst e
   refine CV.region ?_
   refine mv ?_
   refine mv ?_
   refine fl hS h6 Pdf.fo168_1 Pdf.one3 fun x10_3 h7 => ?_
   refine LV.call hS h7 (g98_ok _ _ _ _ _ _ _ ) hP rfl rfl rfl rfl fun x11_4 T3 n3 h8 ρ its hS => ?_
   refine LV.done ?_
   exact pa1 hS h8 ⟨rfl, trivial⟩
  ·
   clear h1 h5
   subst e
   refine CV.skip ?_
   exact pa1 hS h6 ⟨rfl, trivial⟩
 ·
  intro y0 T1 n1 ρ its hS h2
  unfold g97_k1 at h2
  clear h1
  refine CV.region ?_
  refine mv ?_
  refine fa2 h2 Pdf.fo168_5 fun x14_1 h3 => ?_
  refine LV.st hS h3 rfl rfl rfl Pdf.siz4 rfl rfl fun T2 its h4 hS => ?_
  refine LV.done ?_
  cases h4
  exact PV.ret (by simp) Tryz.results97 hS RS.nil rfl
noncomputable def g62_b2 (ro : List HT) (lp2 : AV → AV → AV → AV → AV → HT → Nat → R) (y2 y3 y4 y48 y49 : AV) (T6 : HT) (n6 : Nat) : R :=
 ltK Tryz.prog 3 (.tmp 49) (.tmp 48) 620047 y49 y48 fun x50_22 =>
 condK 620048 x50_22
 (
  fldK 620051 T6 ro y4 0 fun x55_23 =>
  lenTK 620052 x55_23 fun x56_24 =>
  callK (g98 ro y4 (.lit (.int .i64 (.ofNat 7))) (.lit (.string ⟨⟨[]⟩⟩)) x56_24 T6 n6) fun x57_25 T7 n7 =>
  addK Tryz.prog 3 (.tmp 49) (.const (.int .i64 (.ofNat 1))) 620054 y49 (.lit (.int .i64 (.ofNat 1))) fun x58_26 =>
  lp2 y2 y3 y4 y48 x58_26 T7 n7
 )
 (
  fldK 620058 T6 ro y4 0 fun x63_27 =>
  lenTK 620059 x63_27 fun x64_28 =>
  callK (g98 ro y4 (.lit (.int .i64 (.ofNat 8))) (.lit (.string ⟨⟨[]⟩⟩)) x64_28 T6 n6) fun x65_29 T8 n8 =>
  fldK 620062 T8 ro y4 2 fun x69_30 =>
  .ok (.val (.tup [x69_30, (.lit (.nilIface))])) T8 n8
 )
noncomputable def g62_b1 (ro : List HT) (lp1 : AV → AV → AV → HT → Nat → R) (y2 y3 y4 : AV) (T3 : HT) (n3 : Nat) : R :=
 ncK 620015 y4 fun x15_6 =>
 faK 620016 x15_6 1 fun x16_7 =>
 ldK 620017 T3 ro x16_7 fun x17_8 =>
 ncK 620019 y4 fun x19_9 =>
 faK 620020 x19_9 0 fun x20_10 =>
 ldK 620021 T3 ro x20_10 fun x21_11 =>
 lenTK 620022 x21_11 fun x22_12 =>
 ltK Tryz.prog 3 (.tmp 17) (.tmp 22) 620023 x17_8 x22_12 fun x23_13 =>
 condK 620024 x23_13
 (
  callK (g95 ro y4 T3 n3) fun x25_14 T4 n4 =>
  bin0 Tryz.prog .neq 25 (.tmp 26) (.const (.nilIface)) 620029 x25_14 (.lit (.nilIface)) fun x27_15 =>
  condK 620030 x27_15
  (
   .ok (.val (.tup [(.lit (.slice none 0 0)), x25_14])) T4 n4
  )
  (
   lp1 y2 y3 y4 T4 n4
  )
 )
 (
  fldK 620035 T3 ro y4 4 fun x32_16 =>
  lenSK 620036 x32_16 fun x33_17 =>
  gtK Tryz.prog 3 (.tmp 33) (.const (.int .i64 (.ofNat 0))) 620037 x33_17 (.lit (.int .i64 (.ofNat 0))) fun x34_18 =>
  condK 620038 x34_18
  (
   .bad 620039
  )
  (
   callK (g97 ro y4 T3 n3) fun x42_19 T5 n5 =>
   fldK 620043 T5 ro y4 3 fun x46_20 =>
   cutLenK 620044 T5 ro x46_20 (.lit (.int .i64 (.ofNat 1))) fun x48_21 =>
   lpf5 620046 (g62_b2 ro) 100000 y2 y3 y4 x48_21 (.lit (.int .i64 (.ofNat 0))) T5 n5
  )
 )
noncomputable def g62 (ro : List HT) (a0 : AV) (T : HT) (nx : Nat) : R :=
 lenTK 620004 a0 fun x7_1 =>
 gtK Tryz.prog 3 (.tmp 7) (.const (.int .i64 (.ofNat 65536))) 620005 x7_1 (.lit (.int .i64 (.ofNat 65536))) fun x8_2 =>
 condK 620006 x8_2
 (
  .bad 620007
 )
 (
  bsK 620009 T nx 1 3 1 [(0, (.lit (.int .i64 (.ofNat 0))))] fun x11_3 T1 n1 =>
  optK 620010 (bld168 [(0, a0), (3, x11_3)]) fun x12_4 =>
  boxK 620011 T1 n1 x12_4 168 fun x13_5 T2 n2 =>
  lpf3 620013 (g62_b1 ro) 100000 (.lit (.slice none 0 0)) (.lit (.nilIface)) x13_5 T2 n2
 )
theorem g62_ok (ro : List HT) (a0 : AV) (T : HT) (nx : Nat) : GOk Tryz.prog envE 62 [a0] ro T nx (g62 ro a0 T nx) := by
 refine GOk.of_body Tryz.func62 rfl Tryz.ntmps62 (by kernel_rfl) rfl fun r T' n' h1 w0 base ρ0 its hS hP => ?_
 have X : CtxW envE ρ0 ro r T' n' := trivial
 unfold g62 at h1
 refine sr ?_
 refine as_ ?_
 refine as_ ?_
 refine dn ?_
 refine CV.seq ?_
 refine sr ?_
 refine mv ?_
 refine vy (V.lenT h1 rfl Pdf.ls9) fun x7_1 h2 => ?_
 refine vy (V.gt h2 rfl rfl) fun x8_2 h3 => ?_
 refine dn ?_
 refine CV.cond h3 rfl (fun e h4 => ?_) (fun e h4 => ?_)
 ·
  clear h1 h2 h3
  subst e
  cases h4
 ·
  clear h1 h2 h3
  subst e
  refine CV.skip ?_
  refine PV.thenN ?_
  refine sr ?_
  refine mv ?_
  refine LV.bslice hS h4 rfl rfl Pdf.el30 rfl rfl rfl rfl fun x11_3 T1 n1 h5 ρ its hS hdr => ?_
  refine vy (V.bld h5 rfl) fun x12_4 h6 => ?_
  refine LV.box hS h6 rfl rfl rfl rfl rfl fun x13_5 T2 n2 h7 ρ its hS hdr => ?_
  refine as_ ?_
  refine dn ?_
  refine CV.seq ?_
  refine CV.block ?_
  refine cl3 X 2 3 4 [] hS h7 ⟨rfl, rfl, rfl, trivial⟩ ?_
  intro f1 y2 y3 y4 T3 n3 ρ its hS h8
  unfold g62_b1 at h8
  clear h4 h5 h6 h7
  refine CV.seq ?_
  refine CV.seq ?_
  refine CV.regionM [(0, .anywhere), (1, .anywhere), (2, .anywhere), (3, .held), (4, .anywhere), (5, .anywhere), (6, .anywhere), (7, .held), (8, .held), (9, .held)] rfl (fun c a a' w hd hq => PanicOk.root (P := Tryz.prog) (fn := Tryz.f62) (w0 := w0) (base := base) (E := envE) (ro := ro) (r := r) (T' := T') (n' := n') (ρ0 := ρ0) c a a' w hd hq) (by kernel_rfl) ?_
  refine MV.step0 (i := 0) rfl (VAL.move rfl) rfl rfl rfl ?_
  refine MV.lift0 (i := 1) rfl (V.nc h8 rfl) rfl rfl rfl fun x15_6 h9 => ?_
  refine MV.lift0 (i := 2) rfl (V.fa h9 rfl Pdf.fo168_1) rfl rfl rfl fun x16_7 h10 => ?_
  refine MV.lift1 (i := 3) rfl (fun _ z => z) (V.ld hS h10 rfl Pdf.one3) rfl rfl rfl [] (by kernel_rfl) fun x17_8 h11 => ?_
  refine MV.step0 (i := 4) rfl (VAL.move rfl) rfl rfl rfl ?_
  refine MV.lift0 (i := 5) rfl (V.nc h11 rfl) rfl rfl rfl fun x19_9 h12 => ?_
  refine MV.lift0 (i := 6) rfl (V.fa h12 rfl Pdf.fo168_0) rfl rfl rfl fun x20_10 h13 => ?_
  refine MV.lift1 (i := 7) rfl (fun _ z => z) (V.ld hS h13 rfl Pdf.one9) rfl rfl rfl [3] (by kernel_rfl) fun x21_11 h14 => ?_
  refine MV.lift1 (i := 8) rfl (fun _ z => z) (V.lenT h14 rfl Pdf.ls9) rfl rfl rfl [3] (by kernel_rfl) fun x22_12 h15 => ?_
  refine MV.lift1 (i := 9) rfl (fun _ z => z) (V.lt h15 rfl rfl) rfl rfl rfl [] (by kernel_rfl) fun x23_13 h16 => ?_
  refine mdn ?_
  refine CV.cond h16 rfl (fun e h17 => ?_) (fun e h17 => ?_)
  ·
   clear h8 h9 h10 h11 h12 h13 h14 h15 h16
   subst e
   refine CV.skip ?_
   refine PV.thenN ?_
   refine CV.block ?_
   refine sr ?_
   refine mv ?_
   refine LV.call hS h17 (g95_ok _ _ _ _ ) hP rfl rfl rfl rfl fun x25_14 T4 n4 h18 ρ its hS => ?_
   refine as_ ?_
   refine dn ?_
   refine sr ?_
   refine mv ?_
   refine vy (V.bin0 h18 rfl rfl) fun x27_15 h19 => ?_
   refine dn ?_
   refine CV.cond h19 rfl (fun e h20 => ?_) (fun e h20 => ?_)
   ·
    clear h17 h18 h19
    subst e
    refine sr ?_
    refine mv ?_
    refine as_ ?_
    refine as_ ?_
    refine dn ?_
    refine CV.ret ?_
    refine PV.blockR ?_
    refine PV.thenR ?_
    refine PV.blockR ?_
    refine PV.thenR ?_
    cases h20
    exact PV.ret (by simp) Tryz.results62 hS (RS.tmp rfl (RS.tmp rfl RS.nil)) rfl
   ·
    clear h17 h18 h19
    subst e
    refine CV.skip ?_
    refine PV.blockN ?_
    exact pb3 hS h20 ⟨rfl, rfl, rfl, trivial⟩
  ·
   clear h8 h9 h10 h11 h12 h13 h14 h15 h16
   subst e
   refine CV.exit ?_
   refine PV.thenE ?_
   refine PV.thenE ?_
   refine PV.blockE ?_
   refine PV.thenN ?_
   refine CV.seq ?_
   refine sr ?_
   refine mv ?_
   refine fl hS h17 Pdf.fo168_4 Pdf.one88 fun x32_16 h21 => ?_
   refine vy (V.lenS h21 rfl Pdf.ls88) fun x33_17 h22 => ?_
   refine vy (V.gt h22 rfl rfl) fun x34_18 h23 => ?_
   refine dn ?_
   refine CV.cond h23 rfl (fun e h24 => ?_) (fun e h24 => ?_)
   ·
    clear h17 h21 h22 h23
    subst e
    cases h24
   ·
    clear h17 h21 h22 h23
    subst e
    refine CV.skip ?_
    refine PV.thenN ?_
    refine sr ?_
    refine mv ?_
    refine LV.call hS h24 (g97_ok _ _ _ _ ) hP rfl rfl rfl rfl fun x42_19 T5 n5 h25 ρ its hS => ?_
    refine dn ?_
    refine CV.seq ?_
    refine sr ?_
    refine mv ?_
    refine fl hS h25 Pdf.fo168_3 Pdf.one30 fun x46_20 h26 => ?_
    refine LV.cutLen hS h26 rfl rfl rfl Pdf.el30 rfl rfl rfl rfl rfl Pdf.ls30 rfl rfl rfl fun x48_21 h27 => ?_
    refine mv ?_
    refine dn ?_
    refine CV.block ?_
    refine cl5 X 2 3 4 48 49 [] hS h27 ⟨rfl, rfl, rfl, rfl, rfl, trivial⟩ ?_
    intro f2 y2 y3 y4 y48 y49 T6 n6 ρ its hS h28
    unfold g62_b2 at h28
    clear h24 h25 h26 h27
    refine sr ?_
    refine vy (V.lt h28 rfl rfl) fun x50_22 h29 => ?_
    refine dn ?_
    refine CV.seq ?_
    refine CV.cond h29 rfl (fun e h30 => ?_) (fun e h30 => ?_)
    ·
     clear h28 h29
     subst e
     refine CV.skip ?_
     refine PV.thenN ?_
     refine CV.seq ?_
     refine CV.block ?_
     refine CV.region ?_
     refine mv ?_
     refine mv ?_
     refine fl hS h30 Pdf.fo168_0 Pdf.one9 fun x55_23 h31 => ?_
     refine vy (V.lenT h31 rfl Pdf.ls9) fun x56_24 h32 => ?_
     refine LV.call hS h32 (g98_ok _ _ _ _ _ _ _ ) hP rfl rfl rfl rfl fun x57_25 T7 n7 h33 ρ its hS => ?_
     refine LV.done ?_
     refine PV.blockN ?_
     refine PV.thenN ?_
     refine CV.region ?_
     refine vy (V.add h33 rfl rfl) fun x58_26 h34 => ?_
     refine mv ?_
     refine LV.done ?_
     exact pb5 hS h34 ⟨rfl, rfl, rfl, rfl, rfl, trivial⟩
    ·
     clear h28 h29
     subst e
     refine CV.exit ?_
     refine PV.thenE ?_
     refine PV.thenE ?_
     refine PV.blockE ?_
     refine PV.thenN ?_
     refine sr ?_
     refine mv ?_
     refine mv ?_
     refine fl hS h30 Pdf.fo168_0 Pdf.one9 fun x63_27 h35 => ?_
     refine vy (V.lenT h35 rfl Pdf.ls9) fun x64_28 h36 => ?_
     refine LV.call hS h36 (g98_ok _ _ _ _ _ _ _ ) hP rfl rfl rfl rfl fun x65_29 T8 n8 h37 ρ its hS => ?_
     refine dn ?_
     refine sr ?_
     refine mv ?_
     refine fl hS h37 Pdf.fo168_2 Pdf.one96 fun x69_30 h38 => ?_
     refine as_ ?_
     refine as_ ?_
     refine dn ?_
     refine CV.ret ?_
     cases h38
     exact PV.ret (by simp) Tryz.results62 hS (RS.tmp rfl (RS.tmp rfl RS.nil)) rfl
noncomputable def g63_k1 (ro : List HT) (y0 y1 y3 y4 y16 : AV) (T3 : HT) (n3 : Nat) : R :=
 condK 630012 y16
 (
  .bad 630013
 )
 (
  condK 630015 y4
  (
   faK 630016 y3 0 fun x19_6 =>
   ldQK 630017 T3 ro [y3] x19_6 fun x20_7 =>
   stK 630019 T3 y0 (.lit (.slice none 0 0)) fun T4 =>
   keepK 630020 T3 T4 [y3] <|
   stK 630021 T4 y1 (.iface 72 x20_7) fun T5 =>
   .ok (.val (.lit undef)) T5 n3
  )
  (
   .ok (.val (.lit undef)) T3 n3
  )
 )
noncomputable def gd63 (ro : List HT) (pv : AV) (a0 a1 : AV) (T : HT) (nx : Nat) : R :=
 asK 630002 pv 123 (.tup [.lit (.agg #[.pointer none]), .lit (.bool false)]) fun x8_1 =>
 exK 630004 x8_1 0 fun x9_2 =>
 exK 630005 x8_1 1 fun x10_3 =>
 newK T nx (.obj [.lit (.pointer none)] 123) fun x3_4 T1 n1 =>
 stAK 630007 T1 x3_4 x9_2 1 fun T2 =>
 bin0 Tryz.prog .neq 20 (.tmp 11) (.const (.nilIface)) 630010 pv (.lit (.nilIface)) fun x12_5 =>
 condK 630022 x12_5
 (
  notK 630024 x10_3 fun x15_8 =>
  g63_k1 ro a0 a1 x3_4 x10_3 x15_8 T2 n1
 )
 (
  g63_k1 ro a0 a1 x3_4 x10_3 (.lit (.bool false)) T2 n1
 )
theorem gd63_ok (ro : List HT) (pv : AV) (a0 a1 : AV) (T : HT) (nx : Nat) : GDk Tryz.prog envE 63 [a0, a1] ro T nx pv (gd63 ro pv a0 a1 T nx) := by
 refine GDk.of_body Tryz.func63 rfl Tryz.ntmps63 Tryz.results63 rfl rfl rfl rfl fun r T' n' h1 w0 base ρ0 its hS hP => ?_
 have X : CtxW envE ρ0 ro (.val r) T' n' := trivial
 unfold gd63 at h1
 refine sr ?_
 refine mv ?_
 refine vy (V.as h1 rfl Pdf.ni123 Pdf.za123) fun x8_1 h2 => ?_
 refine mv ?_
 refine vy (V.ex h2 rfl) fun x9_2 h3 => ?_
 refine vy (V.ex h3 rfl) fun x10_3 h4 => ?_
 refine LV.alloc hS h4 rfl Pdf.zr123 rfl rfl rfl fun x3_4 T1 n1 h5 ρ its hS hdr => ?_
 refine LV.stA hS h5 rfl rfl rfl Pdf.agg123 rfl rfl rfl fun T2 its h6 hS => ?_
 refine as_ ?_
 refine dn ?_
 refine CV.seq ?_
 refine sr ?_
 refine mv ?_
 refine vy (V.bin0 h6 rfl rfl) fun x12_5 h7 => ?_
 refine mv ?_
 refine ls5 X 0 1 3 4 16 [] (g63_k1 ro) 3 ?_ ?_
 ·
  rcases condK_inv h7 with ⟨e, h16⟩ | ⟨e, h16⟩
  ·
   clear h1 h2 h3 h4 h5 h6 h7
   subst e
   refine mv ?_
   refine vy (V.not h16 rfl) fun x15_8 h17 => ?_
   refine pu ?_
   exact la5 hS h17 ⟨rfl, rfl, rfl, rfl, rfl, trivial⟩
  ·
   clear h1 h2 h3 h4 h5 h6 h7
   subst e
   refine sk ?_
   refine sk ?_
   refine pu ?_
   exact la5 hS h16 ⟨rfl, rfl, rfl, rfl, rfl, trivial⟩
 ·
  intro y0 y1 y3 y4 y16 T3 n3 ρ its hS h8
  unfold g63_k1 at h8
  clear h1 h2 h3 h4 h5 h6 h7
  refine dn ?_
  refine CV.cond h8 rfl (fun e h9 => ?_) (fun e h9 => ?_)
  ·
   clear h8
   subst e
   cases h9
  ·
   clear h8
   subst e
   refine CV.skip ?_
   refine PV.thenN ?_
   refine sr ?_
   refine mv ?_
   refine dn ?_
   refine CV.cond h9 rfl (fun e h10 => ?_) (fun e h10 => ?_)
   ·
    clear h9
    subst e
    refine CV.nopan ?_
    refine CV.regionMS hS [y3] [(0, .anywhere), (1, .held), (2, .held), (3, .alone), (4, .alone)] rfl NoPan.ok (by kernel_rfl) ?_
    have hK := KeepS.start [y3] hS
    have hR := hS
    have hP0 := hP
    replace hP := PK.up hR hP
    replace hS := hR.root
    refine MV.lift0 (i := 0) rfl (V.fa h10 rfl Pdf.fo123_0) rfl rfl rfl fun x19_6 h11 => ?_
    refine MV.lift1 (i := 1) rfl hK (V.ldQ hS h11 rfl Pdf.one72) rfl rfl rfl [] (by kernel_rfl) fun x20_7 h12 => ?_
    refine MV.step1 (i := 2) rfl hK (VAL.mkI rfl Pdf.ni72) rfl rfl rfl [] (by kernel_rfl) ?_
    refine MV.force (i := 3) rfl ?_
    refine LV.st hS h12 rfl rfl rfl Pdf.siz23 rfl rfl fun T4 its h13 hS => ?_
    obtain ⟨hK, h14⟩ := KeepS.step hR hS h13
    refine LV.nextM [2] (by kernel_rfl) (fun _ => hK) ?_
    refine MV.force (i := 4) rfl ?_
    refine LV.st hS h14 rfl rfl rfl Pdf.siz25 rfl rfl fun T5 its h15 hS => ?_
    refine LV.nextM [] (by kernel_rfl) (fun z => absurd rfl z) ?_
    replace hS := hR.up hS
    replace hP := hP0
    refine MV.doneN ?_
    cases h15
    exact PV.dend hS
   ·
    clear h9
    subst e
    refine CV.skip ?_
    cases h10
    exact PV.dend hS
noncomputable def g33 (ro : List HT) (a0 a1 : AV) (T : HT) (nx : Nat) : R :=
 newK T nx (.obj [.lit (.slice none 0 0)] 23) fun x4_1 T1 n1 =>
 newK T1 n1 (.obj [.lit (.nilIface)] 25) fun x5_2 T2 n2 =>
 callK (g62 ro a0 T2 n2) fun x10_3 T3 n3 =>
 exK 330006 x10_3 0 fun x11_4 =>
 exK 330007 x10_3 1 fun x12_5 =>
 stK 330009 T3 x5_2 x12_5 fun T4 =>
 ldK 330010 T4 ro x5_2 fun x13_6 =>
 bin0 Tryz.prog .neq 25 (.tmp 13) (.const (.nilIface)) 330011 x13_6 (.lit (.nilIface)) fun x14_7 =>
 condK 330012 x14_7
 (
  ldQK 330013 T4 ro [x5_2] x5_2 fun x15_8 =>
  stK 330014 T4 x4_1 (.lit (.slice none 0 0)) fun T5 =>
  keepK 330015 T4 T5 [x5_2] <|
  stK 330016 T5 x5_2 x15_8 fun T6 =>
  ldK 330017 T6 ro x4_1 fun x4_9 =>
  ldK 330018 T6 ro x5_2 fun x5_10 =>
  .ok (.val (.tup [x4_9, x5_10])) T6 n3
 )
 (
  optK 330020 (bld98 [(0, x11_4)]) fun x17_11 =>
  boxK 330021 T4 n3 x17_11 98 fun x18_12 T7 n7 =>
  dynK 330027 a1 fun f p q => callPK 330027 (scc2 4000 f ro (p ++ ([x18_12] ++ q)) T7 n7) (fun pv t m => leaveK 330027 (gd63 ro pv x4_1 x5_2 t m) fun T8 n8 =>
   ldK 330028 T8 ro x4_1 fun x4_13 =>
   ldK 330029 T8 ro x5_2 fun x5_14 =>
   .ok (.val (.tup [x4_13, x5_14])) T8 n8
  ) fun x22_15 T9 n9 =>
  fldK 330031 T9 ro x18_12 2 fun x26_16 =>
  stK 330032 T9 x4_1 x26_16 fun T10 =>
  stK 330033 T10 x5_2 (.lit (.nilIface)) fun T11 =>
  leaveK 330034 (gd63 ro (.lit .nilIface) x4_1 x5_2 T11 n9) fun T12 n12 =>
  ldK 330035 T12 ro x4_1 fun x4_17 =>
  ldK 330036 T12 ro x5_2 fun x5_18 =>
  .ok (.val (.tup [x4_17, x5_18])) T12 n12
 )
theorem g33_ok (ro : List HT) (a0 a1 : AV) (T : HT) (nx : Nat) : GOk Tryz.prog envE 33 [a0, a1] ro T nx (g33 ro a0 a1 T nx) := by
 refine GOk.of_bodyD Tryz.func33 rfl Tryz.ntmps33 (by kernel_rfl) rfl fun r T' n' h1 w0 base ρ0 its hS hP => ?_
 have X : CtxW envE ρ0 ro r T' n' := trivial
 unfold g33 at h1
 refine sr ?_
 refine LV.alloc hS h1 rfl Pdf.zr23 rfl rfl rfl fun x4_1 T1 n1 h2 ρ its hS hdr => ?_
 refine LV.alloc hS h2 rfl Pdf.zr25 rfl rfl rfl fun x5_2 T2 n2 h3 ρ its hS hdr => ?_
 refine dn ?_
 refine sr ?_
 refine mv ?_
 refine LV.call hS h3 (g62_ok _ _ _ _ ) hP rfl rfl rfl rfl fun x10_3 T3 n3 h4 ρ its hS => ?_
 refine mv ?_
 refine vy (V.ex h4 rfl) fun x11_4 h5 => ?_
 refine vy (V.ex h5 rfl) fun x12_5 h6 => ?_
 refine as_ ?_
 refine LV.st hS h6 rfl rfl rfl Pdf.siz25 rfl rfl fun T4 its h7 hS => ?_
 refine dn ?_
 refine CV.seq ?_
 refine sr ?_
 refine vy (V.ld hS h7 rfl Pdf.one25) fun x13_6 h8 => ?_
 refine vy (V.bin0 h8 rfl rfl) fun x14_7 h9 => ?_
 refine dn ?_
 refine CV.cond h9 rfl (fun e h10 => ?_) (fun e h10 => ?_)
 ·
  clear h1 h2 h3 h4 h5 h6 h7 h8 h9
  subst e
  refine CV.seq ?_
  refine CV.nopan ?_
  refine CV.regionMS hS [x5_2] [(0, .held), (1, .alone), (2, .alone)] rfl NoPan.ok (by kernel_rfl) ?_
  have hK := KeepS.start [x5_2] hS
  have hR := hS
  have hP0 := hP
  replace hP := PK.up hR hP
  replace hS := hR.root
  refine MV.lift1 (i := 0) rfl hK (V.ldQ hS h10 rfl Pdf.one25) rfl rfl rfl [] (by kernel_rfl) fun x15_8 h11 => ?_
  refine MV.force (i := 1) rfl ?_
  refine LV.st hS h11 rfl rfl rfl Pdf.siz23 rfl rfl fun T5 its h12 hS => ?_
  obtain ⟨hK, h13⟩ := KeepS.step hR hS h12
  refine LV.nextM [0] (by kernel_rfl) (fun _ => hK) ?_
  refine MV.force (i := 2) rfl ?_
  refine LV.st hS h13 rfl rfl rfl Pdf.siz25 rfl rfl fun T6 its h14 hS => ?_
  refine LV.nextM [] (by kernel_rfl) (fun z => absurd rfl z) ?_
  replace hS := hR.up hS
  replace hP := hP0
  refine mdnN ?_
  refine CV.ret ?_
  refine PV.thenR ?_
  refine PV.retD (by simp) ?_
  refine PV.ld (x := .tmp 4) (t := 23) hS h14 rfl Pdf.one23 fun x4_9 h15 hVx4_9 => ?_
  refine PV.ld (x := .tmp 5) (t := 25) hS h15 rfl Pdf.one25 fun x5_10 h16 hVx5_10 => ?_
  cases h16
  exact PV.ret (by simp) Tryz.results33 hS (RS.cell hVx4_9 (RS.cell hVx5_10 RS.nil)) rfl
 ·
  clear h1 h2 h3 h4 h5 h6 h7 h8 h9
  subst e
  refine CV.skip ?_
  refine PV.thenN ?_
  refine sr ?_
  refine mv ?_
  refine vy (V.bld h10 rfl) fun x17_11 h17 => ?_
  refine LV.box hS h17 rfl rfl rfl rfl rfl fun x18_12 T7 n7 h18 ρ its hS hdr => ?_
  refine as_ ?_
  refine dn ?_
  refine sr ?_
  refine pu ?_
  refine LV.defer rfl rfl rfl rfl rfl rfl fun us hys => ?_
  refine dn ?_
  refine sr ?_
  refine mv ?_
  refine mv ?_
  refine LV.callDP (fn := Tryz.f33) (kf := 63) (Xp := fun pv t m => gd63 ro pv x4_1 x5_2 t m) (G := fun f gs => scc2 4000 f ro gs T7 n7) (qs := [x18_12]) hS h18 (fun f gs => scc2_ok _ _ _ _ _ _) (fun pv t m => gd63_ok _ _ _ _ _ _ ) Pdf.en63 hys (fun ch a w z => z) rfl rfl rfl rfl rfl rfl rfl (fun T8 n8 h19 ρ its hS => ?_) (fun x22_15 T9 n9 h22 ρ its hE hS => ?_)
  ·
   refine PV.ld (x := .tmp 4) (t := 23) hS h19 rfl Pdf.one23 fun x4_13 h20 hVx4_13 => ?_
   refine PV.ld (x := .tmp 5) (t := 25) hS h20 rfl Pdf.one25 fun x5_14 h21 hVx5_14 => ?_
   cases h21
   exact PV.ret (by simp) Tryz.results33 hS (RS.cell hVx4_13 (RS.cell hVx5_14 RS.nil)) rfl
  have hys := instL_ext hE _ _ hys
  refine dn ?_
  refine sr ?_
  refine mv ?_
  refine fl hS h22 Pdf.fo98_2 Pdf.one23 fun x26_16 h23 => ?_
  refine LV.st hS h23 rfl rfl rfl Pdf.siz23 rfl rfl fun T10 its h24 hS => ?_
  refine LV.st hS h24 rfl rfl rfl Pdf.siz25 rfl rfl fun T11 its h25 hS => ?_
  refine dn ?_
  refine CV.ret ?_
  refine PV.leaveR (by simp) hS hys h25 (gd63_ok _ _ _ _ _ _ ) Pdf.en63 fun T12 n12 h26 ρ its hS => ?_
  refine PV.ld (x := .tmp 4) (t := 23) hS h26 rfl Pdf.one23 fun x4_17 h27 hVx4_17 => ?_
  refine PV.ld (x := .tmp 5) (t := 25) hS h27 rfl Pdf.one25 fun x5_18 h28 hVx5_18 => ?_
  cases h28
  exact PV.ret (by simp) Tryz.results33 hS (RS.cell hVx4_17 (RS.cell hVx5_18 RS.nil)) rfl
noncomputable def g11 (ro : List HT) (a0 : AV) (T : HT) (nx : Nat) : R :=
 callK (g33 ro a0 (.lit (.func (.func 34) #[] #[])) T nx) fun x5_1 T1 n1 =>
 exK 110005 x5_1 0 fun x6_2 =>
 exK 110006 x5_1 1 fun x7_3 =>
 .ok (.val (.tup [x6_2, x7_3])) T1 n1
theorem g11_ok (ro : List HT) (a0 : AV) (T : HT) (nx : Nat) : GOk Tryz.prog envE 11 [a0] ro T nx (g11 ro a0 T nx) := by
 refine GOk.of_body Tryz.func11 rfl Tryz.ntmps11 (by kernel_rfl) rfl fun r T' n' h1 w0 base ρ0 its hS hP => ?_
 have X : CtxW envE ρ0 ro r T' n' := trivial
 unfold g11 at h1
 refine sr ?_
 refine as_ ?_
 refine as_ ?_
 refine dn ?_
 refine sr ?_
 refine mv ?_
 refine LV.call hS h1 (g33_ok _ _ _ _ _ ) hP rfl rfl rfl rfl fun x5_1 T1 n1 h2 ρ its hS => ?_
 refine vy (V.ex h2 rfl) fun x6_2 h3 => ?_
 refine vy (V.ex h3 rfl) fun x7_3 h4 => ?_
 refine as_ ?_
 refine as_ ?_
 refine dn ?_
 refine CV.ret ?_
 cases h4
 exact PV.ret (by simp) Tryz.results11 hS (RS.tmp rfl (RS.tmp rfl RS.nil)) rfl
noncomputable def g10_k3 (ro : List HT) (y0 y42 : AV) (T5 : HT) (n5 : Nat) : R :=
 .ok (.val y42) T5 n5
noncomputable def g10_b2 (ro : List HT) (lp2 : AV → AV → AV → AV → HT → Nat → R) (y0 y1 y3 y4 : AV) (T4 : HT) (n4 : Nat) : R :=
 ltK Tryz.prog 3 (.tmp 17) (.const (.int .i64 (.ofNat 6))) 100018 y4 (.lit (.int .i64 (.ofNat 6))) fun x18_6 =>
 condK 100019 x18_6
 (
  iaK 100022 y1 y4 5 fun x23_7 =>
  faK 100023 x23_7 0 fun x24_8 =>
  ldK 100024 T4 ro x24_8 fun x25_9 =>
  iaK 100027 y3 y4 1 fun x28_10 =>
  ldK 100028 T4 ro x28_10 fun x29_11 =>
  neK Tryz.prog 3 (.tmp 25) (.tmp 29) 100029 x25_9 x29_11 fun x30_12 =>
  condK 100030 x30_12
  (
   .bad 100031
  )
  (
   addK Tryz.prog 3 (.tmp 19) (.const (.int .i64 (.ofNat 1))) 100033 y4 (.lit (.int .i64 (.ofNat 1))) fun x20_13 =>
   lp2 y0 y1 y3 x20_13 T4 n4
  )
 )
 (
  iaK 100036 y1 (.lit (.int .i64 (.ofNat 4))) 5 fun x32_14 =>
  faK 100037 x32_14 2 fun x33_15 =>
  ldK 100038 T4 ro x33_15 fun x34_16 =>
  eqK Tryz.prog 3 (.tmp 34) (.const (.int .i64 (.ofNat 2))) 100039 x34_16 (.lit (.int .i64 (.ofNat 2))) fun x35_17 =>
  condK 100042 x35_17
  (
   iaK 100044 y1 (.lit (.int .i64 (.ofNat 3))) 5 fun x38_18 =>
   faK 100045 x38_18 2 fun x39_19 =>
   ldK 100046 T4 ro x39_19 fun x40_20 =>
   eqK Tryz.prog 3 (.tmp 40) (.const (.int .i64 (.ofNat 6))) 100047 x40_20 (.lit (.int .i64 (.ofNat 6))) fun x41_21 =>
   g10_k3 ro y0 x41_21 T4 n4
  )
  (
   g10_k3 ro y0 (.lit (.bool false)) T4 n4
  )
 )
noncomputable def g10_k1 (ro : List HT) (y1 y15 : AV) (T2 : HT) (n2 : Nat) : R :=
 condK 100011 y15
 (
  .bad 100012
 )
 (
  bsK 100013 T2 n2 6 3 1 [(0, (.lit (.int .i64 (.ofNat 6)))), (1, (.lit (.int .i64 (.ofNat 4)))), (2, (.lit (.int .i64 (.ofNat 4)))), (3, (.lit (.int .i64 (.ofNat 21)))), (4, (.lit (.int .i64 (.ofNat 36)))), (5, (.lit (.int .i64 (.ofNat 47))))] fun x16_5 T3 n3 =>
  lpf4 100016 (g10_b2 ro) 100000 (.lit (.bool false)) y1 x16_5 (.lit (.int .i64 (.ofNat 0))) T3 n3
 )
noncomputable def g10 (ro : List HT) (T : HT) (nx : Nat) : R :=
 callK (g11 ro (.lit (.string ⟨⟨[120, 32, 61, 32, 49, 32, 43, 32, 50]⟩⟩)) T nx) fun x6_1 T1 n1 =>
 exK 100004 x6_1 0 fun x7_2 =>
 exK 100005 x6_1 1 fun x8_3 =>
 bin0 Tryz.prog .neq 25 (.tmp 9) (.const (.nilIface)) 100009 x8_3 (.lit (.nilIface)) fun x10_4 =>
 condK 100050 x10_4
 (
  g10_k1 ro x7_2 (.lit (.bool true)) T1 n1
 )
 (
  lenSK 100053 x7_2 fun x13_22 =>
  neK Tryz.prog 3 (.tmp 13) (.const (.int .i64 (.ofNat 6))) 100054 x13_22 (.lit (.int .i64 (.ofNat 6))) fun x14_23 =>
  g10_k1 ro x7_2 x14_23 T1 n1
 )
theorem g10_ok (ro : List HT) (T : HT) (nx : Nat) : GOk Tryz.prog envE 10 [] ro T nx (g10 ro T nx) := by
 refine GOk.of_body Tryz.func10 rfl Tryz.ntmps10 (by kernel_rfl) rfl fun r T' n' h1 w0 base ρ0 its hS hP => ?_
 have X : CtxW envE ρ0 ro r T' n' := trivial
 unfold g10 at h1
 refine sr ?_
 refine as_ ?_
 refine dn ?_
 refine sr ?_
 refine LV.call hS h1 (g11_ok _ _ _ _ ) hP rfl rfl rfl rfl fun x6_1 T1 n1 h2 ρ its hS => ?_
 refine mv ?_
 refine vy (V.ex h2 rfl) fun x7_2 h3 => ?_
 refine vy (V.ex h3 rfl) fun x8_3 h4 => ?_
 refine as_ ?_
 refine as_ ?_
 refine dn ?_
 refine CV.seq ?_
 refine sr ?_
 refine mv ?_
 refine vy (V.bin0 h4 rfl rfl) fun x10_4 h5 => ?_
 refine mv ?_
 refine ls2 X 1 15 [(0, (.lit (.bool false)))] (g10_k1 ro) 4 ?_ ?_
 ·
  rcases condK_inv h5 with ⟨e, h30⟩ | ⟨e, h30⟩
  ·
   clear h1 h2 h3 h4 h5
   subst e
   refine sk ?_
   refine sk ?_
   refine sk ?_
   refine pu ?_
   exact la2 hS h30 ⟨rfl, rfl, rfl, trivial⟩
  ·
   clear h1 h2 h3 h4 h5
   subst e
   refine mv ?_
   refine vy (V.lenS h30 rfl Pdf.ls23) fun x13_22 h31 => ?_
   refine vy (V.ne h31 rfl rfl) fun x14_23 h32 => ?_
   refine pu ?_
   exact la2 hS h32 ⟨rfl, rfl, rfl, trivial⟩
 ·
  intro y1 y15 T2 n2 ρ its hS h6
  unfold g10_k1 at h6
  clear h1 h2 h3 h4 h5
  refine dn ?_
  refine CV.cond h6 rfl (fun e h7 => ?_) (fun e h7 => ?_)
  ·
   clear h6
   subst e
   cases h7
  ·
   clear h6
   subst e
   refine CV.skip ?_
   refine PV.thenN ?_
   refine sr ?_
   refine LV.bslice hS h7 rfl rfl Pdf.el30 rfl rfl rfl rfl fun x16_5 T3 n3 h8 ρ its hS hdr => ?_
   refine as_ ?_
   refine dn ?_
   refine CV.seq ?_
   refine sr ?_
   refine as_ ?_
   refine dn ?_
   refine CV.block ?_
   refine cl4 X 0 1 3 4 [] hS h8 ⟨rfl, rfl, rfl, rfl, trivial⟩ ?_
   intro f2 y0 y1 y3 y4 T4 n4 ρ its hS h9
   unfold g10_b2 at h9
   clear h7 h8
   refine CV.seq ?_
   refine sr ?_
   refine mv ?_
   refine vy (V.lt h9 rfl rfl) fun x18_6 h10 => ?_
   refine dn ?_
   refine CV.cond h10 rfl (fun e h11 => ?_) (fun e h11 => ?_)
   ·
    clear h9 h10
    subst e
    refine CV.skip ?_
    refine PV.thenN ?_
    refine CV.seq ?_
    refine CV.block ?_
    refine CV.seq ?_
    refine CV.regionM [(0, .anywhere), (1, .anywhere), (2, .anywhere), (3, .anywhere), (4, .held), (5, .anywhere), (6, .anywhere), (7, .anywhere), (8, .held), (9, .held)] rfl (fun c a a' w hd hq => PanicOk.root (P := Tryz.prog) (fn := Tryz.f10) (w0 := w0) (base := base) (E := envE) (ro := ro) (r := r) (T' := T') (n' := n') (ρ0 := ρ0) c a a' w hd hq) (by kernel_rfl) ?_
    refine MV.step0 (i := 0) rfl (VAL.move rfl) rfl rfl rfl ?_
    refine MV.step0 (i := 1) rfl (VAL.move rfl) rfl rfl rfl ?_
    refine MV.lift0 (i := 2) rfl (V.ia h11 rfl rfl Pdf.el23) rfl rfl rfl fun x23_7 h12 => ?_
    refine MV.lift0 (i := 3) rfl (V.fa h12 rfl Pdf.fo32_0) rfl rfl rfl fun x24_8 h13 => ?_
    refine MV.lift1 (i := 4) rfl (fun _ z => z) (V.ld hS h13 rfl Pdf.one3) rfl rfl rfl [] (by kernel_rfl) fun x25_9 h14 => ?_
    refine MV.step0 (i := 5) rfl (VAL.move rfl) rfl rfl rfl ?_
    refine MV.step0 (i := 6) rfl (VAL.move rfl) rfl rfl rfl ?_
    refine MV.lift0 (i := 7) rfl (V.ia h14 rfl rfl Pdf.el30) rfl rfl rfl fun x28_10 h15 => ?_
    refine MV.lift1 (i := 8) rfl (fun _ z => z) (V.ld hS h15 rfl Pdf.one3) rfl rfl rfl [4] (by kernel_rfl) fun x29_11 h16 => ?_
    refine MV.lift1 (i := 9) rfl (fun _ z => z) (V.ne h16 rfl rfl) rfl rfl rfl [] (by kernel_rfl) fun x30_12 h17 => ?_
    refine mdn ?_
    refine CV.cond h17 rfl (fun e h18 => ?_) (fun e h18 => ?_)
    ·
     clear h11 h12 h13 h14 h15 h16 h17
     subst e
     cases h18
    ·
     clear h11 h12 h13 h14 h15 h16 h17
     subst e
     refine CV.skip ?_
     refine PV.blockN ?_
     refine PV.thenN ?_
     refine CV.region ?_
     refine mv ?_
     refine vy (V.add h18 rfl rfl) fun x20_13 h19 => ?_
     refine as_ ?_
     refine LV.done ?_
     exact pb4 hS h19 ⟨rfl, rfl, rfl, rfl, trivial⟩
   ·
    clear h9 h10
    subst e
    refine CV.exit ?_
    refine PV.thenE ?_
    refine PV.thenE ?_
    refine PV.blockE ?_
    refine PV.thenN ?_
    refine sr ?_
    refine mv ?_
    refine vy (V.ia h11 rfl rfl Pdf.el23) fun x32_14 h20 => ?_
    refine vy (V.fa h20 rfl Pdf.fo32_2) fun x33_15 h21 => ?_
    refine vy (V.ld hS h21 rfl Pdf.one3) fun x34_16 h22 => ?_
    refine vy (V.eq h22 rfl rfl) fun x35_17 h23 => ?_
    refine mv ?_
    refine ls2 X 0 42 [] (g10_k3 ro) 6 ?_ ?_
    ·
     rcases condK_inv h23 with ⟨e, h25⟩ | ⟨e, h25⟩
     ·
      clear h11 h20 h21 h22 h23
      subst e
      refine mv ?_
      refine vy (V.ia h25 rfl rfl Pdf.el23) fun x38_18 h26 => ?_
      refine vy (V.fa h26 rfl Pdf.fo32_2) fun x39_19 h27 => ?_
      refine vy (V.ld hS h27 rfl Pdf.one3) fun x40_20 h28 => ?_
      refine vy (V.eq h28 rfl rfl) fun x41_21 h29 => ?_
      refine pu ?_
      exact la2 hS h29 ⟨rfl, rfl, trivial⟩
     ·
      clear h11 h20 h21 h22 h23
      subst e
      refine sk ?_
      refine sk ?_
      refine sk ?_
      refine sk ?_
      refine sk ?_
      refine pu ?_
      exact la2 hS h25 ⟨rfl, rfl, trivial⟩
    ·
     intro y0 y42 T5 n5 ρ its hS h24
     unfold g10_k3 at h24
     clear h11 h20 h21 h22 h23
     refine as_ ?_
     refine dn ?_
     refine CV.ret ?_
     cases h24
     exact PV.ret (by simp) Tryz.results10 hS (RS.tmp rfl RS.nil) rfl
noncomputable def g36_k3 (ro : List HT) (lp1 : AV → AV → AV → AV → AV → AV → HT → Nat → R) (y1 y2 y6 y8 y9 y10 y11 y27 : AV) (T3 : HT) (n3 : Nat) : R :=
 condK 360015 y27
 (
  .bad 360016
 )
 (
  iaK 360019 y2 y8 1 fun x30_6 =>
  stK 360020 T3 x30_6 (.lit (.bool true)) fun T4 =>
  addK Tryz.prog 3 (.tmp 11) (.const (.int .i64 (.ofNat 1))) 360021 y11 (.lit (.int .i64 (.ofNat 1))) fun x31_7 =>
  lp1 y1 y2 y6 y9 y10 x31_7 T4 n3
 )
noncomputable def g36_k2 (ro : List HT) (lp1 : AV → AV → AV → AV → AV → AV → HT → Nat → R) (y1 y2 y6 y8 y9 y10 y11 y21 : AV) (T2 : HT) (n2 : Nat) : R :=
 condK 360023 y21
 (
  g36_k3 ro lp1 y1 y2 y6 y8 y9 y10 y11 (.lit (.bool true)) T2 n2
 )
 (
  iaK 360027 y2 y8 1 fun x25_8 =>
  ldK 360028 T2 ro x25_8 fun x26_9 =>
  g36_k3 ro lp1 y1 y2 y6 y8 y9 y10 y11 x26_9 T2 n2
 )
noncomputable def g36_b1 (ro : List HT) (lp1 : AV → AV → AV → AV → AV → AV → HT → Nat → R) (y1 y2 y6 y9 y10 y11 : AV) (T1 : HT) (n1 : Nat) : R :=
 ltK Tryz.prog 3 (.tmp 11) (.tmp 10) 360006 y11 y10 fun x12_2 =>
 condK 360007 x12_2
 (
  iaK 360008 y9 y11 1 fun x13_3 =>
  ldK 360009 T1 ro x13_3 fun x14_4 =>
  ltK Tryz.prog 3 (.tmp 15) (.const (.int .i64 (.ofNat 0))) 360012 x14_4 (.lit (.int .i64 (.ofNat 0))) fun x16_5 =>
  condK 360030 x16_5
  (
   g36_k2 ro lp1 y1 y2 y6 x14_4 y9 y10 y11 (.lit (.bool true)) T1 n1
  )
  (
   geK Tryz.prog 3 (.tmp 18) (.tmp 19) 360034 x14_4 y1 fun x20_10 =>
   g36_k2 ro lp1 y1 y2 y6 x14_4 y9 y10 y11 x20_10 T1 n1
  )
 )
 (
  .ok (.val (.lit (.bool true))) T1 n1
 )
noncomputable def g36 (ro : List HT) (a0 a1 a2 : AV) (T : HT) (nx : Nat) : R :=
 lenSK 360003 a0 fun x10_1 =>
 lpf6 360005 (g36_b1 ro) 100000 a1 a2 (.lit (.bool false)) a0 x10_1 (.lit (.int .i64 (.ofNat 0))) T nx
theorem g36_ok (ro : List HT) (a0 a1 a2 : AV) (T : HT) (nx : Nat) : GOk Tryz.prog envE 36 [a0, a1, a2] ro T nx (g36 ro a0 a1 a2 T nx) := by
 refine GOk.of_body Tryz.func36 rfl Tryz.ntmps36 (by kernel_rfl) rfl fun r T' n' h1 w0 base ρ0 its hS hP => ?_
 have X : CtxW envE ρ0 ro r T' n' := trivial
 unfold g36 at h1
 refine sr ?_
 refine as_ ?_
 refine dn ?_
 refine CV.seq ?_
 refine sr ?_
 refine mv ?_
 refine vy (V.lenS h1 rfl Pdf.ls30) fun x10_1 h2 => ?_
 refine mv ?_
 refine dn ?_
 refine CV.block ?_
 refine cl6 X 1 2 6 9 10 11 [] hS h2 ⟨rfl, rfl, rfl, rfl, rfl, rfl, trivial⟩ ?_
 intro f1 y1 y2 y6 y9 y10 y11 T1 n1 ρ its hS h3
 unfold g36_b1 at h3
 clear h1 h2
 refine sr ?_
 refine vy (V.lt h3 rfl rfl) fun x12_2 h4 => ?_
 refine dn ?_
 refine CV.seq ?_
 refine CV.cond h4 rfl (fun e h5 => ?_) (fun e h5 => ?_)
 ·
  clear h3 h4
  subst e
  refine CV.skip ?_
  refine PV.thenN ?_
  refine CV.seq ?_
  refine CV.block ?_
  refine sr ?_
  refine vy (V.ia h5 rfl rfl Pdf.el30) fun x13_3 h6 => ?_
  refine vy (V.ld hS h6 rfl Pdf.one3) fun x14_4 h7 => ?_
  refine as_ ?_
  refine dn ?_
  refine CV.seq ?_
  refine sr ?_
  refine mv ?_
  refine vy (V.lt h7 rfl rfl) fun x16_5 h8 => ?_
  refine mv ?_
  refine ls8 X 1 2 6 8 9 10 11 21 [] (g36_k2 ro (lpf6 360005 (g36_b1 ro) f1)) 4 ?_ ?_
  ·
   rcases condK_inv h8 with ⟨e, h18⟩ | ⟨e, h18⟩
   ·
    clear h5 h6 h7 h8
    subst e
    refine sk ?_
    refine sk ?_
    refine sk ?_
    refine pu ?_
    exact la8 hS h18 ⟨rfl, rfl, rfl, rfl, rfl, rfl, rfl, rfl, trivial⟩
   ·
    clear h5 h6 h7 h8
    subst e
    refine mv ?_
    refine mv ?_
    refine vy (V.ge h18 rfl rfl) fun x20_10 h19 => ?_
    refine pu ?_
    exact la8 hS h19 ⟨rfl, rfl, rfl, rfl, rfl, rfl, rfl, rfl, trivial⟩
  ·
   intro y1 y2 y6 y8 y9 y10 y11 y21 T2 n2 ρ its hS h9
   unfold g36_k2 at h9
   clear h5 h6 h7 h8
   refine mv ?_
   refine ls8 X 1 2 6 8 9 10 11 27 [] (g36_k3 ro (lpf6 360005 (g36_b1 ro) f1)) 5 ?_ ?_
   ·
    rcases condK_inv h9 with ⟨e, h15⟩ | ⟨e, h15⟩
    ·
     clear h9
     subst e
     refine sk ?_
     refine sk ?_
     refine sk ?_
     refine sk ?_
     refine pu ?_
     exact la8 hS h15 ⟨rfl, rfl, rfl, rfl, rfl, rfl, rfl, rfl, trivial⟩
    ·
     clear h9
     subst e
     refine mv ?_
     refine mv ?_
     refine vy (V.ia h15 rfl rfl Pdf.el67) fun x25_8 h16 => ?_
     refine vy (V.ld hS h16 rfl Pdf.one4) fun x26_9 h17 => ?_
     refine pu ?_
     exact la8 hS h17 ⟨rfl, rfl, rfl, rfl, rfl, rfl, rfl, rfl, trivial⟩
   ·
    intro y1 y2 y6 y8 y9 y10 y11 y27 T3 n3 ρ its hS h10
    unfold g36_k3 at h10
    clear h9
    refine dn ?_
    refine CV.cond h10 rfl (fun e h11 => ?_) (fun e h11 => ?_)
    ·
     clear h10
     subst e
     cases h11
    ·
     clear h10
     subst e
     refine CV.skip ?_
     refine PV.thenN ?_
     refine CV.region ?_
     refine mv ?_
     refine mv ?_
     refine vy (V.ia h11 rfl rfl Pdf.el67) fun x30_6 h12 => ?_
     refine LV.st hS h12 rfl rfl rfl Pdf.siz4 rfl rfl fun T4 its h13 hS => ?_
     refine LV.done ?_
     refine PV.blockN ?_
     refine PV.thenN ?_
     refine CV.region ?_
     refine vy (V.add h13 rfl rfl) fun x31_7 h14 => ?_
     refine mv ?_
     refine LV.done ?_
     exact pb6 hS h14 ⟨rfl, rfl, rfl, rfl, rfl, rfl, trivial⟩
 ·
  clear h3 h4
  subst e
  refine CV.exit ?_
  refine PV.thenE ?_
  refine PV.thenE ?_
  refine PV.blockE ?_
  refine PV.thenN ?_
  refine sr ?_
  refine as_ ?_
  refine dn ?_
  refine CV.ret ?_
  cases h5
  exact PV.ret (by simp) Tryz.results36 hS (RS.tmp rfl RS.nil) rfl
noncomputable def g66_k2 (ro : List HT) (lp1 : AV → AV → AV → AV → HT → Nat → R) (y0 y2 y5 y6 y24 : AV) (T3 : HT) (n3 : Nat) : R :=
 condK 660016 y24
 (
  .bad 660017
 )
 (
  addK Tryz.prog 3 (.tmp 6) (.const (.int .i64 (.ofNat 1))) 660018 y6 (.lit (.int .i64 (.ofNat 1))) fun x25_6 =>
  lp1 y0 y2 y5 x25_6 T3 n3
 )
noncomputable def g66_k3 (ro : List HT) (lp1 : AV → AV → AV → AV → HT → Nat → R) (y0 y2 y5 y6 y23 : AV) (T4 : HT) (n4 : Nat) : R :=
 g66_k2 ro lp1 y0 y2 y5 y6 y23 T4 n4
noncomputable def g66_k4 (ro : List HT) (y2 y33 : AV) (T6 : HT) (n6 : Nat) : R :=
 .ok (.val y33) T6 n6
noncomputable def g66_b1 (ro : List HT) (lp1 : AV → AV → AV → AV → HT → Nat → R) (y0 y2 y5 y6 : AV) (T1 : HT) (n1 : Nat) : R :=
 ltK Tryz.prog 3 (.tmp 6) (.tmp 5) 660006 y6 y5 fun x7_2 =>
 condK 660007 x7_2
 (
  ixK 660012 y0 y6 fun x11_3 =>
  callK (g104 ro x11_3 T1 n1) fun x12_4 T2 n2 =>
  notK 660014 x12_4 fun x13_5 =>
  condK 660020 x13_5
  (
   eqK Tryz.prog 3 (.tmp 15) (.const (.int .i64 (.ofNat 0))) 660022 y6 (.lit (.int .i64 (.ofNat 0))) fun x16_7 =>
   condK 660025 x16_7
   (
    g66_k3 ro lp1 y0 y2 y5 y6 (.lit (.bool true)) T2 n2
   )
   (
    ixK 660029 y0 y6 fun x20_8 =>
    callK (g105 ro x20_8 T2 n2) fun x21_9 T5 n5 =>
    notK 660031 x21_9 fun x22_10 =>
    g66_k3 ro lp1 y0 y2 y5 y6 x22_10 T5 n5
   )
  )
  (
   g66_k2 ro lp1 y0 y2 y5 y6 (.lit (.bool false)) T2 n2
  )
 )
 (
  neSK Tryz.prog 9 (.tmp 26) (.const (.string ⟨⟨[]⟩⟩)) 660035 y0 (.lit (.string ⟨⟨[]⟩⟩)) fun x27_11 =>
  condK 660038 x27_11
  (
   callK (g106 ro T1 n1) fun x29_12 T7 n7 =>
   callK (g87 ro x29_12 y0 T7 n7) fun x31_13 T8 n8 =>
   notK 660042 x31_13 fun x32_14 =>
   g66_k4 ro y2 x32_14 T8 n8
  )
  (
   g66_k4 ro y2 (.lit (.bool false)) T1 n1
  )
 )
noncomputable def g66 (ro : List HT) (a0 : AV) (T : HT) (nx : Nat) : R :=
 lenTK 660003 a0 fun x5_1 =>
 lpf4 660005 (g66_b1 ro) 100000 a0 (.lit (.bool false)) x5_1 (.lit (.int .i64 (.ofNat 0))) T nx
theorem g66_ok (ro : List HT) (a0 : AV) (T : HT) (nx : Nat) : GOk Tryz.prog envE 66 [a0] ro T nx (g66 ro a0 T nx) := by
 refine GOk.of_body Tryz.func66 rfl Tryz.ntmps66 (by kernel_rfl) rfl fun r T' n' h1 w0 base ρ0 its hS hP => ?_
 have X : CtxW envE ρ0 ro r T' n' := trivial
 unfold g66 at h1
 refine sr ?_
 refine as_ ?_
 refine dn ?_
 refine CV.seq ?_
 refine sr ?_
 refine mv ?_
 refine vy (V.lenT h1 rfl Pdf.ls9) fun x5_1 h2 => ?_
 refine mv ?_
 refine dn ?_
 refine CV.block ?_
 refine cl4 X 0 2 5 6 [] hS h2 ⟨rfl, rfl, rfl, rfl, trivial⟩ ?_
 intro f1 y0 y2 y5 y6 T1 n1 ρ its hS h3
 unfold g66_b1 at h3
 clear h1 h2
 refine sr ?_
 refine vy (V.lt h3 rfl rfl) fun x7_2 h4 => ?_
 refine dn ?_
 refine CV.seq ?_
 refine CV.cond h4 rfl (fun e h5 => ?_) (fun e h5 => ?_)
 ·
  clear h3 h4
  subst e
  refine CV.skip ?_
  refine PV.thenN ?_
  refine CV.seq ?_
  refine CV.block ?_
  refine sr ?_
  refine mv ?_
  refine as_ ?_
  refine dn ?_
  refine sr ?_
  refine mv ?_
  refine mv ?_
  refine vy (V.ix h5 rfl rfl Pdf.st9) fun x11_3 h6 => ?_
  refine LV.call hS h6 (g104_ok _ _ _ _ ) hP rfl rfl rfl rfl fun x12_4 T2 n2 h7 ρ its hS => ?_
  refine vy (V.not h7 rfl) fun x13_5 h8 => ?_
  refine mv ?_
  refine ls5 X 0 2 5 6 24 [] (g66_k2 ro (lpf4 660005 (g66_b1 ro) f1)) 10 ?_ ?_
  ·
   rcases condK_inv h8 with ⟨e, h12⟩ | ⟨e, h12⟩
   ·
    clear h5 h6 h7 h8
    subst e
    refine mv ?_
    refine vy (V.eq h12 rfl rfl) fun x16_7 h13 => ?_
    refine mv ?_
    refine ls5 X 0 2 5 6 23 [(14, (.lit (.bool true)))] (g66_k3 ro (lpf4 660005 (g66_b1 ro) f1)) 6 ?_ ?_
    ·
     rcases condK_inv h13 with ⟨e, h15⟩ | ⟨e, h15⟩
     ·
      clear h12 h13
      subst e
      refine sk ?_
      refine sk ?_
      refine sk ?_
      refine sk ?_
      refine sk ?_
      refine pu ?_
      exact la5 hS h15 ⟨rfl, rfl, rfl, rfl, rfl, rfl, trivial⟩
     ·
      clear h12 h13
      subst e
      refine mv ?_
      refine mv ?_
      refine vy (V.ix h15 rfl rfl Pdf.st9) fun x20_8 h16 => ?_
      refine LV.call hS h16 (g105_ok _ _ _ _ ) hP rfl rfl rfl rfl fun x21_9 T5 n5 h17 ρ its hS => ?_
      refine vy (V.not h17 rfl) fun x22_10 h18 => ?_
      refine pu ?_
      exact la5 hS h18 ⟨rfl, rfl, rfl, rfl, rfl, rfl, trivial⟩
    ·
     intro y0 y2 y5 y6 y23 T4 n4 ρ its hS h14
     unfold g66_k3 at h14
     clear h12 h13
     refine pu ?_
     exact la5 hS h14 ⟨rfl, rfl, rfl, rfl, rfl, trivial⟩
   ·
    clear h5 h6 h7 h8
    subst e
    refine sk ?_
    refine sk ?_
    refine sk ?_
    refine sk ?_
    refine sk ?_
    refine sk ?_
    refine sk ?_
    refine sk ?_
    refine sk ?_
    refine pu ?_
    exact la5 hS h12 ⟨rfl, rfl, rfl, rfl, rfl, trivial⟩
  ·
   intro y0 y2 y5 y6 y24 T3 n3 ρ its hS h9
   unfold g66_k2 at h9
   clear h5 h6 h7 h8
   refine dn ?_
   refine CV.cond h9 rfl (fun e h10 => ?_) (fun e h10 => ?_)
   ·
    clear h9
    subst e
    cases h10
   ·
    clear h9
    subst e
    refine CV.skip ?_
    refine PV.blockN ?_
    refine PV.thenN ?_
    refine CV.region ?_
    refine vy (V.add h10 rfl rfl) fun x25_6 h11 => ?_
    refine mv ?_
    refine LV.done ?_
    exact pb4 hS h11 ⟨rfl, rfl, rfl, rfl, trivial⟩
 ·
  clear h3 h4
  subst e
  refine CV.exit ?_
  refine PV.thenE ?_
  refine PV.thenE ?_
  refine PV.blockE ?_
  refine PV.thenN ?_
  refine sr ?_
  refine mv ?_
  refine vy (V.neS h5 rfl rfl) fun x27_11 h19 => ?_
  refine mv ?_
  refine ls2 X 2 33 [] (g66_k4 ro) 5 ?_ ?_
  ·
   rcases condK_inv h19 with ⟨e, h21⟩ | ⟨e, h21⟩
   ·
    clear h5 h19
    subst e
    refine LV.call hS h21 (g106_ok _ _ _ ) hP rfl rfl rfl rfl fun x29_12 T7 n7 h22 ρ its hS => ?_
    refine mv ?_
    refine LV.call hS h22 (g87_ok _ _ _ _ _ ) hP rfl rfl rfl rfl fun x31_13 T8 n8 h23 ρ its hS => ?_
    refine vy (V.not h23 rfl) fun x32_14 h24 => ?_
    refine pu ?_
    exact la2 hS h24 ⟨rfl, rfl, trivial⟩
   ·
    clear h5 h19
    subst e
    refine sk ?_
    refine sk ?_
    refine sk ?_
    refine sk ?_
    refine pu ?_
    exact la2 hS h21 ⟨rfl, rfl, trivial⟩
  ·
   intro y2 y33 T6 n6 ρ its hS h20
   unfold g66_k4 at h20
   clear h5 h19
   refine as_ ?_
   refine dn ?_
   refine CV.ret ?_
   cases h20
   exact PV.ret (by simp) Tryz.results66 hS (RS.tmp rfl RS.nil) rfl
noncomputable def g109_b1 (ro : List HT) (lp1 : AV → AV → AV → AV → AV → AV → HT → Nat → R) (y0 y2 y6 y9 y10 y11 : AV) (T1 : HT) (n1 : Nat) : R :=
 ltK Tryz.prog 3 (.tmp 11) (.tmp 10) 1090006 y11 y10 fun x12_2 =>
 condK 1090007 x12_2
 (
  iaK 1090008 y9 y11 1 fun x13_3 =>
  ldK 1090009 T1 ro x13_3 fun x14_4 =>
  fldK 1090013 T1 ro y0 0 fun x19_5 =>
  iaK 1090015 x19_5 x14_4 5 fun x21_6 =>
  ldAK 1090016 T1 ro x21_6 5 fun x22_7 =>
  dynK 1090017 y2 fun f p q => callK (scc2 4000 f ro (p ++ ([x22_7] ++ q)) T1 n1) fun x23_8 T2 n2 =>
  notK 1090018 x23_8 fun x24_9 =>
  condK 1090019 x24_9
  (
   .bad 1090020
  )
  (
   addK Tryz.prog 3 (.tmp 11) (.const (.int .i64 (.ofNat 1))) 1090021 y11 (.lit (.int .i64 (.ofNat 1))) fun x25_10 =>
   lp1 y0 y2 y6 y9 y10 x25_10 T2 n2
  )
 )
 (
  .ok (.val (.lit (.bool true))) T1 n1
 )
noncomputable def g109 (ro : List HT) (a0 a1 a2 : AV) (T : HT) (nx : Nat) : R :=
 lenSK 1090003 a1 fun x10_1 =>
 lpf6 1090005 (g109_b1 ro) 100000 a0 a2 (.lit (.bool false)) a1 x10_1 (.lit (.int .i64 (.ofNat 0))) T nx
theorem g109_ok (ro : List HT) (a0 a1 a2 : AV) (T : HT) (nx : Nat) : GOk Tryz.prog envE 109 [a0, a1, a2] ro T nx (g109 ro a0 a1 a2 T nx) := by
 refine GOk.of_body Tryz.func109 rfl Tryz.ntmps109 (by kernel_rfl) rfl fun r T' n' h1 w0 base ρ0 its hS hP => ?_
 have X : CtxW envE ρ0 ro r T' n' := trivial
 unfold g109 at h1
 refine sr ?_
 refine as_ ?_
 refine dn ?_
 refine CV.seq ?_
 refine sr ?_
 refine mv ?_
 refine vy (V.lenS h1 rfl Pdf.ls30) fun x10_1 h2 => ?_
 refine mv ?_
 refine dn ?_
 refine CV.block ?_
 refine cl6 X 0 2 6 9 10 11 [] hS h2 ⟨rfl, rfl, rfl, rfl, rfl, rfl, trivial⟩ ?_
 intro f1 y0 y2 y6 y9 y10 y11 T1 n1 ρ its hS h3
 unfold g109_b1 at h3
 clear h1 h2
 refine sr ?_
 refine vy (V.lt h3 rfl rfl) fun x12_2 h4 => ?_
 refine dn ?_
 refine CV.seq ?_
 refine CV.cond h4 rfl (fun e h5 => ?_) (fun e h5 => ?_)
 ·
  clear h3 h4
  subst e
  refine CV.skip ?_
  refine PV.thenN ?_
  refine CV.seq ?_
  refine CV.block ?_
  refine sr ?_
  refine vy (V.ia h5 rfl rfl Pdf.el30) fun x13_3 h6 => ?_
  refine vy (V.ld hS h6 rfl Pdf.one3) fun x14_4 h7 => ?_
  refine as_ ?_
  refine dn ?_
  refine sr ?_
  refine mv ?_
  refine mv ?_
  refine fl hS h7 Pdf.fo69_0 Pdf.one23 fun x19_5 h8 => ?_
  refine mv ?_
  refine vy (V.ia h8 rfl rfl Pdf.el23) fun x21_6 h9 => ?_
  refine vy (V.ldA hS h9 rfl Pdf.agg32) fun x22_7 h10 => ?_
  refine LV.callD (G := fun f gs => scc2 4000 f ro gs T1 n1) (qs := [x22_7]) hS h10 (fun f gs => scc2_ok _ _ _ _ _ _) hP rfl rfl rfl rfl rfl rfl rfl fun x23_8 T2 n2 h11 ρ its hS => ?_
  refine vy (V.not h11 rfl) fun x24_9 h12 => ?_
  refine dn ?_
  refine CV.cond h12 rfl (fun e h13 => ?_) (fun e h13 => ?_)
  ·
   clear h5 h6 h7 h8 h9 h10 h11 h12
   subst e
   cases h13
  ·
   clear h5 h6 h7 h8 h9 h10 h11 h12
   subst e
   refine CV.skip ?_
   refine PV.blockN ?_
   refine PV.thenN ?_
   refine CV.region ?_
   refine vy (V.add h13 rfl rfl) fun x25_10 h14 => ?_
   refine mv ?_
   refine LV.done ?_
   exact pb6 hS h14 ⟨rfl, rfl, rfl, rfl, rfl, rfl, trivial⟩
 ·
  clear h3 h4
  subst e
  refine CV.exit ?_
  refine PV.thenE ?_
  refine PV.thenE ?_
  refine PV.blockE ?_
  refine PV.thenN ?_
  refine sr ?_
  refine as_ ?_
  refine dn ?_
  refine CV.ret ?_
  cases h5
  exact PV.ret (by simp) Tryz.results109 hS (RS.tmp rfl RS.nil) rfl
noncomputable def g107_k2 (ro : List HT) (y23 : AV) (T2 : HT) (n2 : Nat) : R :=
 .ok (.val y23) T2 n2
noncomputable def g107_k1 (ro : List HT) (y0 y1 y18 : AV) (T1 : HT) (n1 : Nat) : R :=
 condK 1070009 y18
 (
  callK (g109 ro y0 y1 (.lit (.func (.func 183) #[] #[])) T1 n1) fun x22_3 T3 n3 =>
  g107_k2 ro x22_3 T3 n3
 )
 (
  g107_k2 ro (.lit (.bool false)) T1 n1
 )
noncomputable def g107 (ro : List HT) (a0 a1 a2 a3 : AV) (T : HT) (nx : Nat) : R :=
 lenSK 1070003 a1 fun x10_1 =>
 geK Tryz.prog 3 (.tmp 10) (.tmp 11) 1070005 x10_1 a2 fun x12_2 =>
 condK 1070015 x12_2
 (
  lenSK 1070017 a1 fun x15_4 =>
  leK Tryz.prog 3 (.tmp 15) (.tmp 16) 1070019 x15_4 a3 fun x17_5 =>
  g107_k1 ro a0 a1 x17_5 T nx
 )
 (
  g107_k1 ro a0 a1 (.lit (.bool false)) T nx
 )
theorem g107_ok (ro : List HT) (a0 a1 a2 a3 : AV) (T : HT) (nx : Nat) : GOk Tryz.prog envE 107 [a0, a1, a2, a3] ro T nx (g107 ro a0 a1 a2 a3 T nx) := by
 refine GOk.of_body Tryz.func107 rfl Tryz.ntmps107 (by kernel_rfl) rfl fun r T' n' h1 w0 base ρ0 its hS hP => ?_
 have X : CtxW envE ρ0 ro r T' n' := trivial
 unfold g107 at h1
 refine sr ?_
 refine as_ ?_
 refine dn ?_
 refine sr ?_
 refine mv ?_
 refine vy (V.lenS h1 rfl Pdf.ls30) fun x10_1 h2 => ?_
 refine mv ?_
 refine vy (V.ge h2 rfl rfl) fun x12_2 h3 => ?_
 refine mv ?_
 refine ls3 X 0 1 18 [(8, (.lit (.bool false)))] (g107_k1 ro) 5 ?_ ?_
 ·
  rcases condK_inv h3 with ⟨e, h8⟩ | ⟨e, h8⟩
  ·
   clear h1 h2 h3
   subst e
   refine mv ?_
   refine vy (V.lenS h8 rfl Pdf.ls30) fun x15_4 h9 => ?_
   refine mv ?_
   refine vy (V.le h9 rfl rfl) fun x17_5 h10 => ?_
   refine pu ?_
   exact la3 hS h10 ⟨rfl, rfl, rfl, rfl, trivial⟩
  ·
   clear h1 h2 h3
   subst e
   refine sk ?_
   refine sk ?_
   refine sk ?_
   refine sk ?_
   refine pu ?_
   exact la3 hS h8 ⟨rfl, rfl, rfl, rfl, trivial⟩
 ·
  intro y0 y1 y18 T1 n1 ρ its hS h4
  unfold g107_k1 at h4
  clear h1 h2 h3
  refine mv ?_
  refine ls1 X 23 [(8, (.lit (.bool false)))] (g107_k2 ro) 4 ?_ ?_
  ·
   rcases condK_inv h4 with ⟨e, h6⟩ | ⟨e, h6⟩
   ·
    clear h4
    subst e
    refine mv ?_
    refine mv ?_
    refine LV.call hS h6 (g109_ok _ _ _ _ _ _ ) hP rfl rfl rfl rfl fun x22_3 T3 n3 h7 ρ its hS => ?_
    refine pu ?_
    exact la1 hS h7 ⟨rfl, rfl, trivial⟩
   ·
    clear h4
    subst e
    refine sk ?_
    refine sk ?_
    refine sk ?_
    refine pu ?_
    exact la1 hS h6 ⟨rfl, rfl, trivial⟩
  ·
   intro y23 T2 n2 ρ its hS h5
   unfold g107_k2 at h5
   clear h4
   refine as_ ?_
   refine dn ?_
   refine CV.ret ?_
   cases h5
   exact PV.ret (by simp) Tryz.results107 hS (RS.tmp rfl RS.nil) rfl
noncomputable def g112_k1 (ih : FuncId → List HT → List AV → HT → Nat → R) (ro : List HT) (y0 y5 y25 : AV) (T3 : HT) (n3 : Nat) : R :=
 .ok (.val y25) T3 n3
noncomputable def g112_b2 (ih : FuncId → List HT → List AV → HT → Nat → R) (ro : List HT) (lp2 : AV → AV → AV → AV → AV → AV → HT → Nat → R) (y0 y4 y5 y27 y28 y29 : AV) (T4 : HT) (n4 : Nat) : R :=
 ltK Tryz.prog 3 (.tmp 29) (.tmp 28) 1120029 y29 y28 fun x30_17 =>
 condK 1120030 x30_17
 (
  iaK 1120031 y27 y29 1 fun x31_18 =>
  ldK 1120032 T4 ro x31_18 fun x32_19 =>
  callK (ih 112 ro [y0, x32_19] T4 n4) fun x35_20 T5 n5 =>
  notK 1120037 x35_20 fun x36_21 =>
  condK 1120038 x36_21
  (
   .bad 1120039
  )
  (
   addK Tryz.prog 3 (.tmp 29) (.const (.int .i64 (.ofNat 1))) 1120040 y29 (.lit (.int .i64 (.ofNat 1))) fun x37_22 =>
   lp2 y0 y4 y5 y27 y28 x37_22 T5 n5
  )
 )
 (
  faK 1120042 y5 4 fun x38_23 =>
  ldK 1120043 T4 ro x38_23 fun x39_24 =>
  lenSK 1120044 x39_24 fun x40_25 =>
  gtK Tryz.prog 3 (.tmp 40) (.const (.int .i64 (.ofNat 0))) 1120045 x40_25 (.lit (.int .i64 (.ofNat 0))) fun x41_26 =>
  .ok (.val x41_26) T4 n4
 )
noncomputable def g112 (ih : FuncId → List HT → List AV → HT → Nat → R) (ro : List HT) (a0 a1 : AV) (T : HT) (nx : Nat) : R :=
 fldK 1120003 T ro a0 0 fun x11_1 =>
 iaK 1120005 x11_1 a1 5 fun x13_2 =>
 ldAK 1120006 T ro x13_2 5 fun x14_3 =>
 newK T nx (.obj [.lit (.int .i64 0), .lit (.int .i64 0), .lit (.int .i64 0), .lit (.string ⟨#[]⟩), .lit (.slice none 0 0)] 32) fun x5_4 T1 n1 =>
 stAK 1120008 T1 x5_4 x14_3 5 fun T2 =>
 faK 1120009 x5_4 0 fun x15_5 =>
 ldK 1120010 T2 ro x15_5 fun x16_6 =>
 neK Tryz.prog 3 (.tmp 16) (.const (.int .i64 (.ofNat 8))) 1120011 x16_6 (.lit (.int .i64 (.ofNat 8))) fun x17_7 =>
 condK 1120012 x17_7
 (
  faK 1120013 x5_4 0 fun x18_8 =>
  ldK 1120014 T2 ro x18_8 fun x19_9 =>
  eqK Tryz.prog 3 (.tmp 19) (.const (.int .i64 (.ofNat 6))) 1120015 x19_9 (.lit (.int .i64 (.ofNat 6))) fun x20_10 =>
  condK 1120018 x20_10
  (
   g112_k1 ih ro a0 x5_4 (.lit (.bool true)) T2 n1
  )
  (
   faK 1120020 x5_4 0 fun x22_11 =>
   ldK 1120021 T2 ro x22_11 fun x23_12 =>
   eqK Tryz.prog 3 (.tmp 23) (.const (.int .i64 (.ofNat 13))) 1120022 x23_12 (.lit (.int .i64 (.ofNat 13))) fun x24_13 =>
   g112_k1 ih ro a0 x5_4 x24_13 T2 n1
  )
 )
 (
  faK 1120024 x5_4 4 fun x26_14 =>
  ldK 1120025 T2 ro x26_14 fun x27_15 =>
  lenSK 1120026 x27_15 fun x28_16 =>
  lpf6 1120028 (g112_b2 ih ro) 100000 a0 (.lit (.bool false)) x5_4 x27_15 x28_16 (.lit (.int .i64 (.ofNat 0))) T2 n1
 )
theorem g112_ok (ih : FuncId → List HT → List AV → HT → Nat → R) (hI : ∀ f ro args T nx, GOk Tryz.prog envE f args ro T nx (ih f ro args T nx)) (ro : List HT) (a0 a1 : AV) (T : HT) (nx : Nat) : GOk Tryz.prog envE 112 [a0, a1] ro T nx (g112 ih ro a0 a1 T nx) := by
 refine GOk.of_body Tryz.func112 rfl Tryz.ntmps112 (by kernel_rfl) rfl fun r T' n' h1 w0 base ρ0 its hS hP => ?_
 have X : CtxW envE ρ0 ro r T' n' := trivial
 unfold g112 at h1
 refine sr ?_
 refine as_ ?_
 refine dn ?_
 refine sr ?_
 refine mv ?_
 refine fl hS h1 Pdf.fo69_0 Pdf.one23 fun x11_1 h2 => ?_
 refine mv ?_
 refine vy (V.ia h2 rfl rfl Pdf.el23) fun x13_2 h3 => ?_
 refine vy (V.ldA hS h3 rfl Pdf.agg32) fun x14_3 h4 => ?_
 refine LV.alloc hS h4 rfl Pdf.zr32 rfl rfl rfl fun x5_4 T1 n1 h5 ρ its hS hdr => ?_
 refine LV.stA hS h5 rfl rfl rfl Pdf.agg32 rfl rfl rfl fun T2 its h6 hS => ?_
 refine dn ?_
 refine CV.seq ?_
 refine sr ?_
 refine vy (V.fa h6 rfl Pdf.fo32_0) fun x15_5 h7 => ?_
 refine vy (V.ld hS h7 rfl Pdf.one3) fun x16_6 h8 => ?_
 refine vy (V.ne h8 rfl rfl) fun x17_7 h9 => ?_
 refine dn ?_
 refine CV.cond h9 rfl (fun e h10 => ?_) (fun e h10 => ?_)
 ·
  clear h1 h2 h3 h4 h5 h6 h7 h8 h9
  subst e
  refine sr ?_
  refine vy (V.fa h10 rfl Pdf.fo32_0) fun x18_8 h11 => ?_
  refine vy (V.ld hS h11 rfl Pdf.one3) fun x19_9 h12 => ?_
  refine vy (V.eq h12 rfl rfl) fun x20_10 h13 => ?_
  refine mv ?_
  refine ls3 X 0 5 25 [(4, (.lit (.bool false)))] (g112_k1 ih ro) 4 ?_ ?_
  ·
   rcases condK_inv h13 with ⟨e, h15⟩ | ⟨e, h15⟩
   ·
    clear h10 h11 h12 h13
    subst e
    refine sk ?_
    refine sk ?_
    refine sk ?_
    refine pu ?_
    exact la3 hS h15 ⟨rfl, rfl, rfl, rfl, trivial⟩
   ·
    clear h10 h11 h12 h13
    subst e
    refine vy (V.fa h15 rfl Pdf.fo32_0) fun x22_11 h16 => ?_
    refine vy (V.ld hS h16 rfl Pdf.one3) fun x23_12 h17 => ?_
    refine vy (V.eq h17 rfl rfl) fun x24_13 h18 => ?_
    refine pu ?_
    exact la3 hS h18 ⟨rfl, rfl, rfl, rfl, trivial⟩
  ·
   intro y0 y5 y25 T3 n3 ρ its hS h14
   unfold g112_k1 at h14
   clear h10 h11 h12 h13
   refine as_ ?_
   refine dn ?_
   refine CV.ret ?_
   refine PV.thenR ?_
   cases h14
   exact PV.ret (by simp) Tryz.results112 hS (RS.tmp rfl RS.nil) rfl
 ·
  clear h1 h2 h3 h4 h5 h6 h7 h8 h9
  subst e
  refine CV.skip ?_
  refine PV.thenN ?_
  refine CV.seq ?_
  refine sr ?_
  refine vy (V.fa h10 rfl Pdf.fo32_4) fun x26_14 h19 => ?_
  refine vy (V.ld hS h19 rfl Pdf.one30) fun x27_15 h20 => ?_
  refine vy (V.lenS h20 rfl Pdf.ls30) fun x28_16 h21 => ?_
  refine mv ?_
  refine dn ?_
  refine CV.block ?_
  refine cl6 X 0 4 5 27 28 29 [] hS h21 ⟨rfl, rfl, rfl, rfl, rfl, rfl, trivial⟩ ?_
  intro f2 y0 y4 y5 y27 y28 y29 T4 n4 ρ its hS h22
  unfold g112_b2 at h22
  clear h10 h19 h20 h21
  refine sr ?_
  refine vy (V.lt h22 rfl rfl) fun x30_17 h23 => ?_
  refine dn ?_
  refine CV.seq ?_
  refine CV.cond h23 rfl (fun e h24 => ?_) (fun e h24 => ?_)
  ·
   clear h22 h23
   subst e
   refine CV.skip ?_
   refine PV.thenN ?_
   refine CV.seq ?_
   refine CV.block ?_
   refine sr ?_
   refine vy (V.ia h24 rfl rfl Pdf.el30) fun x31_18 h25 => ?_
   refine vy (V.ld hS h25 rfl Pdf.one3) fun x32_19 h26 => ?_
   refine as_ ?_
   refine dn ?_
   refine sr ?_
   refine mv ?_
   refine mv ?_
   refine LV.call hS h26 (hI _ _ _ _ _) hP rfl rfl rfl rfl fun x35_20 T5 n5 h27 ρ its hS => ?_
   refine vy (V.not h27 rfl) fun x36_21 h28 => ?_
   refine dn ?_
   refine CV.cond h28 rfl (fun e h29 => ?_) (fun e h29 => ?_)
   ·
    clear h24 h25 h26 h27 h28
    subst e
    cases h29
   ·
    clear h24 h25 h26 h27 h28
    subst e
    refine CV.skip ?_
    refine PV.blockN ?_
    refine PV.thenN ?_
    refine CV.region ?_
    refine vy (V.add h29 rfl rfl) fun x37_22 h30 => ?_
    refine mv ?_
    refine LV.done ?_
    exact pb6 hS h30 ⟨rfl, rfl, rfl, rfl, rfl, rfl, trivial⟩
  ·
   clear h22 h23
   subst e
   refine CV.exit ?_
   refine PV.thenE ?_
   refine PV.thenE ?_
   refine PV.blockE ?_
   refine PV.thenN ?_
   refine sr ?_
   refine vy (V.fa h24 rfl Pdf.fo32_4) fun x38_23 h31 => ?_
   refine vy (V.ld hS h31 rfl Pdf.one30) fun x39_24 h32 => ?_
   refine vy (V.lenS h32 rfl Pdf.ls30) fun x40_25 h33 => ?_
   refine vy (V.gt h33 rfl rfl) fun x41_26 h34 => ?_
   refine as_ ?_
   refine dn ?_
   refine CV.ret ?_
   cases h34
   exact PV.ret (by simp) Tryz.results112 hS (RS.tmp rfl RS.nil) rfl
noncomputable def ap3 (ih : FuncId → List HT → List AV → HT → Nat → R) (f : FuncId) (ro : List HT) (args : List AV) (T : HT) (nx : Nat) : R :=
  Bool.rec (motive := fun _ => R) (.bad 2) (List.rec (motive := fun _ => R) (.bad 1) (fun a0 l0 _ => List.rec (motive := fun _ => R) (.bad 1) (fun a1 l1 _ => List.rec (motive := fun _ => R) (g112 ih ro a0 a1 T nx) (fun _ _ _ => .bad 1) l1) l0) args) (Nat.beq f 112)
noncomputable def scc3 (fuel : Nat) : FuncId → List HT → List AV → HT → Nat → R :=
  Nat.rec (motive := fun _ => FuncId → List HT → List AV → HT → Nat → R) (fun _ _ _ _ _ => .bad 3) (fun _ ih => ap3 ih) fuel
theorem ap3_ok (ih : FuncId → List HT → List AV → HT → Nat → R) (hI : ∀ f ro args T nx, GOk Tryz.prog envE f args ro T nx (ih f ro args T nx)) (f : FuncId) (ro : List HT) (args : List AV) (T : HT) (nx : Nat) : GOk Tryz.prog envE f args ro T nx (ap3 ih f ro args T nx) := by
  unfold ap3
  refine recb_go (fun hb => ?_) (fun _ => ?_)
  · obtain rfl := beqT hb
    rcases args with _ | ⟨a0, l0⟩
    · exact GOk.bad
    rcases l0 with _ | ⟨a1, l1⟩
    · exact GOk.bad
    rcases l1 with _ | ⟨_, _⟩
    · exact g112_ok _ hI _ _ _ _ _ 
    · exact GOk.bad
  · exact GOk.bad
theorem scc3_ok : ∀ (fuel : Nat) (f : FuncId) (ro : List HT) (args : List AV) (T : HT) (nx : Nat), GOk Tryz.prog envE f args ro T nx (scc3 fuel f ro args T nx)
  | 0, _, _, _, _, _ => GOk.bad
  | fuel + 1, f, ro, args, T, nx => ap3_ok (scc3 fuel) (scc3_ok fuel) f ro args T nx

end Go.Proofs.YtdepmlcnllofiaaGreatDoor.Pd
