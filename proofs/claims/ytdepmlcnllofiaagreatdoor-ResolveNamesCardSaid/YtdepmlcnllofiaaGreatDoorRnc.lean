/-
  Proved here: plain functions that do what the program's functions do, each with its proof.
-/
import Derived.Test.YtdepmlcnllofiaaGreatDoorRnb
namespace Go.Proofs.YtdepmlcnllofiaaGreatDoor.Rn
open Go.EY Go.EX Go.SX Go.RowKit
noncomputable def g170_b1 (ro : List HT) (lp1 : AV → AV → AV → HT → Nat → R) (y0 y2 y3 : AV) (T3 : HT) (n3 : Nat) : R :=
 ncK 1700048 y0 fun x76_28 =>
 faK 1700049 x76_28 3 fun x77_29 =>
 ldK 1700050 T3 ro x77_29 fun x78_30 =>
 ncK 1700052 y0 fun x80_31 =>
 faK 1700053 x80_31 3 fun x81_32 =>
 ldK 1700054 T3 ro x81_32 fun x82_33 =>
 lenSK 1700055 x82_33 fun x83_34 =>
 subK Tryz.prog 3 (.tmp 83) (.const (.int .i64 (.ofNat 1))) 1700056 x83_34 (.lit (.int .i64 (.ofNat 1))) fun x84_35 =>
 iaK 1700057 x78_30 x84_35 1 fun x85_36 =>
 ldK 1700058 T3 ro x85_36 fun x86_37 =>
 ltK Tryz.prog 3 (.tmp 74) (.tmp 86) 1700059 y3 x86_37 fun x87_38 =>
 condK 1700060 x87_38
 (
  ncK 1700063 y0 fun x90_39 =>
  faK 1700064 x90_39 3 fun x91_40 =>
  ldK 1700065 T3 ro x91_40 fun x92_41 =>
  ncK 1700067 y0 fun x94_42 =>
  faK 1700068 x94_42 3 fun x95_43 =>
  ldK 1700069 T3 ro x95_43 fun x96_44 =>
  lenSK 1700070 x96_44 fun x97_45 =>
  subK Tryz.prog 3 (.tmp 97) (.const (.int .i64 (.ofNat 1))) 1700071 x97_45 (.lit (.int .i64 (.ofNat 1))) fun x98_46 =>
  cutHiK 1700072 T3 ro x92_41 x98_46 fun x99_47 =>
  ncK 1700073 y0 fun x100_48 =>
  faK 1700074 x100_48 3 fun x101_49 =>
  stK 1700075 T3 x101_49 x99_47 fun T4 =>
  fldK 1700078 T4 ro y0 1 fun x106_50 =>
  callK (g98 ro y0 (.lit (.int .i64 (.ofNat 7))) (.lit (.string ⟨⟨[]⟩⟩)) x106_50 T4 n3) fun x107_51 T5 n5 =>
  lp1 y0 y2 y3 T5 n5
 )
 (
  ncK 1700082 y0 fun x110_52 =>
  faK 1700083 x110_52 3 fun x111_53 =>
  ldK 1700084 T3 ro x111_53 fun x112_54 =>
  ncK 1700086 y0 fun x114_55 =>
  faK 1700087 x114_55 3 fun x115_56 =>
  ldK 1700088 T3 ro x115_56 fun x116_57 =>
  lenSK 1700089 x116_57 fun x117_58 =>
  subK Tryz.prog 3 (.tmp 117) (.const (.int .i64 (.ofNat 1))) 1700090 x117_58 (.lit (.int .i64 (.ofNat 1))) fun x118_59 =>
  iaK 1700091 x112_54 x118_59 1 fun x119_60 =>
  ldK 1700092 T3 ro x119_60 fun x120_61 =>
  neK Tryz.prog 3 (.tmp 108) (.tmp 120) 1700093 y3 x120_61 fun x121_62 =>
  condK 1700094 x121_62
  (
   .bad 1700095
  )
  (
   .ok (.val (.lit (.nilIface))) T3 n3
  )
 )
noncomputable def g170 (ro : List HT) (a0 : AV) (T : HT) (nx : Nat) : R :=
 callK (g209 ro a0 T nx) fun x6_1 T1 n1 =>
 notK 1700004 x6_1 fun x7_2 =>
 condK 1700005 x7_2
 (
  .bad 1700006
 )
 (
  faK 1700008 a0 5 fun x15_3 =>
  stK 1700009 T1 x15_3 (.lit (.bool true)) fun T2 =>
  ncK 1700011 a0 fun x17_4 =>
  faK 1700012 x17_4 1 fun x18_5 =>
  ldK 1700013 T2 ro x18_5 fun x19_6 =>
  ncK 1700015 a0 fun x21_7 =>
  faK 1700016 x21_7 0 fun x22_8 =>
  ldK 1700017 T2 ro x22_8 fun x23_9 =>
  ncK 1700019 a0 fun x25_10 =>
  faK 1700020 x25_10 1 fun x26_11 =>
  ldK 1700021 T2 ro x26_11 fun x27_12 =>
  sliceF 1700022 x23_9 none (some x27_12) fun x28_13 =>
  callQ 1700023 (g210 (T2 :: ro) x28_13 (.lit (.int .u8 (.ofNat 10))) .nil n1) fun x29_14 =>
  addK Tryz.prog 3 (.tmp 29) (.const (.int .i64 (.ofNat 1))) 1700024 x29_14 (.lit (.int .i64 (.ofNat 1))) fun x30_15 =>
  subK Tryz.prog 3 (.tmp 19) (.tmp 30) 1700025 x19_6 x30_15 fun x31_16 =>
  ncK 1700028 a0 fun x33_17 =>
  faK 1700029 x33_17 3 fun x34_18 =>
  ldK 1700030 T2 ro x34_18 fun x35_19 =>
  ncK 1700032 a0 fun x37_20 =>
  faK 1700033 x37_20 3 fun x38_21 =>
  ldK 1700034 T2 ro x38_21 fun x39_22 =>
  lenSK 1700035 x39_22 fun x40_23 =>
  subK Tryz.prog 3 (.tmp 40) (.const (.int .i64 (.ofNat 1))) 1700036 x40_23 (.lit (.int .i64 (.ofNat 1))) fun x41_24 =>
  iaK 1700037 x35_19 x41_24 1 fun x42_25 =>
  ldK 1700038 T2 ro x42_25 fun x43_26 =>
  gtK Tryz.prog 3 (.tmp 44) (.tmp 45) 1700042 x31_16 x43_26 fun x46_27 =>
  condK 1700043 x46_27
  (
   .bad 1700044
  )
  (
   lpf3 1700045 (g170_b1 ro) 100000 a0 (.lit (.nilIface)) x31_16 T2 n1
  )
 )
theorem g170_ok (ro : List HT) (a0 : AV) (T : HT) (nx : Nat) : GOk Tryz.prog envE 170 [a0] ro T nx (g170 ro a0 T nx) := by
 refine GOk.of_body Tryz.func170 rfl Tryz.ntmps170 (by kernel_rfl) rfl fun r T' n' h1 w0 base ρ0 its hS hP => ?_
 have X : CtxW envE ρ0 ro r T' n' := trivial
 unfold g170 at h1
 refine sr ?_
 refine as_ ?_
 refine dn ?_
 refine CV.seq ?_
 refine sr ?_
 refine mv ?_
 refine LV.call hS h1 (g209_ok _ _ _ _ ) hP rfl rfl rfl rfl fun x6_1 T1 n1 h2 ρ its hS => ?_
 refine vy (V.not h2 rfl) fun x7_2 h3 => ?_
 refine dn ?_
 refine CV.cond h3 rfl (fun e h4 => ?_) (fun e h4 => ?_)
 ·
  clear h1 h2 h3
  subst e
  cases h4
 ·
  clear h1 h2 h3
  subst e
  refine CV.skip ?_
  refine PV.thenN ?_
  refine sr ?_
  refine mv ?_
  refine fa2 h4 Rnf.fo168_5 fun x15_3 h5 => ?_
  refine LV.st hS h5 rfl rfl rfl Rnf.siz4 rfl rfl fun T2 its h6 hS => ?_
  refine dn ?_
  refine CV.seq ?_
  refine CV.regionM [(0, .anywhere), (1, .anywhere), (2, .anywhere), (3, .held), (4, .anywhere), (5, .anywhere), (6, .anywhere), (7, .held), (8, .anywhere), (9, .anywhere), (10, .anywhere), (11, .held), (12, .held), (13, .alone), (14, .alone), (15, .alone), (16, .alone)] rfl (fun c a a' w hd hq => PanicOk.root (P := Tryz.prog) (fn := Tryz.f170) (w0 := w0) (base := base) (E := envE) (ro := ro) (r := r) (T' := T') (n' := n') (ρ0 := ρ0) c a a' w hd hq) (by kernel_rfl) ?_
  refine MV.step0 (i := 0) rfl (VAL.move rfl) rfl rfl rfl ?_
  refine MV.lift0 (i := 1) rfl (V.nc h6 rfl) rfl rfl rfl fun x17_4 h7 => ?_
  refine MV.lift0 (i := 2) rfl (V.fa h7 rfl Rnf.fo168_1) rfl rfl rfl fun x18_5 h8 => ?_
  refine MV.lift1 (i := 3) rfl (fun _ z => z) (V.ld hS h8 rfl Rnf.one3) rfl rfl rfl [] (by kernel_rfl) fun x19_6 h9 => ?_
  refine MV.step0 (i := 4) rfl (VAL.move rfl) rfl rfl rfl ?_
  refine MV.lift0 (i := 5) rfl (V.nc h9 rfl) rfl rfl rfl fun x21_7 h10 => ?_
  refine MV.lift0 (i := 6) rfl (V.fa h10 rfl Rnf.fo168_0) rfl rfl rfl fun x22_8 h11 => ?_
  refine MV.lift1 (i := 7) rfl (fun _ z => z) (V.ld hS h11 rfl Rnf.one9) rfl rfl rfl [3] (by kernel_rfl) fun x23_9 h12 => ?_
  refine MV.step0 (i := 8) rfl (VAL.move rfl) rfl rfl rfl ?_
  refine MV.lift0 (i := 9) rfl (V.nc h12 rfl) rfl rfl rfl fun x25_10 h13 => ?_
  refine MV.lift0 (i := 10) rfl (V.fa h13 rfl Rnf.fo168_1) rfl rfl rfl fun x26_11 h14 => ?_
  refine MV.lift1 (i := 11) rfl (fun _ z => z) (V.ld hS h14 rfl Rnf.one3) rfl rfl rfl [7, 3] (by kernel_rfl) fun x27_12 h15 => ?_
  refine MV.lift1 (i := 12) rfl (fun _ z => z) (V.slHi (sliceF_ok h15) rfl rfl Rnf.st9) rfl rfl rfl [3] (by kernel_rfl) fun x28_13 h16 => ?_
  refine MV.force (i := 13) rfl ?_
  refine LV.callQ hS h16 (g210_ok _ _ _ _ _ ) rfl rfl rfl rfl fun x29_14 h17 => ?_
  refine LV.nextM [3] (by kernel_rfl) (fun _ => fun _ z => z) ?_
  refine MV.force (i := 14) rfl ?_
  refine vy (V.add h17 rfl rfl) fun x30_15 h18 => ?_
  refine LV.nextM [3] (by kernel_rfl) (fun _ => fun _ z => z) ?_
  refine MV.force (i := 15) rfl ?_
  refine vy (V.sub h18 rfl rfl) fun x31_16 h19 => ?_
  refine LV.nextM [] (by kernel_rfl) (fun z => absurd rfl z) ?_
  refine MV.force (i := 16) rfl ?_
  refine as_ ?_
  refine LV.nextM [] (by kernel_rfl) (fun z => absurd rfl z) ?_
  refine mdn ?_
  refine CV.seq ?_
  refine CV.regionM [(0, .anywhere), (1, .anywhere), (2, .anywhere), (3, .held), (4, .anywhere), (5, .anywhere), (6, .anywhere), (7, .held), (8, .held), (9, .held), (10, .held), (11, .held), (12, .held)] rfl (fun c a a' w hd hq => PanicOk.root (P := Tryz.prog) (fn := Tryz.f170) (w0 := w0) (base := base) (E := envE) (ro := ro) (r := r) (T' := T') (n' := n') (ρ0 := ρ0) c a a' w hd hq) (by kernel_rfl) ?_
  refine MV.step0 (i := 0) rfl (VAL.move rfl) rfl rfl rfl ?_
  refine MV.lift0 (i := 1) rfl (V.nc h19 rfl) rfl rfl rfl fun x33_17 h20 => ?_
  refine MV.lift0 (i := 2) rfl (V.fa h20 rfl Rnf.fo168_3) rfl rfl rfl fun x34_18 h21 => ?_
  refine MV.lift1 (i := 3) rfl (fun _ z => z) (V.ld hS h21 rfl Rnf.one30) rfl rfl rfl [] (by kernel_rfl) fun x35_19 h22 => ?_
  refine MV.step0 (i := 4) rfl (VAL.move rfl) rfl rfl rfl ?_
  refine MV.lift0 (i := 5) rfl (V.nc h22 rfl) rfl rfl rfl fun x37_20 h23 => ?_
  refine MV.lift0 (i := 6) rfl (V.fa h23 rfl Rnf.fo168_3) rfl rfl rfl fun x38_21 h24 => ?_
  refine MV.lift1 (i := 7) rfl (fun _ z => z) (V.ld hS h24 rfl Rnf.one30) rfl rfl rfl [3] (by kernel_rfl) fun x39_22 h25 => ?_
  refine MV.lift1 (i := 8) rfl (fun _ z => z) (V.lenS h25 rfl Rnf.ls30) rfl rfl rfl [3] (by kernel_rfl) fun x40_23 h26 => ?_
  refine MV.lift1 (i := 9) rfl (fun _ z => z) (V.sub h26 rfl rfl) rfl rfl rfl [3] (by kernel_rfl) fun x41_24 h27 => ?_
  refine MV.lift1 (i := 10) rfl (fun _ z => z) (V.ia h27 rfl rfl Rnf.el30) rfl rfl rfl [] (by kernel_rfl) fun x42_25 h28 => ?_
  refine MV.lift1 (i := 11) rfl (fun _ z => z) (V.ld hS h28 rfl Rnf.one3) rfl rfl rfl [] (by kernel_rfl) fun x43_26 h29 => ?_
  refine MV.step1 (i := 12) rfl (fun _ z => z) (VAL.assign rfl) rfl rfl rfl [] (by kernel_rfl) ?_
  refine mdn ?_
  refine CV.seq ?_
  refine sr ?_
  refine mv ?_
  refine mv ?_
  refine vy (V.gt h29 rfl rfl) fun x46_27 h30 => ?_
  refine dn ?_
  refine CV.cond h30 rfl (fun e h31 => ?_) (fun e h31 => ?_)
  ·
   clear h4 h5 h6 h7 h8 h9 h10 h11 h12 h13 h14 h15 h16 h17 h18 h19 h20 h21 h22 h23 h24 h25 h26 h27 h28 h29 h30
   subst e
   cases h31
  ·
   clear h4 h5 h6 h7 h8 h9 h10 h11 h12 h13 h14 h15 h16 h17 h18 h19 h20 h21 h22 h23 h24 h25 h26 h27 h28 h29 h30
   subst e
   refine CV.skip ?_
   refine PV.thenN ?_
   refine CV.seq ?_
   refine CV.block ?_
   refine cl3 X 0 2 3 [] hS h31 ⟨rfl, rfl, rfl, trivial⟩ ?_
   intro f1 y0 y2 y3 T3 n3 ρ its hS h32
   unfold g170_b1 at h32
   clear h31
   refine CV.seq ?_
   refine CV.seq ?_
   refine CV.regionM [(0, .anywhere), (1, .anywhere), (2, .anywhere), (3, .anywhere), (4, .held), (5, .anywhere), (6, .anywhere), (7, .anywhere), (8, .held), (9, .held), (10, .held), (11, .held), (12, .held), (13, .held)] rfl (fun c a a' w hd hq => PanicOk.root (P := Tryz.prog) (fn := Tryz.f170) (w0 := w0) (base := base) (E := envE) (ro := ro) (r := r) (T' := T') (n' := n') (ρ0 := ρ0) c a a' w hd hq) (by kernel_rfl) ?_
   refine MV.step0 (i := 0) rfl (VAL.move rfl) rfl rfl rfl ?_
   refine MV.step0 (i := 1) rfl (VAL.move rfl) rfl rfl rfl ?_
   refine MV.lift0 (i := 2) rfl (V.nc h32 rfl) rfl rfl rfl fun x76_28 h33 => ?_
   refine MV.lift0 (i := 3) rfl (V.fa h33 rfl Rnf.fo168_3) rfl rfl rfl fun x77_29 h34 => ?_
   refine MV.lift1 (i := 4) rfl (fun _ z => z) (V.ld hS h34 rfl Rnf.one30) rfl rfl rfl [] (by kernel_rfl) fun x78_30 h35 => ?_
   refine MV.step0 (i := 5) rfl (VAL.move rfl) rfl rfl rfl ?_
   refine MV.lift0 (i := 6) rfl (V.nc h35 rfl) rfl rfl rfl fun x80_31 h36 => ?_
   refine MV.lift0 (i := 7) rfl (V.fa h36 rfl Rnf.fo168_3) rfl rfl rfl fun x81_32 h37 => ?_
   refine MV.lift1 (i := 8) rfl (fun _ z => z) (V.ld hS h37 rfl Rnf.one30) rfl rfl rfl [4] (by kernel_rfl) fun x82_33 h38 => ?_
   refine MV.lift1 (i := 9) rfl (fun _ z => z) (V.lenS h38 rfl Rnf.ls30) rfl rfl rfl [4] (by kernel_rfl) fun x83_34 h39 => ?_
   refine MV.lift1 (i := 10) rfl (fun _ z => z) (V.sub h39 rfl rfl) rfl rfl rfl [4] (by kernel_rfl) fun x84_35 h40 => ?_
   refine MV.lift1 (i := 11) rfl (fun _ z => z) (V.ia h40 rfl rfl Rnf.el30) rfl rfl rfl [] (by kernel_rfl) fun x85_36 h41 => ?_
   refine MV.lift1 (i := 12) rfl (fun _ z => z) (V.ld hS h41 rfl Rnf.one3) rfl rfl rfl [] (by kernel_rfl) fun x86_37 h42 => ?_
   refine MV.lift1 (i := 13) rfl (fun _ z => z) (V.lt h42 rfl rfl) rfl rfl rfl [] (by kernel_rfl) fun x87_38 h43 => ?_
   refine mdn ?_
   refine CV.cond h43 rfl (fun e h44 => ?_) (fun e h44 => ?_)
   ·
    clear h32 h33 h34 h35 h36 h37 h38 h39 h40 h41 h42 h43
    subst e
    refine CV.skip ?_
    refine PV.thenN ?_
    refine CV.block ?_
    refine CV.seq ?_
    refine CV.regionM [(0, .anywhere), (1, .anywhere), (2, .anywhere), (3, .anywhere), (4, .held), (5, .anywhere), (6, .anywhere), (7, .anywhere), (8, .held), (9, .held), (10, .held), (11, .held), (12, .held), (13, .held), (14, .alone)] rfl (fun c a a' w hd hq => PanicOk.root (P := Tryz.prog) (fn := Tryz.f170) (w0 := w0) (base := base) (E := envE) (ro := ro) (r := r) (T' := T') (n' := n') (ρ0 := ρ0) c a a' w hd hq) (by kernel_rfl) ?_
    refine MV.step0 (i := 0) rfl (VAL.move rfl) rfl rfl rfl ?_
    refine MV.step0 (i := 1) rfl (VAL.move rfl) rfl rfl rfl ?_
    refine MV.lift0 (i := 2) rfl (V.nc h44 rfl) rfl rfl rfl fun x90_39 h45 => ?_
    refine MV.lift0 (i := 3) rfl (V.fa h45 rfl Rnf.fo168_3) rfl rfl rfl fun x91_40 h46 => ?_
    refine MV.lift1 (i := 4) rfl (fun _ z => z) (V.ld hS h46 rfl Rnf.one30) rfl rfl rfl [] (by kernel_rfl) fun x92_41 h47 => ?_
    refine MV.step0 (i := 5) rfl (VAL.move rfl) rfl rfl rfl ?_
    refine MV.lift0 (i := 6) rfl (V.nc h47 rfl) rfl rfl rfl fun x94_42 h48 => ?_
    refine MV.lift0 (i := 7) rfl (V.fa h48 rfl Rnf.fo168_3) rfl rfl rfl fun x95_43 h49 => ?_
    refine MV.lift1 (i := 8) rfl (fun _ z => z) (V.ld hS h49 rfl Rnf.one30) rfl rfl rfl [4] (by kernel_rfl) fun x96_44 h50 => ?_
    refine MV.lift1 (i := 9) rfl (fun _ z => z) (V.lenS h50 rfl Rnf.ls30) rfl rfl rfl [4] (by kernel_rfl) fun x97_45 h51 => ?_
    refine MV.lift1 (i := 10) rfl (fun _ z => z) (V.sub h51 rfl rfl) rfl rfl rfl [4] (by kernel_rfl) fun x98_46 h52 => ?_
    refine MV.lift1 (i := 11) rfl (fun _ z => z) (V.cutHi hS h52 rfl rfl Rnf.el30) rfl rfl rfl [] (by kernel_rfl) fun x99_47 h53 => ?_
    refine MV.lift1 (i := 12) rfl (fun _ z => z) (V.nc h53 rfl) rfl rfl rfl [] (by kernel_rfl) fun x100_48 h54 => ?_
    refine MV.lift1 (i := 13) rfl (fun _ z => z) (V.fa h54 rfl Rnf.fo168_3) rfl rfl rfl [] (by kernel_rfl) fun x101_49 h55 => ?_
    refine MV.force (i := 14) rfl ?_
    refine LV.st hS h55 rfl rfl rfl Rnf.siz30 rfl rfl fun T4 its h56 hS => ?_
    refine LV.nextM [] (by kernel_rfl) (fun z => absurd rfl z) ?_
    refine mdn ?_
    refine CV.region ?_
    refine mv ?_
    refine mv ?_
    refine fl hS h56 Rnf.fo168_1 Rnf.one3 fun x106_50 h57 => ?_
    refine LV.call hS h57 (g98_ok _ _ _ _ _ _ _ ) hP rfl rfl rfl rfl fun x107_51 T5 n5 h58 ρ its hS => ?_
    refine LV.done ?_
    refine PV.blockN ?_
    exact pb3 hS h58 ⟨rfl, rfl, rfl, trivial⟩
   ·
    clear h32 h33 h34 h35 h36 h37 h38 h39 h40 h41 h42 h43
    subst e
    refine CV.exit ?_
    refine PV.thenE ?_
    refine PV.thenE ?_
    refine PV.blockE ?_
    refine PV.thenN ?_
    refine CV.seq ?_
    refine CV.seq ?_
    refine CV.regionM [(0, .anywhere), (1, .anywhere), (2, .anywhere), (3, .anywhere), (4, .held), (5, .anywhere), (6, .anywhere), (7, .anywhere), (8, .held), (9, .held), (10, .held), (11, .held), (12, .held), (13, .held)] rfl (fun c a a' w hd hq => PanicOk.root (P := Tryz.prog) (fn := Tryz.f170) (w0 := w0) (base := base) (E := envE) (ro := ro) (r := r) (T' := T') (n' := n') (ρ0 := ρ0) c a a' w hd hq) (by kernel_rfl) ?_
    refine MV.step0 (i := 0) rfl (VAL.move rfl) rfl rfl rfl ?_
    refine MV.step0 (i := 1) rfl (VAL.move rfl) rfl rfl rfl ?_
    refine MV.lift0 (i := 2) rfl (V.nc h44 rfl) rfl rfl rfl fun x110_52 h59 => ?_
    refine MV.lift0 (i := 3) rfl (V.fa h59 rfl Rnf.fo168_3) rfl rfl rfl fun x111_53 h60 => ?_
    refine MV.lift1 (i := 4) rfl (fun _ z => z) (V.ld hS h60 rfl Rnf.one30) rfl rfl rfl [] (by kernel_rfl) fun x112_54 h61 => ?_
    refine MV.step0 (i := 5) rfl (VAL.move rfl) rfl rfl rfl ?_
    refine MV.lift0 (i := 6) rfl (V.nc h61 rfl) rfl rfl rfl fun x114_55 h62 => ?_
    refine MV.lift0 (i := 7) rfl (V.fa h62 rfl Rnf.fo168_3) rfl rfl rfl fun x115_56 h63 => ?_
    refine MV.lift1 (i := 8) rfl (fun _ z => z) (V.ld hS h63 rfl Rnf.one30) rfl rfl rfl [4] (by kernel_rfl) fun x116_57 h64 => ?_
    refine MV.lift1 (i := 9) rfl (fun _ z => z) (V.lenS h64 rfl Rnf.ls30) rfl rfl rfl [4] (by kernel_rfl) fun x117_58 h65 => ?_
    refine MV.lift1 (i := 10) rfl (fun _ z => z) (V.sub h65 rfl rfl) rfl rfl rfl [4] (by kernel_rfl) fun x118_59 h66 => ?_
    refine MV.lift1 (i := 11) rfl (fun _ z => z) (V.ia h66 rfl rfl Rnf.el30) rfl rfl rfl [] (by kernel_rfl) fun x119_60 h67 => ?_
    refine MV.lift1 (i := 12) rfl (fun _ z => z) (V.ld hS h67 rfl Rnf.one3) rfl rfl rfl [] (by kernel_rfl) fun x120_61 h68 => ?_
    refine MV.lift1 (i := 13) rfl (fun _ z => z) (V.ne h68 rfl rfl) rfl rfl rfl [] (by kernel_rfl) fun x121_62 h69 => ?_
    refine mdn ?_
    refine CV.cond h69 rfl (fun e h70 => ?_) (fun e h70 => ?_)
    ·
     clear h44 h59 h60 h61 h62 h63 h64 h65 h66 h67 h68 h69
     subst e
     cases h70
    ·
     clear h44 h59 h60 h61 h62 h63 h64 h65 h66 h67 h68 h69
     subst e
     refine CV.skip ?_
     refine PV.thenN ?_
     refine sr ?_
     refine as_ ?_
     refine dn ?_
     refine CV.ret ?_
     cases h70
     exact PV.ret (by simp) Tryz.results170 hS (RS.tmp rfl RS.nil) rfl
noncomputable def g106 (ro : List HT) (T : HT) (nx : Nat) : R :=
 bsK 1060002 T nx 17 9 1 [(0, (.lit (.string ⟨⟨[70, 97, 108, 115, 101]⟩⟩))), (1, (.lit (.string ⟨⟨[78, 111, 110, 101]⟩⟩))), (2, (.lit (.string ⟨⟨[84, 114, 117, 101]⟩⟩))), (3, (.lit (.string ⟨⟨[97, 110, 100]⟩⟩))), (4, (.lit (.string ⟨⟨[98, 114, 101, 97, 107]⟩⟩))), (5, (.lit (.string ⟨⟨[99, 111, 110, 116, 105, 110, 117, 101]⟩⟩))), (6, (.lit (.string ⟨⟨[100, 101, 102]⟩⟩))), (7, (.lit (.string ⟨⟨[101, 108, 105, 102]⟩⟩))), (8, (.lit (.string ⟨⟨[101, 108, 115, 101]⟩⟩))), (9, (.lit (.string ⟨⟨[102, 111, 114]⟩⟩))), (10, (.lit (.string ⟨⟨[105, 102]⟩⟩))), (11, (.lit (.string ⟨⟨[105, 110]⟩⟩))), (12, (.lit (.string ⟨⟨[108, 111, 97, 100]⟩⟩))), (13, (.lit (.string ⟨⟨[110, 111, 116]⟩⟩))), (14, (.lit (.string ⟨⟨[111, 114]⟩⟩))), (15, (.lit (.string ⟨⟨[112, 97, 115, 115]⟩⟩))), (16, (.lit (.string ⟨⟨[114, 101, 116, 117, 114, 110]⟩⟩)))] fun x1_1 T1 n1 =>
 .ok (.val x1_1) T1 n1
theorem g106_ok (ro : List HT) (T : HT) (nx : Nat) : GOk Tryz.prog envE 106 [] ro T nx (g106 ro T nx) := by
 refine GOk.of_body Tryz.func106 rfl Tryz.ntmps106 (by kernel_rfl) rfl fun r T' n' h1 w0 base ρ0 its hS hP => ?_
 have X : CtxW envE ρ0 ro r T' n' := trivial
 unfold g106 at h1
 refine sr ?_
 refine as_ ?_
 refine dn ?_
 refine sr ?_
 refine LV.bslice hS h1 rfl rfl Rnf.el46 rfl rfl rfl rfl fun x1_1 T1 n1 h2 ρ its hS hdr => ?_
 refine as_ ?_
 refine dn ?_
 refine CV.ret ?_
 cases h2
 exact PV.ret (by simp) Tryz.results106 hS (RS.tmp rfl RS.nil) rfl
noncomputable def g171_k2 (ro : List HT) (lp1 : AV → AV → HT → Nat → R) (y0 y2 y41 : AV) (T2 : HT) (n2 : Nat) : R :=
 condK 1710005 y41
 (
  fldK 1710007 T2 ro y0 1 fun x45_2 =>
  addK Tryz.prog 3 (.tmp 45) (.const (.int .i64 (.ofNat 1))) 1710008 x45_2 (.lit (.int .i64 (.ofNat 1))) fun x46_3 =>
  faK 1710009 y0 1 fun x48_4 =>
  stK 1710010 T2 x48_4 x46_3 fun T3 =>
  lp1 y0 y2 T3 n2
 )
 (
  ncK 1710012 y0 fun x50_5 =>
  faK 1710013 x50_5 0 fun x51_6 =>
  ldK 1710014 T2 ro x51_6 fun x52_7 =>
  ncK 1710017 y0 fun x55_8 =>
  faK 1710018 x55_8 1 fun x56_9 =>
  ldK 1710019 T2 ro x56_9 fun x57_10 =>
  sliceF 1710020 x52_7 (some y2) (some x57_10) fun x58_11 =>
  callK (g106 ro T2 n2) fun x59_12 T4 n4 =>
  callK (g87 ro x59_12 x58_11 T4 n4) fun x61_13 T5 n5 =>
  condK 1710025 x61_13
  (
   callK (g98 ro y0 (.lit (.int .i64 (.ofNat 4))) x58_11 y2 T5 n5) fun x65_14 T6 n6 =>
   .ok (.val (.tup [])) T6 n6
  )
  (
   callK (g98 ro y0 (.lit (.int .i64 (.ofNat 1))) x58_11 y2 T5 n5) fun x69_15 T7 n7 =>
   .ok (.val (.tup [])) T7 n7
  )
 )
noncomputable def g171_b1 (ro : List HT) (lp1 : AV → AV → HT → Nat → R) (y0 y2 : AV) (T1 : HT) (n1 : Nat) : R :=
 ncK 1710035 y0 fun x9_16 =>
 faK 1710036 x9_16 1 fun x10_17 =>
 ldK 1710037 T1 ro x10_17 fun x11_18 =>
 ncK 1710039 y0 fun x13_19 =>
 faK 1710040 x13_19 0 fun x14_20 =>
 ldK 1710041 T1 ro x14_20 fun x15_21 =>
 lenTK 1710042 x15_21 fun x16_22 =>
 ltK Tryz.prog 3 (.tmp 11) (.tmp 16) 1710043 x11_18 x16_22 fun x17_23 =>
 condK 1710045 x17_23
 (
  ncK 1710047 y0 fun x20_24 =>
  faK 1710048 x20_24 0 fun x21_25 =>
  ldK 1710049 T1 ro x21_25 fun x22_26 =>
  ncK 1710051 y0 fun x24_27 =>
  faK 1710052 x24_27 1 fun x25_28 =>
  ldK 1710053 T1 ro x25_28 fun x26_29 =>
  ixK 1710054 x22_26 x26_29 fun x27_30 =>
  callQ 1710055 (g104 (T1 :: ro) x27_30 .nil n1) fun x28_31 =>
  condK 1710057 x28_31
  (
   g171_k2 ro lp1 y0 y2 (.lit (.bool true)) T1 n1
  )
  (
   ncK 1710061 y0 fun x31_32 =>
   faK 1710062 x31_32 0 fun x32_33 =>
   ldK 1710063 T1 ro x32_33 fun x33_34 =>
   ncK 1710065 y0 fun x35_35 =>
   faK 1710066 x35_35 1 fun x36_36 =>
   ldK 1710067 T1 ro x36_36 fun x37_37 =>
   ixK 1710068 x33_34 x37_37 fun x38_38 =>
   callQ 1710069 (g105 (T1 :: ro) x38_38 .nil n1) fun x39_39 =>
   g171_k2 ro lp1 y0 y2 x39_39 T1 n1
  )
 )
 (
  g171_k2 ro lp1 y0 y2 (.lit (.bool false)) T1 n1
 )
noncomputable def g171 (ro : List HT) (a0 : AV) (T : HT) (nx : Nat) : R :=
 fldK 1710002 T ro a0 1 fun x7_1 =>
 lpf2 1710004 (g171_b1 ro) 100000 a0 x7_1 T nx
theorem g171_ok (ro : List HT) (a0 : AV) (T : HT) (nx : Nat) : GOk Tryz.prog envE 171 [a0] ro T nx (g171 ro a0 T nx) := by
 refine GOk.of_body Tryz.func171 rfl Tryz.ntmps171 (by kernel_rfl) rfl fun r T' n' h1 w0 base ρ0 its hS hP => ?_
 have X : CtxW envE ρ0 ro r T' n' := trivial
 unfold g171 at h1
 refine sr ?_
 refine mv ?_
 refine fl hS h1 Rnf.fo168_1 Rnf.one3 fun x7_1 h2 => ?_
 refine as_ ?_
 refine dn ?_
 refine CV.seq ?_
 refine CV.block ?_
 refine cl2 X 0 2 [] hS h2 ⟨rfl, rfl, trivial⟩ ?_
 intro f1 y0 y2 T1 n1 ρ its hS h3
 unfold g171_b1 at h3
 clear h1 h2
 refine CV.seq ?_
 refine cs3 X 0 2 41 [] (g171_k2 ro (lpf2 1710004 (g171_b1 ro) f1)) ?_ ?_
 ·
  refine CV.regionM [(0, .anywhere), (1, .anywhere), (2, .anywhere), (3, .held), (4, .anywhere), (5, .anywhere), (6, .anywhere), (7, .held), (8, .held), (9, .held), (10, .held), (11, .held), (12, .held), (13, .held), (14, .held), (15, .anywhere), (16, .anywhere), (17, .anywhere), (18, .held), (19, .held), (20, .alone), (21, .anywhere), (22, .anywhere), (23, .anywhere), (24, .anywhere), (25, .held), (26, .anywhere), (27, .anywhere), (28, .anywhere), (29, .held), (30, .held), (31, .alone), (32, .anywhere), (33, .anywhere)] rfl (fun c a a' w hd hq => PanicOk.root (P := Tryz.prog) (fn := Tryz.f171) (w0 := w0) (base := base) (E := envE) (ro := ro) (r := r) (T' := T') (n' := n') (ρ0 := ρ0) c a a' w hd hq) (by kernel_rfl) ?_
  refine MV.step0 (i := 0) rfl (VAL.move rfl) rfl rfl rfl ?_
  refine MV.lift0 (i := 1) rfl (V.nc h3 rfl) rfl rfl rfl fun x9_16 h22 => ?_
  refine MV.lift0 (i := 2) rfl (V.fa h22 rfl Rnf.fo168_1) rfl rfl rfl fun x10_17 h23 => ?_
  refine MV.lift1 (i := 3) rfl (fun _ z => z) (V.ld hS h23 rfl Rnf.one3) rfl rfl rfl [] (by kernel_rfl) fun x11_18 h24 => ?_
  refine MV.step0 (i := 4) rfl (VAL.move rfl) rfl rfl rfl ?_
  refine MV.lift0 (i := 5) rfl (V.nc h24 rfl) rfl rfl rfl fun x13_19 h25 => ?_
  refine MV.lift0 (i := 6) rfl (V.fa h25 rfl Rnf.fo168_0) rfl rfl rfl fun x14_20 h26 => ?_
  refine MV.lift1 (i := 7) rfl (fun _ z => z) (V.ld hS h26 rfl Rnf.one9) rfl rfl rfl [3] (by kernel_rfl) fun x15_21 h27 => ?_
  refine MV.lift1 (i := 8) rfl (fun _ z => z) (V.lenT h27 rfl Rnf.ls9) rfl rfl rfl [3] (by kernel_rfl) fun x16_22 h28 => ?_
  refine MV.lift1 (i := 9) rfl (fun _ z => z) (V.lt h28 rfl rfl) rfl rfl rfl [] (by kernel_rfl) fun x17_23 h29 => ?_
  refine MV.step1 (i := 10) rfl (fun _ z => z) (VAL.move rfl) rfl rfl rfl [] (by kernel_rfl) ?_
  rcases condK_inv h29 with ⟨e, h30⟩ | ⟨e, h30⟩
  ·
   clear h3 h22 h23 h24 h25 h26 h27 h28 h29
   subst e
   refine MV.step1 (i := 11) rfl (fun _ z => z) (VAL.move rfl) rfl rfl rfl [] (by kernel_rfl) ?_
   refine MV.lift1 (i := 12) rfl (fun _ z => z) (V.nc h30 rfl) rfl rfl rfl [] (by kernel_rfl) fun x20_24 h31 => ?_
   refine MV.lift1 (i := 13) rfl (fun _ z => z) (V.fa h31 rfl Rnf.fo168_0) rfl rfl rfl [] (by kernel_rfl) fun x21_25 h32 => ?_
   refine MV.lift1 (i := 14) rfl (fun _ z => z) (V.ld hS h32 rfl Rnf.one9) rfl rfl rfl [] (by kernel_rfl) fun x22_26 h33 => ?_
   refine MV.step0 (i := 15) rfl (VAL.move rfl) rfl rfl rfl ?_
   refine MV.lift0 (i := 16) rfl (V.nc h33 rfl) rfl rfl rfl fun x24_27 h34 => ?_
   refine MV.lift0 (i := 17) rfl (V.fa h34 rfl Rnf.fo168_1) rfl rfl rfl fun x25_28 h35 => ?_
   refine MV.lift1 (i := 18) rfl (fun _ z => z) (V.ld hS h35 rfl Rnf.one3) rfl rfl rfl [14] (by kernel_rfl) fun x26_29 h36 => ?_
   refine MV.lift1 (i := 19) rfl (fun _ z => z) (V.ix h36 rfl rfl Rnf.st9) rfl rfl rfl [] (by kernel_rfl) fun x27_30 h37 => ?_
   refine MV.force (i := 20) rfl ?_
   refine LV.callQ hS h37 (g104_ok _ _ _ _ ) rfl rfl rfl rfl fun x28_31 h38 => ?_
   refine LV.nextM [] (by kernel_rfl) (fun z => absurd rfl z) ?_
   refine MV.step0 (i := 21) rfl (VAL.move rfl) rfl rfl rfl ?_
   rcases condK_inv h38 with ⟨e, h39⟩ | ⟨e, h39⟩
   ·
    clear h30 h31 h32 h33 h34 h35 h36 h37 h38
    subst e
    refine MV.skip0 (i := 22) rfl rfl rfl rfl ?_
    refine MV.skip0 (i := 23) rfl rfl rfl rfl ?_
    refine MV.skip0 (i := 24) rfl rfl rfl rfl ?_
    refine MV.skip1 (i := 25) rfl (fun _ z => z) rfl rfl rfl [] (by kernel_rfl) ?_
    refine MV.skip0 (i := 26) rfl rfl rfl rfl ?_
    refine MV.skip0 (i := 27) rfl rfl rfl rfl ?_
    refine MV.skip0 (i := 28) rfl rfl rfl rfl ?_
    refine MV.skip1 (i := 29) rfl (fun _ z => z) rfl rfl rfl [25] (by kernel_rfl) ?_
    refine MV.skip1 (i := 30) rfl (fun _ z => z) rfl rfl rfl [] (by kernel_rfl) ?_
    refine MV.force (i := 31) rfl ?_
    refine sk ?_
    refine LV.nextM [] (by kernel_rfl) (fun z => absurd rfl z) ?_
    refine MV.step0 (i := 32) rfl (VAL.pure rfl) rfl rfl rfl ?_
    refine MV.step0 (i := 33) rfl (VAL.pure rfl) rfl rfl rfl ?_
    refine MV.done ?_
    exact pa3 hS h39 ⟨rfl, rfl, rfl, trivial⟩
   ·
    clear h30 h31 h32 h33 h34 h35 h36 h37 h38
    subst e
    refine MV.step0 (i := 22) rfl (VAL.move rfl) rfl rfl rfl ?_
    refine MV.lift0 (i := 23) rfl (V.nc h39 rfl) rfl rfl rfl fun x31_32 h40 => ?_
    refine MV.lift0 (i := 24) rfl (V.fa h40 rfl Rnf.fo168_0) rfl rfl rfl fun x32_33 h41 => ?_
    refine MV.lift1 (i := 25) rfl (fun _ z => z) (V.ld hS h41 rfl Rnf.one9) rfl rfl rfl [] (by kernel_rfl) fun x33_34 h42 => ?_
    refine MV.step0 (i := 26) rfl (VAL.move rfl) rfl rfl rfl ?_
    refine MV.lift0 (i := 27) rfl (V.nc h42 rfl) rfl rfl rfl fun x35_35 h43 => ?_
    refine MV.lift0 (i := 28) rfl (V.fa h43 rfl Rnf.fo168_1) rfl rfl rfl fun x36_36 h44 => ?_
    refine MV.lift1 (i := 29) rfl (fun _ z => z) (V.ld hS h44 rfl Rnf.one3) rfl rfl rfl [25] (by kernel_rfl) fun x37_37 h45 => ?_
    refine MV.lift1 (i := 30) rfl (fun _ z => z) (V.ix h45 rfl rfl Rnf.st9) rfl rfl rfl [] (by kernel_rfl) fun x38_38 h46 => ?_
    refine MV.force (i := 31) rfl ?_
    refine LV.callQ hS h46 (g105_ok _ _ _ _ ) rfl rfl rfl rfl fun x39_39 h47 => ?_
    refine LV.nextM [] (by kernel_rfl) (fun z => absurd rfl z) ?_
    refine MV.step0 (i := 32) rfl (VAL.pure rfl) rfl rfl rfl ?_
    refine MV.step0 (i := 33) rfl (VAL.pure rfl) rfl rfl rfl ?_
    refine MV.done ?_
    exact pa3 hS h47 ⟨rfl, rfl, rfl, trivial⟩
  ·
   clear h3 h22 h23 h24 h25 h26 h27 h28 h29
   subst e
   refine MV.skip1 (i := 11) rfl (fun _ z => z) rfl rfl rfl [] (by kernel_rfl) ?_
   refine MV.skip1 (i := 12) rfl (fun _ z => z) rfl rfl rfl [] (by kernel_rfl) ?_
   refine MV.skip1 (i := 13) rfl (fun _ z => z) rfl rfl rfl [] (by kernel_rfl) ?_
   refine MV.skip1 (i := 14) rfl (fun _ z => z) rfl rfl rfl [] (by kernel_rfl) ?_
   refine MV.skip0 (i := 15) rfl rfl rfl rfl ?_
   refine MV.skip0 (i := 16) rfl rfl rfl rfl ?_
   refine MV.skip0 (i := 17) rfl rfl rfl rfl ?_
   refine MV.skip1 (i := 18) rfl (fun _ z => z) rfl rfl rfl [14] (by kernel_rfl) ?_
   refine MV.skip1 (i := 19) rfl (fun _ z => z) rfl rfl rfl [] (by kernel_rfl) ?_
   refine MV.force (i := 20) rfl ?_
   refine sk ?_
   refine LV.nextM [] (by kernel_rfl) (fun z => absurd rfl z) ?_
   refine MV.skip0 (i := 21) rfl rfl rfl rfl ?_
   refine MV.skip0 (i := 22) rfl rfl rfl rfl ?_
   refine MV.skip0 (i := 23) rfl rfl rfl rfl ?_
   refine MV.skip0 (i := 24) rfl rfl rfl rfl ?_
   refine MV.skip1 (i := 25) rfl (fun _ z => z) rfl rfl rfl [] (by kernel_rfl) ?_
   refine MV.skip0 (i := 26) rfl rfl rfl rfl ?_
   refine MV.skip0 (i := 27) rfl rfl rfl rfl ?_
   refine MV.skip0 (i := 28) rfl rfl rfl rfl ?_
   refine MV.skip1 (i := 29) rfl (fun _ z => z) rfl rfl rfl [25] (by kernel_rfl) ?_
   refine MV.skip1 (i := 30) rfl (fun _ z => z) rfl rfl rfl [] (by kernel_rfl) ?_
   refine MV.force (i := 31) rfl ?_
   refine sk ?_
   refine LV.nextM [] (by kernel_rfl) (fun z => absurd rfl z) ?_
   refine MV.skip0 (i := 32) rfl rfl rfl rfl ?_
   refine MV.step0 (i := 33) rfl (VAL.pure rfl) rfl rfl rfl ?_
   refine MV.done ?_
   exact pa3 hS h30 ⟨rfl, rfl, rfl, trivial⟩
 ·
  intro y0 y2 y41 T2 n2 ρ its hS h4
  unfold g171_k2 at h4
  clear h3
  refine CV.cond h4 rfl (fun e h5 => ?_) (fun e h5 => ?_)
  ·
   clear h4
   subst e
   refine CV.skip ?_
   refine PV.thenN ?_
   refine CV.block ?_
   refine CV.region ?_
   refine mv ?_
   refine fl hS h5 Rnf.fo168_1 Rnf.one3 fun x45_2 h6 => ?_
   refine vy (V.add h6 rfl rfl) fun x46_3 h7 => ?_
   refine fa2 h7 Rnf.fo168_1 fun x48_4 h8 => ?_
   refine LV.st hS h8 rfl rfl rfl Rnf.siz3 rfl rfl fun T3 its h9 hS => ?_
   refine LV.done ?_
   refine PV.blockN ?_
   exact pb2 hS h9 ⟨rfl, rfl, trivial⟩
  ·
   clear h4
   subst e
   refine CV.exit ?_
   refine PV.thenE ?_
   refine PV.thenE ?_
   refine PV.blockE ?_
   refine PV.thenN ?_
   refine CV.seq ?_
   refine CV.regionM [(0, .anywhere), (1, .anywhere), (2, .anywhere), (3, .held), (4, .anywhere), (5, .anywhere), (6, .anywhere), (7, .anywhere), (8, .held), (9, .held), (10, .held)] rfl (fun c a a' w hd hq => PanicOk.root (P := Tryz.prog) (fn := Tryz.f171) (w0 := w0) (base := base) (E := envE) (ro := ro) (r := r) (T' := T') (n' := n') (ρ0 := ρ0) c a a' w hd hq) (by kernel_rfl) ?_
   refine MV.step0 (i := 0) rfl (VAL.move rfl) rfl rfl rfl ?_
   refine MV.lift0 (i := 1) rfl (V.nc h5 rfl) rfl rfl rfl fun x50_5 h10 => ?_
   refine MV.lift0 (i := 2) rfl (V.fa h10 rfl Rnf.fo168_0) rfl rfl rfl fun x51_6 h11 => ?_
   refine MV.lift1 (i := 3) rfl (fun _ z => z) (V.ld hS h11 rfl Rnf.one9) rfl rfl rfl [] (by kernel_rfl) fun x52_7 h12 => ?_
   refine MV.step0 (i := 4) rfl (VAL.move rfl) rfl rfl rfl ?_
   refine MV.step0 (i := 5) rfl (VAL.move rfl) rfl rfl rfl ?_
   refine MV.lift0 (i := 6) rfl (V.nc h12 rfl) rfl rfl rfl fun x55_8 h13 => ?_
   refine MV.lift0 (i := 7) rfl (V.fa h13 rfl Rnf.fo168_1) rfl rfl rfl fun x56_9 h14 => ?_
   refine MV.lift1 (i := 8) rfl (fun _ z => z) (V.ld hS h14 rfl Rnf.one3) rfl rfl rfl [3] (by kernel_rfl) fun x57_10 h15 => ?_
   refine MV.lift1 (i := 9) rfl (fun _ z => z) (V.slBo (sliceF_ok h15) rfl rfl rfl Rnf.st9) rfl rfl rfl [] (by kernel_rfl) fun x58_11 h16 => ?_
   refine MV.step1 (i := 10) rfl (fun _ z => z) (VAL.assign rfl) rfl rfl rfl [] (by kernel_rfl) ?_
   refine mdn ?_
   refine CV.seq ?_
   refine sr ?_
   refine LV.call hS h16 (g106_ok _ _ _ ) hP rfl rfl rfl rfl fun x59_12 T4 n4 h17 ρ its hS => ?_
   refine mv ?_
   refine LV.call hS h17 (g87_ok _ _ _ _ _ ) hP rfl rfl rfl rfl fun x61_13 T5 n5 h18 ρ its hS => ?_
   refine dn ?_
   refine CV.cond h18 rfl (fun e h19 => ?_) (fun e h19 => ?_)
   ·
    clear h5 h10 h11 h12 h13 h14 h15 h16 h17 h18
    subst e
    refine sr ?_
    refine mv ?_
    refine mv ?_
    refine mv ?_
    refine LV.call hS h19 (g98_ok _ _ _ _ _ _ _ ) hP rfl rfl rfl rfl fun x65_14 T6 n6 h20 ρ its hS => ?_
    refine dn ?_
    refine CV.ret ?_
    refine PV.thenR ?_
    cases h20
    exact PV.ret (by simp) Tryz.results171 hS RS.nil rfl
   ·
    clear h5 h10 h11 h12 h13 h14 h15 h16 h17 h18
    subst e
    refine CV.skip ?_
    refine PV.thenN ?_
    refine CV.region ?_
    refine mv ?_
    refine mv ?_
    refine mv ?_
    refine LV.call hS h19 (g98_ok _ _ _ _ _ _ _ ) hP rfl rfl rfl rfl fun x69_15 T7 n7 h21 ρ its hS => ?_
    refine LV.done ?_
    cases h21
    exact PV.ret (by simp) Tryz.results171 hS RS.nil rfl
noncomputable def g172_k3 (ro : List HT) (y0 y2 y3 y4 y84 : AV) (T5 : HT) (n5 : Nat) : R :=
 condK 1720039 y84
 (
  .bad 1720040
 )
 (
  callK (g98 ro y0 (.lit (.int .i64 (.ofNat 2))) y4 y3 T5 n5) fun x90_22 T6 n6 =>
  .ok (.val (.lit (.nilIface))) T6 n6
 )
noncomputable def g172_k4 (ro : List HT) (y0 y2 y3 y4 y83 : AV) (T7 : HT) (n7 : Nat) : R :=
 g172_k3 ro y0 y2 y3 y4 y83 T7 n7
noncomputable def g172_k2 (ro : List HT) (lp1 : AV → AV → AV → HT → Nat → R) (y0 y2 y3 y42 : AV) (T2 : HT) (n2 : Nat) : R :=
 condK 1720006 y42
 (
  ncK 1720008 y0 fun x44_2 =>
  faK 1720009 x44_2 0 fun x45_3 =>
  ldK 1720010 T2 ro x45_3 fun x46_4 =>
  ncK 1720012 y0 fun x48_5 =>
  faK 1720013 x48_5 1 fun x49_6 =>
  ldK 1720014 T2 ro x49_6 fun x50_7 =>
  ixK 1720015 x46_4 x50_7 fun x51_8 =>
  callK (g104 ro x51_8 T2 n2) fun x52_9 T3 n3 =>
  condK 1720017 x52_9
  (
   .bad 1720018
  )
  (
   fldK 1720020 T3 ro y0 1 fun x58_10 =>
   addK Tryz.prog 3 (.tmp 58) (.const (.int .i64 (.ofNat 1))) 1720021 x58_10 (.lit (.int .i64 (.ofNat 1))) fun x59_11 =>
   faK 1720022 y0 1 fun x61_12 =>
   stK 1720023 T3 x61_12 x59_11 fun T4 =>
   lp1 y0 y2 y3 T4 n3
  )
 )
 (
  ncK 1720025 y0 fun x63_13 =>
  faK 1720026 x63_13 0 fun x64_14 =>
  ldK 1720027 T2 ro x64_14 fun x65_15 =>
  ncK 1720030 y0 fun x68_16 =>
  faK 1720031 x68_16 1 fun x69_17 =>
  ldK 1720032 T2 ro x69_17 fun x70_18 =>
  sliceF 1720033 x65_15 (some y3) (some x70_18) fun x71_19 =>
  lenTK 1720036 x71_19 fun x73_20 =>
  gtK Tryz.prog 3 (.tmp 73) (.const (.int .i64 (.ofNat 600))) 1720037 x73_20 (.lit (.int .i64 (.ofNat 600))) fun x74_21 =>
  condK 1720046 x74_21
  (
   g172_k3 ro y0 y2 y3 x71_19 (.lit (.bool true)) T2 n2
  )
  (
   ixK 1720049 x71_19 (.lit (.int .i64 (.ofNat 0))) fun x77_23 =>
   eqK Tryz.prog 5 (.tmp 77) (.const (.int .u8 (.ofNat 48))) 1720050 x77_23 (.lit (.int .u8 (.ofNat 48))) fun x78_24 =>
   condK 1720053 x78_24
   (
    lenTK 1720055 x71_19 fun x81_25 =>
    gtK Tryz.prog 3 (.tmp 81) (.const (.int .i64 (.ofNat 1))) 1720056 x81_25 (.lit (.int .i64 (.ofNat 1))) fun x82_26 =>
    g172_k4 ro y0 y2 y3 x71_19 x82_26 T2 n2
   )
   (
    g172_k4 ro y0 y2 y3 x71_19 (.lit (.bool false)) T2 n2
   )
  )
 )
noncomputable def g172_b1 (ro : List HT) (lp1 : AV → AV → AV → HT → Nat → R) (y0 y2 y3 : AV) (T1 : HT) (n1 : Nat) : R :=
 ncK 1720060 y0 fun x10_27 =>
 faK 1720061 x10_27 1 fun x11_28 =>
 ldK 1720062 T1 ro x11_28 fun x12_29 =>
 ncK 1720064 y0 fun x14_30 =>
 faK 1720065 x14_30 0 fun x15_31 =>
 ldK 1720066 T1 ro x15_31 fun x16_32 =>
 lenTK 1720067 x16_32 fun x17_33 =>
 ltK Tryz.prog 3 (.tmp 12) (.tmp 17) 1720068 x12_29 x17_33 fun x18_34 =>
 condK 1720070 x18_34
 (
  ncK 1720072 y0 fun x21_35 =>
  faK 1720073 x21_35 0 fun x22_36 =>
  ldK 1720074 T1 ro x22_36 fun x23_37 =>
  ncK 1720076 y0 fun x25_38 =>
  faK 1720077 x25_38 1 fun x26_39 =>
  ldK 1720078 T1 ro x26_39 fun x27_40 =>
  ixK 1720079 x23_37 x27_40 fun x28_41 =>
  callQ 1720080 (g104 (T1 :: ro) x28_41 .nil n1) fun x29_42 =>
  condK 1720082 x29_42
  (
   g172_k2 ro lp1 y0 y2 y3 (.lit (.bool true)) T1 n1
  )
  (
   ncK 1720086 y0 fun x32_43 =>
   faK 1720087 x32_43 0 fun x33_44 =>
   ldK 1720088 T1 ro x33_44 fun x34_45 =>
   ncK 1720090 y0 fun x36_46 =>
   faK 1720091 x36_46 1 fun x37_47 =>
   ldK 1720092 T1 ro x37_47 fun x38_48 =>
   ixK 1720093 x34_45 x38_48 fun x39_49 =>
   callQ 1720094 (g105 (T1 :: ro) x39_49 .nil n1) fun x40_50 =>
   g172_k2 ro lp1 y0 y2 y3 x40_50 T1 n1
  )
 )
 (
  g172_k2 ro lp1 y0 y2 y3 (.lit (.bool false)) T1 n1
 )
noncomputable def g172 (ro : List HT) (a0 : AV) (T : HT) (nx : Nat) : R :=
 fldK 1720003 T ro a0 1 fun x8_1 =>
 lpf3 1720005 (g172_b1 ro) 100000 a0 (.lit (.nilIface)) x8_1 T nx
theorem g172_ok (ro : List HT) (a0 : AV) (T : HT) (nx : Nat) : GOk Tryz.prog envE 172 [a0] ro T nx (g172 ro a0 T nx) := by
 refine GOk.of_body Tryz.func172 rfl Tryz.ntmps172 (by kernel_rfl) rfl fun r T' n' h1 w0 base ρ0 its hS hP => ?_
 have X : CtxW envE ρ0 ro r T' n' := trivial
 unfold g172 at h1
 refine sr ?_
 refine as_ ?_
 refine dn ?_
 refine sr ?_
 refine mv ?_
 refine fl hS h1 Rnf.fo168_1 Rnf.one3 fun x8_1 h2 => ?_
 refine as_ ?_
 refine dn ?_
 refine CV.seq ?_
 refine CV.block ?_
 refine cl3 X 0 2 3 [] hS h2 ⟨rfl, rfl, rfl, trivial⟩ ?_
 intro f1 y0 y2 y3 T1 n1 ρ its hS h3
 unfold g172_b1 at h3
 clear h1 h2
 refine CV.seq ?_
 refine cs4 X 0 2 3 42 [] (g172_k2 ro (lpf3 1720005 (g172_b1 ro) f1)) ?_ ?_
 ·
  refine CV.regionM [(0, .anywhere), (1, .anywhere), (2, .anywhere), (3, .held), (4, .anywhere), (5, .anywhere), (6, .anywhere), (7, .held), (8, .held), (9, .held), (10, .held), (11, .held), (12, .held), (13, .held), (14, .held), (15, .anywhere), (16, .anywhere), (17, .anywhere), (18, .held), (19, .held), (20, .alone), (21, .anywhere), (22, .anywhere), (23, .anywhere), (24, .anywhere), (25, .held), (26, .anywhere), (27, .anywhere), (28, .anywhere), (29, .held), (30, .held), (31, .alone), (32, .anywhere), (33, .anywhere)] rfl (fun c a a' w hd hq => PanicOk.root (P := Tryz.prog) (fn := Tryz.f172) (w0 := w0) (base := base) (E := envE) (ro := ro) (r := r) (T' := T') (n' := n') (ρ0 := ρ0) c a a' w hd hq) (by kernel_rfl) ?_
  refine MV.step0 (i := 0) rfl (VAL.move rfl) rfl rfl rfl ?_
  refine MV.lift0 (i := 1) rfl (V.nc h3 rfl) rfl rfl rfl fun x10_27 h38 => ?_
  refine MV.lift0 (i := 2) rfl (V.fa h38 rfl Rnf.fo168_1) rfl rfl rfl fun x11_28 h39 => ?_
  refine MV.lift1 (i := 3) rfl (fun _ z => z) (V.ld hS h39 rfl Rnf.one3) rfl rfl rfl [] (by kernel_rfl) fun x12_29 h40 => ?_
  refine MV.step0 (i := 4) rfl (VAL.move rfl) rfl rfl rfl ?_
  refine MV.lift0 (i := 5) rfl (V.nc h40 rfl) rfl rfl rfl fun x14_30 h41 => ?_
  refine MV.lift0 (i := 6) rfl (V.fa h41 rfl Rnf.fo168_0) rfl rfl rfl fun x15_31 h42 => ?_
  refine MV.lift1 (i := 7) rfl (fun _ z => z) (V.ld hS h42 rfl Rnf.one9) rfl rfl rfl [3] (by kernel_rfl) fun x16_32 h43 => ?_
  refine MV.lift1 (i := 8) rfl (fun _ z => z) (V.lenT h43 rfl Rnf.ls9) rfl rfl rfl [3] (by kernel_rfl) fun x17_33 h44 => ?_
  refine MV.lift1 (i := 9) rfl (fun _ z => z) (V.lt h44 rfl rfl) rfl rfl rfl [] (by kernel_rfl) fun x18_34 h45 => ?_
  refine MV.step1 (i := 10) rfl (fun _ z => z) (VAL.move rfl) rfl rfl rfl [] (by kernel_rfl) ?_
  rcases condK_inv h45 with ⟨e, h46⟩ | ⟨e, h46⟩
  ·
   clear h3 h38 h39 h40 h41 h42 h43 h44 h45
   subst e
   refine MV.step1 (i := 11) rfl (fun _ z => z) (VAL.move rfl) rfl rfl rfl [] (by kernel_rfl) ?_
   refine MV.lift1 (i := 12) rfl (fun _ z => z) (V.nc h46 rfl) rfl rfl rfl [] (by kernel_rfl) fun x21_35 h47 => ?_
   refine MV.lift1 (i := 13) rfl (fun _ z => z) (V.fa h47 rfl Rnf.fo168_0) rfl rfl rfl [] (by kernel_rfl) fun x22_36 h48 => ?_
   refine MV.lift1 (i := 14) rfl (fun _ z => z) (V.ld hS h48 rfl Rnf.one9) rfl rfl rfl [] (by kernel_rfl) fun x23_37 h49 => ?_
   refine MV.step0 (i := 15) rfl (VAL.move rfl) rfl rfl rfl ?_
   refine MV.lift0 (i := 16) rfl (V.nc h49 rfl) rfl rfl rfl fun x25_38 h50 => ?_
   refine MV.lift0 (i := 17) rfl (V.fa h50 rfl Rnf.fo168_1) rfl rfl rfl fun x26_39 h51 => ?_
   refine MV.lift1 (i := 18) rfl (fun _ z => z) (V.ld hS h51 rfl Rnf.one3) rfl rfl rfl [14] (by kernel_rfl) fun x27_40 h52 => ?_
   refine MV.lift1 (i := 19) rfl (fun _ z => z) (V.ix h52 rfl rfl Rnf.st9) rfl rfl rfl [] (by kernel_rfl) fun x28_41 h53 => ?_
   refine MV.force (i := 20) rfl ?_
   refine LV.callQ hS h53 (g104_ok _ _ _ _ ) rfl rfl rfl rfl fun x29_42 h54 => ?_
   refine LV.nextM [] (by kernel_rfl) (fun z => absurd rfl z) ?_
   refine MV.step0 (i := 21) rfl (VAL.move rfl) rfl rfl rfl ?_
   rcases condK_inv h54 with ⟨e, h55⟩ | ⟨e, h55⟩
   ·
    clear h46 h47 h48 h49 h50 h51 h52 h53 h54
    subst e
    refine MV.skip0 (i := 22) rfl rfl rfl rfl ?_
    refine MV.skip0 (i := 23) rfl rfl rfl rfl ?_
    refine MV.skip0 (i := 24) rfl rfl rfl rfl ?_
    refine MV.skip1 (i := 25) rfl (fun _ z => z) rfl rfl rfl [] (by kernel_rfl) ?_
    refine MV.skip0 (i := 26) rfl rfl rfl rfl ?_
    refine MV.skip0 (i := 27) rfl rfl rfl rfl ?_
    refine MV.skip0 (i := 28) rfl rfl rfl rfl ?_
    refine MV.skip1 (i := 29) rfl (fun _ z => z) rfl rfl rfl [25] (by kernel_rfl) ?_
    refine MV.skip1 (i := 30) rfl (fun _ z => z) rfl rfl rfl [] (by kernel_rfl) ?_
    refine MV.force (i := 31) rfl ?_
    refine sk ?_
    refine LV.nextM [] (by kernel_rfl) (fun z => absurd rfl z) ?_
    refine MV.step0 (i := 32) rfl (VAL.pure rfl) rfl rfl rfl ?_
    refine MV.step0 (i := 33) rfl (VAL.pure rfl) rfl rfl rfl ?_
    refine MV.done ?_
    exact pa4 hS h55 ⟨rfl, rfl, rfl, rfl, trivial⟩
   ·
    clear h46 h47 h48 h49 h50 h51 h52 h53 h54
    subst e
    refine MV.step0 (i := 22) rfl (VAL.move rfl) rfl rfl rfl ?_
    refine MV.lift0 (i := 23) rfl (V.nc h55 rfl) rfl rfl rfl fun x32_43 h56 => ?_
    refine MV.lift0 (i := 24) rfl (V.fa h56 rfl Rnf.fo168_0) rfl rfl rfl fun x33_44 h57 => ?_
    refine MV.lift1 (i := 25) rfl (fun _ z => z) (V.ld hS h57 rfl Rnf.one9) rfl rfl rfl [] (by kernel_rfl) fun x34_45 h58 => ?_
    refine MV.step0 (i := 26) rfl (VAL.move rfl) rfl rfl rfl ?_
    refine MV.lift0 (i := 27) rfl (V.nc h58 rfl) rfl rfl rfl fun x36_46 h59 => ?_
    refine MV.lift0 (i := 28) rfl (V.fa h59 rfl Rnf.fo168_1) rfl rfl rfl fun x37_47 h60 => ?_
    refine MV.lift1 (i := 29) rfl (fun _ z => z) (V.ld hS h60 rfl Rnf.one3) rfl rfl rfl [25] (by kernel_rfl) fun x38_48 h61 => ?_
    refine MV.lift1 (i := 30) rfl (fun _ z => z) (V.ix h61 rfl rfl Rnf.st9) rfl rfl rfl [] (by kernel_rfl) fun x39_49 h62 => ?_
    refine MV.force (i := 31) rfl ?_
    refine LV.callQ hS h62 (g105_ok _ _ _ _ ) rfl rfl rfl rfl fun x40_50 h63 => ?_
    refine LV.nextM [] (by kernel_rfl) (fun z => absurd rfl z) ?_
    refine MV.step0 (i := 32) rfl (VAL.pure rfl) rfl rfl rfl ?_
    refine MV.step0 (i := 33) rfl (VAL.pure rfl) rfl rfl rfl ?_
    refine MV.done ?_
    exact pa4 hS h63 ⟨rfl, rfl, rfl, rfl, trivial⟩
  ·
   clear h3 h38 h39 h40 h41 h42 h43 h44 h45
   subst e
   refine MV.skip1 (i := 11) rfl (fun _ z => z) rfl rfl rfl [] (by kernel_rfl) ?_
   refine MV.skip1 (i := 12) rfl (fun _ z => z) rfl rfl rfl [] (by kernel_rfl) ?_
   refine MV.skip1 (i := 13) rfl (fun _ z => z) rfl rfl rfl [] (by kernel_rfl) ?_
   refine MV.skip1 (i := 14) rfl (fun _ z => z) rfl rfl rfl [] (by kernel_rfl) ?_
   refine MV.skip0 (i := 15) rfl rfl rfl rfl ?_
   refine MV.skip0 (i := 16) rfl rfl rfl rfl ?_
   refine MV.skip0 (i := 17) rfl rfl rfl rfl ?_
   refine MV.skip1 (i := 18) rfl (fun _ z => z) rfl rfl rfl [14] (by kernel_rfl) ?_
   refine MV.skip1 (i := 19) rfl (fun _ z => z) rfl rfl rfl [] (by kernel_rfl) ?_
   refine MV.force (i := 20) rfl ?_
   refine sk ?_
   refine LV.nextM [] (by kernel_rfl) (fun z => absurd rfl z) ?_
   refine MV.skip0 (i := 21) rfl rfl rfl rfl ?_
   refine MV.skip0 (i := 22) rfl rfl rfl rfl ?_
   refine MV.skip0 (i := 23) rfl rfl rfl rfl ?_
   refine MV.skip0 (i := 24) rfl rfl rfl rfl ?_
   refine MV.skip1 (i := 25) rfl (fun _ z => z) rfl rfl rfl [] (by kernel_rfl) ?_
   refine MV.skip0 (i := 26) rfl rfl rfl rfl ?_
   refine MV.skip0 (i := 27) rfl rfl rfl rfl ?_
   refine MV.skip0 (i := 28) rfl rfl rfl rfl ?_
   refine MV.skip1 (i := 29) rfl (fun _ z => z) rfl rfl rfl [25] (by kernel_rfl) ?_
   refine MV.skip1 (i := 30) rfl (fun _ z => z) rfl rfl rfl [] (by kernel_rfl) ?_
   refine MV.force (i := 31) rfl ?_
   refine sk ?_
   refine LV.nextM [] (by kernel_rfl) (fun z => absurd rfl z) ?_
   refine MV.skip0 (i := 32) rfl rfl rfl rfl ?_
   refine MV.step0 (i := 33) rfl (VAL.pure rfl) rfl rfl rfl ?_
   refine MV.done ?_
   exact pa4 hS h46 ⟨rfl, rfl, rfl, rfl, trivial⟩
 ·
  intro y0 y2 y3 y42 T2 n2 ρ its hS h4
  unfold g172_k2 at h4
  clear h3
  refine CV.cond h4 rfl (fun e h5 => ?_) (fun e h5 => ?_)
  ·
   clear h4
   subst e
   refine CV.skip ?_
   refine PV.thenN ?_
   refine CV.block ?_
   refine CV.seq ?_
   refine CV.seq ?_
   refine CV.regionM [(0, .anywhere), (1, .anywhere), (2, .anywhere), (3, .held), (4, .anywhere), (5, .anywhere), (6, .anywhere), (7, .held), (8, .held), (9, .alone)] rfl (fun c a a' w hd hq => PanicOk.root (P := Tryz.prog) (fn := Tryz.f172) (w0 := w0) (base := base) (E := envE) (ro := ro) (r := r) (T' := T') (n' := n') (ρ0 := ρ0) c a a' w hd hq) (by kernel_rfl) ?_
   refine MV.step0 (i := 0) rfl (VAL.move rfl) rfl rfl rfl ?_
   refine MV.lift0 (i := 1) rfl (V.nc h5 rfl) rfl rfl rfl fun x44_2 h6 => ?_
   refine MV.lift0 (i := 2) rfl (V.fa h6 rfl Rnf.fo168_0) rfl rfl rfl fun x45_3 h7 => ?_
   refine MV.lift1 (i := 3) rfl (fun _ z => z) (V.ld hS h7 rfl Rnf.one9) rfl rfl rfl [] (by kernel_rfl) fun x46_4 h8 => ?_
   refine MV.step0 (i := 4) rfl (VAL.move rfl) rfl rfl rfl ?_
   refine MV.lift0 (i := 5) rfl (V.nc h8 rfl) rfl rfl rfl fun x48_5 h9 => ?_
   refine MV.lift0 (i := 6) rfl (V.fa h9 rfl Rnf.fo168_1) rfl rfl rfl fun x49_6 h10 => ?_
   refine MV.lift1 (i := 7) rfl (fun _ z => z) (V.ld hS h10 rfl Rnf.one3) rfl rfl rfl [3] (by kernel_rfl) fun x50_7 h11 => ?_
   refine MV.lift1 (i := 8) rfl (fun _ z => z) (V.ix h11 rfl rfl Rnf.st9) rfl rfl rfl [] (by kernel_rfl) fun x51_8 h12 => ?_
   refine MV.force (i := 9) rfl ?_
   refine LV.call hS h12 (g104_ok _ _ _ _ ) hP rfl rfl rfl rfl fun x52_9 T3 n3 h13 ρ its hS => ?_
   refine LV.nextM [] (by kernel_rfl) (fun z => absurd rfl z) ?_
   refine mdn ?_
   refine CV.cond h13 rfl (fun e h14 => ?_) (fun e h14 => ?_)
   ·
    clear h5 h6 h7 h8 h9 h10 h11 h12 h13
    subst e
    cases h14
   ·
    clear h5 h6 h7 h8 h9 h10 h11 h12 h13
    subst e
    refine CV.skip ?_
    refine PV.thenN ?_
    refine CV.region ?_
    refine mv ?_
    refine fl hS h14 Rnf.fo168_1 Rnf.one3 fun x58_10 h15 => ?_
    refine vy (V.add h15 rfl rfl) fun x59_11 h16 => ?_
    refine fa2 h16 Rnf.fo168_1 fun x61_12 h17 => ?_
    refine LV.st hS h17 rfl rfl rfl Rnf.siz3 rfl rfl fun T4 its h18 hS => ?_
    refine LV.done ?_
    refine PV.blockN ?_
    exact pb3 hS h18 ⟨rfl, rfl, rfl, trivial⟩
  ·
   clear h4
   subst e
   refine CV.exit ?_
   refine PV.thenE ?_
   refine PV.thenE ?_
   refine PV.blockE ?_
   refine PV.thenN ?_
   refine CV.seq ?_
   refine CV.regionM [(0, .anywhere), (1, .anywhere), (2, .anywhere), (3, .held), (4, .anywhere), (5, .anywhere), (6, .anywhere), (7, .anywhere), (8, .held), (9, .held), (10, .held)] rfl (fun c a a' w hd hq => PanicOk.root (P := Tryz.prog) (fn := Tryz.f172) (w0 := w0) (base := base) (E := envE) (ro := ro) (r := r) (T' := T') (n' := n') (ρ0 := ρ0) c a a' w hd hq) (by kernel_rfl) ?_
   refine MV.step0 (i := 0) rfl (VAL.move rfl) rfl rfl rfl ?_
   refine MV.lift0 (i := 1) rfl (V.nc h5 rfl) rfl rfl rfl fun x63_13 h19 => ?_
   refine MV.lift0 (i := 2) rfl (V.fa h19 rfl Rnf.fo168_0) rfl rfl rfl fun x64_14 h20 => ?_
   refine MV.lift1 (i := 3) rfl (fun _ z => z) (V.ld hS h20 rfl Rnf.one9) rfl rfl rfl [] (by kernel_rfl) fun x65_15 h21 => ?_
   refine MV.step0 (i := 4) rfl (VAL.move rfl) rfl rfl rfl ?_
   refine MV.step0 (i := 5) rfl (VAL.move rfl) rfl rfl rfl ?_
   refine MV.lift0 (i := 6) rfl (V.nc h21 rfl) rfl rfl rfl fun x68_16 h22 => ?_
   refine MV.lift0 (i := 7) rfl (V.fa h22 rfl Rnf.fo168_1) rfl rfl rfl fun x69_17 h23 => ?_
   refine MV.lift1 (i := 8) rfl (fun _ z => z) (V.ld hS h23 rfl Rnf.one3) rfl rfl rfl [3] (by kernel_rfl) fun x70_18 h24 => ?_
   refine MV.lift1 (i := 9) rfl (fun _ z => z) (V.slBo (sliceF_ok h24) rfl rfl rfl Rnf.st9) rfl rfl rfl [] (by kernel_rfl) fun x71_19 h25 => ?_
   refine MV.step1 (i := 10) rfl (fun _ z => z) (VAL.assign rfl) rfl rfl rfl [] (by kernel_rfl) ?_
   refine mdn ?_
   refine CV.seq ?_
   refine sr ?_
   refine mv ?_
   refine vy (V.lenT h25 rfl Rnf.ls9) fun x73_20 h26 => ?_
   refine vy (V.gt h26 rfl rfl) fun x74_21 h27 => ?_
   refine mv ?_
   refine ls5 X 0 2 3 4 84 [] (g172_k3 ro) 9 ?_ ?_
   ·
    rcases condK_inv h27 with ⟨e, h31⟩ | ⟨e, h31⟩
    ·
     clear h5 h19 h20 h21 h22 h23 h24 h25 h26 h27
     subst e
     refine sk ?_
     refine sk ?_
     refine sk ?_
     refine sk ?_
     refine sk ?_
     refine sk ?_
     refine sk ?_
     refine sk ?_
     refine pu ?_
     exact la5 hS h31 ⟨rfl, rfl, rfl, rfl, rfl, trivial⟩
    ·
     clear h5 h19 h20 h21 h22 h23 h24 h25 h26 h27
     subst e
     refine mv ?_
     refine vy (V.ix h31 rfl rfl Rnf.st9) fun x77_23 h32 => ?_
     refine vy (V.eq h32 rfl rfl) fun x78_24 h33 => ?_
     refine mv ?_
     refine ls5 X 0 2 3 4 83 [(75, (.lit (.bool false)))] (g172_k4 ro) 4 ?_ ?_
     ·
      rcases condK_inv h33 with ⟨e, h35⟩ | ⟨e, h35⟩
      ·
       clear h31 h32 h33
       subst e
       refine mv ?_
       refine vy (V.lenT h35 rfl Rnf.ls9) fun x81_25 h36 => ?_
       refine vy (V.gt h36 rfl rfl) fun x82_26 h37 => ?_
       refine pu ?_
       exact la5 hS h37 ⟨rfl, rfl, rfl, rfl, rfl, rfl, trivial⟩
      ·
       clear h31 h32 h33
       subst e
       refine sk ?_
       refine sk ?_
       refine sk ?_
       refine pu ?_
       exact la5 hS h35 ⟨rfl, rfl, rfl, rfl, rfl, rfl, trivial⟩
     ·
      intro y0 y2 y3 y4 y83 T7 n7 ρ its hS h34
      unfold g172_k4 at h34
      clear h31 h32 h33
      refine pu ?_
      exact la5 hS h34 ⟨rfl, rfl, rfl, rfl, rfl, trivial⟩
   ·
    intro y0 y2 y3 y4 y84 T5 n5 ρ its hS h28
    unfold g172_k3 at h28
    clear h5 h19 h20 h21 h22 h23 h24 h25 h26 h27
    refine dn ?_
    refine CV.cond h28 rfl (fun e h29 => ?_) (fun e h29 => ?_)
    ·
     clear h28
     subst e
     cases h29
    ·
     clear h28
     subst e
     refine CV.skip ?_
     refine PV.thenN ?_
     refine sr ?_
     refine mv ?_
     refine mv ?_
     refine mv ?_
     refine LV.call hS h29 (g98_ok _ _ _ _ _ _ _ ) hP rfl rfl rfl rfl fun x90_22 T6 n6 h30 ρ its hS => ?_
     refine dn ?_
     refine sr ?_
     refine as_ ?_
     refine dn ?_
     refine CV.ret ?_
     cases h30
     exact PV.ret (by simp) Tryz.results172 hS (RS.tmp rfl RS.nil) rfl
noncomputable def g229 (ro : List HT) (a0 a1 : AV) (T : HT) (nx : Nat) : R :=
 ibsK 2290004 a0 a1 fun x7_1 =>
 .ok (.val x7_1) T nx
theorem g229_ok (ro : List HT) (a0 a1 : AV) (T : HT) (nx : Nat) : GOk Tryz.prog envE 229 [a0, a1] ro T nx (g229 ro a0 a1 T nx) := by
 refine GOk.of_body Tryz.func229 rfl Tryz.ntmps229 (by kernel_rfl) rfl fun r T' n' h1 w0 base ρ0 its hS hP => ?_
 have X : CtxW envE ρ0 ro r T' n' := trivial
 unfold g229 at h1
 refine sr ?_
 refine as_ ?_
 refine dn ?_
 refine sr ?_
 refine mv ?_
 refine mv ?_
 refine vy (Rnf.ibf234 h1 rfl rfl) fun x7_1 h2 => ?_
 refine as_ ?_
 refine dn ?_
 refine CV.ret ?_
 cases h2
 exact PV.ret (by simp) Tryz.results229 hS (RS.tmp rfl RS.nil) rfl
noncomputable def g214 (ro : List HT) (a0 a1 : AV) (T : HT) (nx : Nat) : R :=
 callK (g229 ro a0 a1 T nx) fun x7_1 T1 n1 =>
 .ok (.val x7_1) T1 n1
theorem g214_ok (ro : List HT) (a0 a1 : AV) (T : HT) (nx : Nat) : GOk Tryz.prog envE 214 [a0, a1] ro T nx (g214 ro a0 a1 T nx) := by
 refine GOk.of_body Tryz.func214 rfl Tryz.ntmps214 (by kernel_rfl) rfl fun r T' n' h1 w0 base ρ0 its hS hP => ?_
 have X : CtxW envE ρ0 ro r T' n' := trivial
 unfold g214 at h1
 refine sr ?_
 refine as_ ?_
 refine dn ?_
 refine sr ?_
 refine mv ?_
 refine mv ?_
 refine LV.call hS h1 (g229_ok _ _ _ _ _ ) hP rfl rfl rfl rfl fun x7_1 T1 n1 h2 ρ its hS => ?_
 refine as_ ?_
 refine dn ?_
 refine CV.ret ?_
 cases h2
 exact PV.ret (by simp) Tryz.results214 hS (RS.tmp rfl RS.nil) rfl
noncomputable def g174_k2 (ro : List HT) (y0 y2 y3 : AV) (T3 : HT) (n3 : Nat) : R :=
 fldK 1740012 T3 ro y0 1 fun x85_3 =>
 callK (g98 ro y0 (.lit (.int .i64 (.ofNat 4))) y3 x85_3 T3 n3) fun x86_4 T4 n4 =>
 fldK 1740015 T4 ro y0 1 fun x90_5 =>
 lenTK 1740017 y3 fun x92_6 =>
 addK Tryz.prog 3 (.tmp 90) (.tmp 92) 1740018 x90_5 x92_6 fun x93_7 =>
 faK 1740019 y0 1 fun x95_8 =>
 stK 1740020 T4 x95_8 x93_7 fun T5 =>
 .ok (.val (.lit (.nilIface))) T5 n4
noncomputable def g174_k3 (ro : List HT) (y0 y2 y3 y5 y65 : AV) (T7 : HT) (n7 : Nat) : R :=
 condK 1740032 y65
 (
  .bad 1740033
 )
 (
  fldK 1740036 T7 ro y0 4 fun x75_15 =>
  cutHiK 1740038 T7 ro x75_15 y5 fun x77_16 =>
  faK 1740039 y0 4 fun x79_17 =>
  stK 1740040 T7 x79_17 x77_16 fun T8 =>
  g174_k2 ro y0 y2 y3 T8 n7
 )
noncomputable def g174_k1 (ro : List HT) (y0 y2 y3 : AV) (T2 : HT) (n2 : Nat) : R :=
 ixK 1740023 y3 (.lit (.int .i64 (.ofNat 0))) fun x43_9 =>
 callK (g214 ro (.lit (.string ⟨⟨[41, 93, 125]⟩⟩)) x43_9 T2 n2) fun x44_10 T6 n6 =>
 geK Tryz.prog 3 (.tmp 44) (.const (.int .i64 (.ofNat 0))) 1740025 x44_10 (.lit (.int .i64 (.ofNat 0))) fun x45_11 =>
 condK 1740026 x45_11
 (
  fldK 1740028 T6 ro y0 4 fun x49_12 =>
  lenSK 1740029 x49_12 fun x50_13 =>
  subK Tryz.prog 3 (.tmp 50) (.const (.int .i64 (.ofNat 1))) 1740030 x50_13 (.lit (.int .i64 (.ofNat 1))) fun x51_14 =>
  ltK Tryz.prog 3 (.tmp 52) (.const (.int .i64 (.ofNat 0))) 1740042 x51_14 (.lit (.int .i64 (.ofNat 0))) fun x53_18 =>
  condK 1740044 x53_18
  (
   g174_k3 ro y0 y2 y3 x51_14 (.lit (.bool true)) T6 n6
  )
  (
   ncK 1740047 y0 fun x56_19 =>
   faK 1740048 x56_19 4 fun x57_20 =>
   ldK 1740049 T6 ro x57_20 fun x58_21 =>
   iaK 1740051 x58_21 x51_14 1 fun x60_22 =>
   ldK 1740052 T6 ro x60_22 fun x61_23 =>
   ixK 1740054 y3 (.lit (.int .i64 (.ofNat 0))) fun x63_24 =>
   neK Tryz.prog 5 (.tmp 61) (.tmp 63) 1740055 x61_23 x63_24 fun x64_25 =>
   g174_k3 ro y0 y2 y3 x51_14 x64_25 T6 n6
  )
 )
 (
  g174_k2 ro y0 y2 y3 T6 n6
 )
noncomputable def g174 (ro : List HT) (a0 : AV) (T : HT) (nx : Nat) : R :=
 callK (g213 ro a0 T nx) fun x7_1 T1 n1 =>
 eqSK Tryz.prog 9 (.tmp 8) (.const (.string ⟨⟨[]⟩⟩)) 1740006 x7_1 (.lit (.string ⟨⟨[]⟩⟩)) fun x9_2 =>
 condK 1740007 x9_2
 (
  .bad 1740008
 )
 (
  ixK 1740058 x7_1 (.lit (.int .i64 (.ofNat 0))) fun x16_26 =>
  callK (g214 ro (.lit (.string ⟨⟨[40, 91, 123]⟩⟩)) x16_26 T1 n1) fun x17_27 T9 n9 =>
  geK Tryz.prog 3 (.tmp 18) (.const (.int .i64 (.ofNat 0))) 1740062 x17_27 (.lit (.int .i64 (.ofNat 0))) fun x19_28 =>
  condK 1740063 x19_28
  (
   fldK 1740065 T9 ro a0 4 fun x23_29 =>
   lenSK 1740066 x23_29 fun x24_30 =>
   geK Tryz.prog 3 (.tmp 24) (.const (.int .i64 (.ofNat 60))) 1740067 x24_30 (.lit (.int .i64 (.ofNat 60))) fun x25_31 =>
   condK 1740068 x25_31
   (
    .bad 1740069
   )
   (
    ncK 1740072 a0 fun x33_32 =>
    faK 1740073 x33_32 4 fun x34_33 =>
    ldK 1740074 T9 ro x34_33 fun x35_34 =>
    ixK 1740076 (.lit (.string ⟨⟨[41, 93, 125]⟩⟩)) x17_27 fun x37_35 =>
    bsK 1740077 T9 n9 1 5 1 [(0, x37_35)] fun x38_36 T10 n10 =>
    shrK 1740079 T10 x35_34 fun T11 =>
    appK 1740078 T11 ro n10 5 1 1 x35_34 x38_36 fun x39_37 T12 n12 =>
    ncK 1740080 a0 fun x40_38 =>
    faK 1740081 x40_38 4 fun x41_39 =>
    stK 1740082 T12 x41_39 x39_37 fun T13 =>
    g174_k1 ro a0 (.lit (.nilIface)) x7_1 T13 n12
   )
  )
  (
   g174_k1 ro a0 (.lit (.nilIface)) x7_1 T9 n9
  )
 )
theorem g174_ok (ro : List HT) (a0 : AV) (T : HT) (nx : Nat) : GOk Tryz.prog envE 174 [a0] ro T nx (g174 ro a0 T nx) := by
 refine GOk.of_body Tryz.func174 rfl Tryz.ntmps174 (by kernel_rfl) rfl fun r T' n' h1 w0 base ρ0 its hS hP => ?_
 have X : CtxW envE ρ0 ro r T' n' := trivial
 unfold g174 at h1
 refine sr ?_
 refine as_ ?_
 refine dn ?_
 refine sr ?_
 refine mv ?_
 refine LV.call hS h1 (g213_ok _ _ _ _ ) hP rfl rfl rfl rfl fun x7_1 T1 n1 h2 ρ its hS => ?_
 refine as_ ?_
 refine dn ?_
 refine CV.seq ?_
 refine sr ?_
 refine mv ?_
 refine vy (V.eqS h2 rfl rfl) fun x9_2 h3 => ?_
 refine dn ?_
 refine CV.cond h3 rfl (fun e h4 => ?_) (fun e h4 => ?_)
 ·
  clear h1 h2 h3
  subst e
  cases h4
 ·
  clear h1 h2 h3
  subst e
  refine CV.skip ?_
  refine PV.thenN ?_
  refine cs3 X 0 2 3 [] (g174_k1 ro) ?_ ?_
  ·
   refine sr ?_
   refine mv ?_
   refine vy (V.ix h4 rfl rfl Rnf.st9) fun x16_26 h36 => ?_
   refine LV.call hS h36 (g214_ok _ _ _ _ _ ) hP rfl rfl rfl rfl fun x17_27 T9 n9 h37 ρ its hS => ?_
   refine as_ ?_
   refine dn ?_
   refine sr ?_
   refine mv ?_
   refine vy (V.ge h37 rfl rfl) fun x19_28 h38 => ?_
   refine dn ?_
   refine CV.cond h38 rfl (fun e h39 => ?_) (fun e h39 => ?_)
   ·
    clear h4 h36 h37 h38
    subst e
    refine CV.seq ?_
    refine sr ?_
    refine mv ?_
    refine fl hS h39 Rnf.fo168_4 Rnf.one88 fun x23_29 h40 => ?_
    refine vy (V.lenS h40 rfl Rnf.ls88) fun x24_30 h41 => ?_
    refine vy (V.ge h41 rfl rfl) fun x25_31 h42 => ?_
    refine dn ?_
    refine CV.cond h42 rfl (fun e h43 => ?_) (fun e h43 => ?_)
    ·
     clear h39 h40 h41 h42
     subst e
     cases h43
    ·
     clear h39 h40 h41 h42
     subst e
     refine CV.skip ?_
     refine PV.thenN ?_
     refine CV.regionM [(0, .anywhere), (1, .anywhere), (2, .anywhere), (3, .anywhere), (4, .held), (5, .anywhere), (6, .anywhere), (7, .alone), (8, .alone), (9, .alone), (10, .alone), (11, .alone)] rfl (fun c a a' w hd hq => PanicOk.root (P := Tryz.prog) (fn := Tryz.f174) (w0 := w0) (base := base) (E := envE) (ro := ro) (r := r) (T' := T') (n' := n') (ρ0 := ρ0) c a a' w hd hq) (by kernel_rfl) ?_
     refine MV.step0 (i := 0) rfl (VAL.move rfl) rfl rfl rfl ?_
     refine MV.step0 (i := 1) rfl (VAL.move rfl) rfl rfl rfl ?_
     refine MV.lift0 (i := 2) rfl (V.nc h43 rfl) rfl rfl rfl fun x33_32 h44 => ?_
     refine MV.lift0 (i := 3) rfl (V.fa h44 rfl Rnf.fo168_4) rfl rfl rfl fun x34_33 h45 => ?_
     refine MV.lift1 (i := 4) rfl (fun _ z => z) (V.ld hS h45 rfl Rnf.one88) rfl rfl rfl [] (by kernel_rfl) fun x35_34 h46 => ?_
     refine MV.step0 (i := 5) rfl (VAL.move rfl) rfl rfl rfl ?_
     refine MV.lift0 (i := 6) rfl (V.ix h46 rfl rfl Rnf.st9) rfl rfl rfl fun x37_35 h47 => ?_
     refine MV.force (i := 7) rfl ?_
     refine LV.bslice hS h47 rfl rfl Rnf.el88 rfl rfl rfl rfl fun x38_36 T10 n10 h48 ρ its hS hdr => ?_
     refine LV.nextM [4] (by kernel_rfl) (fun _ => hdr) ?_
     refine MV.force (i := 8) rfl ?_
     obtain ⟨T11, its1, h49, hS, hW⟩ := shrK_inv hS h48
     refine LV.world hW ?_
     refine LV.app hS h49 rfl rfl rfl rfl Rnf.el88 rfl rfl rfl fun x39_37 T12 n12 h50 ρ its hS => ?_
     refine LV.nextM [] (by kernel_rfl) (fun z => absurd rfl z) ?_
     refine MV.force (i := 9) rfl ?_
     refine vy (V.nc h50 rfl) fun x40_38 h51 => ?_
     refine LV.nextM [] (by kernel_rfl) (fun z => absurd rfl z) ?_
     refine MV.force (i := 10) rfl ?_
     refine vy (V.fa h51 rfl Rnf.fo168_4) fun x41_39 h52 => ?_
     refine LV.nextM [] (by kernel_rfl) (fun z => absurd rfl z) ?_
     refine MV.force (i := 11) rfl ?_
     refine LV.st hS h52 rfl rfl rfl Rnf.siz88 rfl rfl fun T13 its h53 hS => ?_
     refine LV.nextM [] (by kernel_rfl) (fun z => absurd rfl z) ?_
     refine MV.done ?_
     exact pa3 hS h53 ⟨rfl, rfl, rfl, trivial⟩
   ·
    clear h4 h36 h37 h38
    subst e
    refine CV.skip ?_
    exact pa3 hS h39 ⟨rfl, rfl, rfl, trivial⟩
  ·
   intro y0 y2 y3 T2 n2 ρ its hS h5
   unfold g174_k1 at h5
   clear h4
   refine cs3 X 0 2 3 [] (g174_k2 ro) ?_ ?_
   ·
    refine sr ?_
    refine mv ?_
    refine vy (V.ix h5 rfl rfl Rnf.st9) fun x43_9 h14 => ?_
    refine LV.call hS h14 (g214_ok _ _ _ _ _ ) hP rfl rfl rfl rfl fun x44_10 T6 n6 h15 ρ its hS => ?_
    refine vy (V.ge h15 rfl rfl) fun x45_11 h16 => ?_
    refine dn ?_
    refine CV.cond h16 rfl (fun e h17 => ?_) (fun e h17 => ?_)
    ·
     clear h5 h14 h15 h16
     subst e
     refine sr ?_
     refine mv ?_
     refine fl hS h17 Rnf.fo168_4 Rnf.one88 fun x49_12 h18 => ?_
     refine vy (V.lenS h18 rfl Rnf.ls88) fun x50_13 h19 => ?_
     refine vy (V.sub h19 rfl rfl) fun x51_14 h20 => ?_
     refine as_ ?_
     refine dn ?_
     refine CV.seq ?_
     refine cs5 X 0 2 3 5 65 [] (g174_k3 ro) ?_ ?_
     ·
      refine CV.regionM [(0, .anywhere), (1, .anywhere), (2, .anywhere), (3, .anywhere), (4, .anywhere), (5, .anywhere), (6, .held), (7, .anywhere), (8, .held), (9, .held), (10, .anywhere), (11, .anywhere), (12, .held), (13, .held)] rfl (fun c a a' w hd hq => PanicOk.root (P := Tryz.prog) (fn := Tryz.f174) (w0 := w0) (base := base) (E := envE) (ro := ro) (r := r) (T' := T') (n' := n') (ρ0 := ρ0) c a a' w hd hq) (by kernel_rfl) ?_
      refine MV.step0 (i := 0) rfl (VAL.move rfl) rfl rfl rfl ?_
      refine MV.lift0 (i := 1) rfl (V.lt h20 rfl rfl) rfl rfl rfl fun x53_18 h27 => ?_
      refine MV.step0 (i := 2) rfl (VAL.move rfl) rfl rfl rfl ?_
      rcases condK_inv h27 with ⟨e, h28⟩ | ⟨e, h28⟩
      ·
       clear h17 h18 h19 h20 h27
       subst e
       refine MV.skip0 (i := 3) rfl rfl rfl rfl ?_
       refine MV.skip0 (i := 4) rfl rfl rfl rfl ?_
       refine MV.skip0 (i := 5) rfl rfl rfl rfl ?_
       refine MV.skip1 (i := 6) rfl (fun _ z => z) rfl rfl rfl [] (by kernel_rfl) ?_
       refine MV.skip0 (i := 7) rfl rfl rfl rfl ?_
       refine MV.skip1 (i := 8) rfl (fun _ z => z) rfl rfl rfl [] (by kernel_rfl) ?_
       refine MV.skip1 (i := 9) rfl (fun _ z => z) rfl rfl rfl [] (by kernel_rfl) ?_
       refine MV.skip0 (i := 10) rfl rfl rfl rfl ?_
       refine MV.skip0 (i := 11) rfl rfl rfl rfl ?_
       refine MV.skip1 (i := 12) rfl (fun _ z => z) rfl rfl rfl [] (by kernel_rfl) ?_
       refine MV.step1 (i := 13) rfl (fun _ z => z) (VAL.pure rfl) rfl rfl rfl [] (by kernel_rfl) ?_
       refine MV.done ?_
       exact pa5 hS h28 ⟨rfl, rfl, rfl, rfl, rfl, trivial⟩
      ·
       clear h17 h18 h19 h20 h27
       subst e
       refine MV.step0 (i := 3) rfl (VAL.move rfl) rfl rfl rfl ?_
       refine MV.lift0 (i := 4) rfl (V.nc h28 rfl) rfl rfl rfl fun x56_19 h29 => ?_
       refine MV.lift0 (i := 5) rfl (V.fa h29 rfl Rnf.fo168_4) rfl rfl rfl fun x57_20 h30 => ?_
       refine MV.lift1 (i := 6) rfl (fun _ z => z) (V.ld hS h30 rfl Rnf.one88) rfl rfl rfl [] (by kernel_rfl) fun x58_21 h31 => ?_
       refine MV.step0 (i := 7) rfl (VAL.move rfl) rfl rfl rfl ?_
       refine MV.lift1 (i := 8) rfl (fun _ z => z) (V.ia h31 rfl rfl Rnf.el88) rfl rfl rfl [] (by kernel_rfl) fun x60_22 h32 => ?_
       refine MV.lift1 (i := 9) rfl (fun _ z => z) (V.ld hS h32 rfl Rnf.one5) rfl rfl rfl [] (by kernel_rfl) fun x61_23 h33 => ?_
       refine MV.step0 (i := 10) rfl (VAL.move rfl) rfl rfl rfl ?_
       refine MV.lift0 (i := 11) rfl (V.ix h33 rfl rfl Rnf.st9) rfl rfl rfl fun x63_24 h34 => ?_
       refine MV.lift1 (i := 12) rfl (fun _ z => z) (V.ne h34 rfl rfl) rfl rfl rfl [] (by kernel_rfl) fun x64_25 h35 => ?_
       refine MV.step1 (i := 13) rfl (fun _ z => z) (VAL.pure rfl) rfl rfl rfl [] (by kernel_rfl) ?_
       refine MV.done ?_
       exact pa5 hS h35 ⟨rfl, rfl, rfl, rfl, rfl, trivial⟩
     ·
      intro y0 y2 y3 y5 y65 T7 n7 ρ its hS h21
      unfold g174_k3 at h21
      clear h17 h18 h19 h20
      refine CV.cond h21 rfl (fun e h22 => ?_) (fun e h22 => ?_)
      ·
       clear h21
       subst e
       cases h22
      ·
       clear h21
       subst e
       refine CV.skip ?_
       refine PV.thenN ?_
       refine CV.region ?_
       refine mv ?_
       refine mv ?_
       refine fl hS h22 Rnf.fo168_4 Rnf.one88 fun x75_15 h23 => ?_
       refine mv ?_
       refine vy (V.cutHi hS h23 rfl rfl Rnf.el88) fun x77_16 h24 => ?_
       refine fa2 h24 Rnf.fo168_4 fun x79_17 h25 => ?_
       refine LV.st hS h25 rfl rfl rfl Rnf.siz88 rfl rfl fun T8 its h26 hS => ?_
       refine LV.done ?_
       exact pa3 hS h26 ⟨rfl, rfl, rfl, trivial⟩
    ·
     clear h5 h14 h15 h16
     subst e
     refine CV.skip ?_
     exact pa3 hS h17 ⟨rfl, rfl, rfl, trivial⟩
   ·
    intro y0 y2 y3 T3 n3 ρ its hS h6
    unfold g174_k2 at h6
    clear h5
    refine sr ?_
    refine mv ?_
    refine mv ?_
    refine mv ?_
    refine fl hS h6 Rnf.fo168_1 Rnf.one3 fun x85_3 h7 => ?_
    refine LV.call hS h7 (g98_ok _ _ _ _ _ _ _ ) hP rfl rfl rfl rfl fun x86_4 T4 n4 h8 ρ its hS => ?_
    refine dn ?_
    refine sr ?_
    refine mv ?_
    refine fl hS h8 Rnf.fo168_1 Rnf.one3 fun x90_5 h9 => ?_
    refine mv ?_
    refine vy (V.lenT h9 rfl Rnf.ls9) fun x92_6 h10 => ?_
    refine vy (V.add h10 rfl rfl) fun x93_7 h11 => ?_
    refine fa2 h11 Rnf.fo168_1 fun x95_8 h12 => ?_
    refine LV.st hS h12 rfl rfl rfl Rnf.siz3 rfl rfl fun T5 its h13 hS => ?_
    refine dn ?_
    refine sr ?_
    refine as_ ?_
    refine dn ?_
    refine CV.ret ?_
    cases h13
    exact PV.ret (by simp) Tryz.results174 hS (RS.tmp rfl RS.nil) rfl
noncomputable def g95_k1 (ro : List HT) (y0 y2 y3 : AV) (T1 : HT) (n1 : Nat) : R :=
 fldK 950017 T1 ro y0 1 fun x28_9 =>
 addK Tryz.prog 3 (.tmp 28) (.const (.int .i64 (.ofNat 1))) 950018 x28_9 (.lit (.int .i64 (.ofNat 1))) fun x29_10 =>
 faK 950019 y0 1 fun x31_11 =>
 stK 950020 T1 x31_11 x29_10 fun T2 =>
 .ok (.val (.lit (.nilIface))) T2 n1
noncomputable def g95_k3 (ro : List HT) (y0 y2 y73 : AV) (T10 : HT) (n10 : Nat) : R :=
 condK 950062 y73
 (
  .bad 950063
 )
 (
  callK (g174 ro y0 T10 n10) fun x78_26 T11 n11 =>
  .ok (.val x78_26) T11 n11
 )
noncomputable def g95_k2 (ro : List HT) (y0 y2 y3 : AV) (T5 : HT) (n5 : Nat) : R :=
 callK (g104 ro y3 T5 n5) fun x59_21 T6 n6 =>
 condK 950047 x59_21
 (
  callK (g171 ro y0 T6 n6) fun x61_22 T7 n7 =>
  .ok (.val (.lit (.nilIface))) T7 n7
 )
 (
  callK (g105 ro y3 T6 n6) fun x64_23 T8 n8 =>
  condK 950054 x64_23
  (
   callK (g172 ro y0 T8 n8) fun x66_24 T9 n9 =>
   .ok (.val x66_24) T9 n9
  )
  (
   eqK Tryz.prog 5 (.tmp 68) (.const (.int .u8 (.ofNat 34))) 950059 y3 (.lit (.int .u8 (.ofNat 34))) fun x69_25 =>
   condK 950067 x69_25
   (
    g95_k3 ro y0 y2 (.lit (.bool true)) T8 n8
   )
   (
    eqK Tryz.prog 5 (.tmp 71) (.const (.int .u8 (.ofNat 39))) 950070 y3 (.lit (.int .u8 (.ofNat 39))) fun x72_27 =>
    g95_k3 ro y0 y2 x72_27 T8 n8
   )
  )
 )
noncomputable def g95 (ro : List HT) (a0 : AV) (T : HT) (nx : Nat) : R :=
 ncK 950003 a0 fun x6_1 =>
 faK 950004 x6_1 0 fun x7_2 =>
 ldK 950005 T ro x7_2 fun x8_3 =>
 ncK 950007 a0 fun x10_4 =>
 faK 950008 x10_4 1 fun x11_5 =>
 ldK 950009 T ro x11_5 fun x12_6 =>
 ixK 950010 x8_3 x12_6 fun x13_7 =>
 eqK Tryz.prog 5 (.tmp 15) (.const (.int .u8 (.ofNat 10))) 950013 x13_7 (.lit (.int .u8 (.ofNat 10))) fun x16_8 =>
 condK 950015 x16_8
 (
  fldK 950023 T ro a0 4 fun x20_12 =>
  lenSK 950024 x20_12 fun x21_13 =>
  eqK Tryz.prog 3 (.tmp 21) (.const (.int .i64 (.ofNat 0))) 950025 x21_13 (.lit (.int .i64 (.ofNat 0))) fun x22_14 =>
  condK 950026 x22_14
  (
   callK (g97 ro a0 T nx) fun x24_15 T3 n3 =>
   g95_k1 ro a0 (.lit (.nilIface)) x13_7 T3 n3
  )
  (
   g95_k1 ro a0 (.lit (.nilIface)) x13_7 T nx
  )
 )
 (
  eqK Tryz.prog 5 (.tmp 33) (.const (.int .u8 (.ofNat 32))) 950030 x13_7 (.lit (.int .u8 (.ofNat 32))) fun x34_16 =>
  condK 950032 x34_16
  (
   fldK 950034 T ro a0 1 fun x38_17 =>
   addK Tryz.prog 3 (.tmp 38) (.const (.int .i64 (.ofNat 1))) 950035 x38_17 (.lit (.int .i64 (.ofNat 1))) fun x39_18 =>
   faK 950036 a0 1 fun x41_19 =>
   stK 950037 T x41_19 x39_18 fun T4 =>
   .ok (.val (.lit (.nilIface))) T4 nx
  )
  (
   eqK Tryz.prog 5 (.tmp 43) (.const (.int .u8 (.ofNat 35))) 950040 x13_7 (.lit (.int .u8 (.ofNat 35))) fun x44_20 =>
   condK 950042 x44_20
   (
    .bad 950043
   )
   (
    fldK 950073 T ro a0 5 fun x50_28 =>
    notK 950074 x50_28 fun x51_29 =>
    condK 950075 x51_29
    (
     callK (g170 ro a0 T nx) fun x53_30 T12 n12 =>
     bin0 Tryz.prog .neq 25 (.tmp 54) (.const (.nilIface)) 950080 x53_30 (.lit (.nilIface)) fun x55_31 =>
     condK 950081 x55_31
     (
      .bad 950082
     )
     (
      g95_k2 ro a0 (.lit (.nilIface)) x13_7 T12 n12
     )
    )
    (
     g95_k2 ro a0 (.lit (.nilIface)) x13_7 T nx
    )
   )
  )
 )
theorem g95_ok (ro : List HT) (a0 : AV) (T : HT) (nx : Nat) : GOk Tryz.prog envE 95 [a0] ro T nx (g95 ro a0 T nx) := by
 refine GOk.of_body Tryz.func95 rfl Tryz.ntmps95 (by kernel_rfl) rfl fun r T' n' h1 w0 base ρ0 its hS hP => ?_
 have X : CtxW envE ρ0 ro r T' n' := trivial
 unfold g95 at h1
 refine sr ?_
 refine as_ ?_
 refine dn ?_
 refine CV.seq ?_
 refine CV.regionM [(0, .anywhere), (1, .anywhere), (2, .anywhere), (3, .held), (4, .anywhere), (5, .anywhere), (6, .anywhere), (7, .held), (8, .held), (9, .held)] rfl (fun c a a' w hd hq => PanicOk.root (P := Tryz.prog) (fn := Tryz.f95) (w0 := w0) (base := base) (E := envE) (ro := ro) (r := r) (T' := T') (n' := n') (ρ0 := ρ0) c a a' w hd hq) (by kernel_rfl) ?_
 refine MV.step0 (i := 0) rfl (VAL.move rfl) rfl rfl rfl ?_
 refine MV.lift0 (i := 1) rfl (V.nc h1 rfl) rfl rfl rfl fun x6_1 h2 => ?_
 refine MV.lift0 (i := 2) rfl (V.fa h2 rfl Rnf.fo168_0) rfl rfl rfl fun x7_2 h3 => ?_
 refine MV.lift1 (i := 3) rfl (fun _ z => z) (V.ld hS h3 rfl Rnf.one9) rfl rfl rfl [] (by kernel_rfl) fun x8_3 h4 => ?_
 refine MV.step0 (i := 4) rfl (VAL.move rfl) rfl rfl rfl ?_
 refine MV.lift0 (i := 5) rfl (V.nc h4 rfl) rfl rfl rfl fun x10_4 h5 => ?_
 refine MV.lift0 (i := 6) rfl (V.fa h5 rfl Rnf.fo168_1) rfl rfl rfl fun x11_5 h6 => ?_
 refine MV.lift1 (i := 7) rfl (fun _ z => z) (V.ld hS h6 rfl Rnf.one3) rfl rfl rfl [3] (by kernel_rfl) fun x12_6 h7 => ?_
 refine MV.lift1 (i := 8) rfl (fun _ z => z) (V.ix h7 rfl rfl Rnf.st9) rfl rfl rfl [] (by kernel_rfl) fun x13_7 h8 => ?_
 refine MV.step1 (i := 9) rfl (fun _ z => z) (VAL.assign rfl) rfl rfl rfl [] (by kernel_rfl) ?_
 refine mdn ?_
 refine CV.seq ?_
 refine CV.block ?_
 refine sr ?_
 refine mv ?_
 refine vy (V.eq h8 rfl rfl) fun x16_8 h9 => ?_
 refine as_ ?_
 refine dn ?_
 refine CV.cond h9 rfl (fun e h10 => ?_) (fun e h10 => ?_)
 ·
  clear h1 h2 h3 h4 h5 h6 h7 h8 h9
  subst e
  refine cs3 X 0 2 3 [] (g95_k1 ro) ?_ ?_
  ·
   refine sr ?_
   refine mv ?_
   refine fl hS h10 Rnf.fo168_4 Rnf.one88 fun x20_12 h16 => ?_
   refine vy (V.lenS h16 rfl Rnf.ls88) fun x21_13 h17 => ?_
   refine vy (V.eq h17 rfl rfl) fun x22_14 h18 => ?_
   refine dn ?_
   refine CV.cond h18 rfl (fun e h19 => ?_) (fun e h19 => ?_)
   ·
    clear h10 h16 h17 h18
    subst e
    refine CV.region ?_
    refine mv ?_
    refine LV.call hS h19 (g97_ok _ _ _ _ ) hP rfl rfl rfl rfl fun x24_15 T3 n3 h20 ρ its hS => ?_
    refine LV.done ?_
    exact pa3 hS h20 ⟨rfl, rfl, rfl, trivial⟩
   ·
    clear h10 h16 h17 h18
    subst e
    refine CV.skip ?_
    exact pa3 hS h19 ⟨rfl, rfl, rfl, trivial⟩
  ·
   intro y0 y2 y3 T1 n1 ρ its hS h11
   unfold g95_k1 at h11
   clear h10
   refine sr ?_
   refine mv ?_
   refine fl hS h11 Rnf.fo168_1 Rnf.one3 fun x28_9 h12 => ?_
   refine vy (V.add h12 rfl rfl) fun x29_10 h13 => ?_
   refine fa2 h13 Rnf.fo168_1 fun x31_11 h14 => ?_
   refine LV.st hS h14 rfl rfl rfl Rnf.siz3 rfl rfl fun T2 its h15 hS => ?_
   refine dn ?_
   refine sr ?_
   refine as_ ?_
   refine dn ?_
   refine CV.ret ?_
   refine PV.blockR ?_
   refine PV.thenR ?_
   cases h15
   exact PV.ret (by simp) Tryz.results95 hS (RS.tmp rfl RS.nil) rfl
 ·
  clear h1 h2 h3 h4 h5 h6 h7 h8 h9
  subst e
  refine sr ?_
  refine mv ?_
  refine vy (V.eq h10 rfl rfl) fun x34_16 h21 => ?_
  refine as_ ?_
  refine dn ?_
  refine CV.cond h21 rfl (fun e h22 => ?_) (fun e h22 => ?_)
  ·
   clear h10 h21
   subst e
   refine sr ?_
   refine mv ?_
   refine fl hS h22 Rnf.fo168_1 Rnf.one3 fun x38_17 h23 => ?_
   refine vy (V.add h23 rfl rfl) fun x39_18 h24 => ?_
   refine fa2 h24 Rnf.fo168_1 fun x41_19 h25 => ?_
   refine LV.st hS h25 rfl rfl rfl Rnf.siz3 rfl rfl fun T4 its h26 hS => ?_
   refine dn ?_
   refine sr ?_
   refine as_ ?_
   refine dn ?_
   refine CV.ret ?_
   refine PV.blockR ?_
   refine PV.thenR ?_
   cases h26
   exact PV.ret (by simp) Tryz.results95 hS (RS.tmp rfl RS.nil) rfl
  ·
   clear h10 h21
   subst e
   refine sr ?_
   refine mv ?_
   refine vy (V.eq h22 rfl rfl) fun x44_20 h27 => ?_
   refine as_ ?_
   refine dn ?_
   refine CV.cond h27 rfl (fun e h28 => ?_) (fun e h28 => ?_)
   ·
    clear h22 h27
    subst e
    cases h28
   ·
    clear h22 h27
    subst e
    refine CV.skip ?_
    refine PV.blockN ?_
    refine PV.thenN ?_
    refine cs3 X 0 2 3 [] (g95_k2 ro) ?_ ?_
    ·
     refine sr ?_
     refine mv ?_
     refine fl hS h28 Rnf.fo168_5 Rnf.one4 fun x50_28 h42 => ?_
     refine vy (V.not h42 rfl) fun x51_29 h43 => ?_
     refine dn ?_
     refine CV.cond h43 rfl (fun e h44 => ?_) (fun e h44 => ?_)
     ·
      clear h28 h42 h43
      subst e
      refine sr ?_
      refine mv ?_
      refine LV.call hS h44 (g170_ok _ _ _ _ ) hP rfl rfl rfl rfl fun x53_30 T12 n12 h45 ρ its hS => ?_
      refine as_ ?_
      refine dn ?_
      refine sr ?_
      refine mv ?_
      refine vy (V.bin0 h45 rfl rfl) fun x55_31 h46 => ?_
      refine dn ?_
      refine CV.cond h46 rfl (fun e h47 => ?_) (fun e h47 => ?_)
      ·
       clear h44 h45 h46
       subst e
       cases h47
      ·
       clear h44 h45 h46
       subst e
       refine CV.skip ?_
       exact pa3 hS h47 ⟨rfl, rfl, rfl, trivial⟩
     ·
      clear h28 h42 h43
      subst e
      refine CV.skip ?_
      exact pa3 hS h44 ⟨rfl, rfl, rfl, trivial⟩
    ·
     intro y0 y2 y3 T5 n5 ρ its hS h29
     unfold g95_k2 at h29
     clear h28
     refine CV.seq ?_
     refine CV.block ?_
     refine sr ?_
     refine mv ?_
     refine LV.call hS h29 (g104_ok _ _ _ _ ) hP rfl rfl rfl rfl fun x59_21 T6 n6 h30 ρ its hS => ?_
     refine as_ ?_
     refine dn ?_
     refine CV.cond h30 rfl (fun e h31 => ?_) (fun e h31 => ?_)
     ·
      clear h29 h30
      subst e
      refine sr ?_
      refine mv ?_
      refine LV.call hS h31 (g171_ok _ _ _ _ ) hP rfl rfl rfl rfl fun x61_22 T7 n7 h32 ρ its hS => ?_
      refine dn ?_
      refine sr ?_
      refine as_ ?_
      refine dn ?_
      refine CV.ret ?_
      refine PV.blockR ?_
      refine PV.thenR ?_
      cases h32
      exact PV.ret (by simp) Tryz.results95 hS (RS.tmp rfl RS.nil) rfl
     ·
      clear h29 h30
      subst e
      refine sr ?_
      refine mv ?_
      refine LV.call hS h31 (g105_ok _ _ _ _ ) hP rfl rfl rfl rfl fun x64_23 T8 n8 h33 ρ its hS => ?_
      refine as_ ?_
      refine dn ?_
      refine CV.cond h33 rfl (fun e h34 => ?_) (fun e h34 => ?_)
      ·
       clear h31 h33
       subst e
       refine sr ?_
       refine mv ?_
       refine LV.call hS h34 (g172_ok _ _ _ _ ) hP rfl rfl rfl rfl fun x66_24 T9 n9 h35 ρ its hS => ?_
       refine as_ ?_
       refine dn ?_
       refine CV.ret ?_
       refine PV.blockR ?_
       refine PV.thenR ?_
       cases h35
       exact PV.ret (by simp) Tryz.results95 hS (RS.tmp rfl RS.nil) rfl
      ·
       clear h31 h33
       subst e
       refine sr ?_
       refine mv ?_
       refine vy (V.eq h34 rfl rfl) fun x69_25 h36 => ?_
       refine mv ?_
       refine ls3 X 0 2 73 [] (g95_k3 ro) 3 ?_ ?_
       ·
        rcases condK_inv h36 with ⟨e, h40⟩ | ⟨e, h40⟩
        ·
         clear h34 h36
         subst e
         refine sk ?_
         refine sk ?_
         refine pu ?_
         exact la3 hS h40 ⟨rfl, rfl, rfl, trivial⟩
        ·
         clear h34 h36
         subst e
         refine mv ?_
         refine vy (V.eq h40 rfl rfl) fun x72_27 h41 => ?_
         refine pu ?_
         exact la3 hS h41 ⟨rfl, rfl, rfl, trivial⟩
       ·
        intro y0 y2 y73 T10 n10 ρ its hS h37
        unfold g95_k3 at h37
        clear h34 h36
        refine as_ ?_
        refine dn ?_
        refine CV.cond h37 rfl (fun e h38 => ?_) (fun e h38 => ?_)
        ·
         clear h37
         subst e
         cases h38
        ·
         clear h37
         subst e
         refine CV.skip ?_
         refine PV.blockN ?_
         refine PV.thenN ?_
         refine sr ?_
         refine mv ?_
         refine LV.call hS h38 (g174_ok _ _ _ _ ) hP rfl rfl rfl rfl fun x78_26 T11 n11 h39 ρ its hS => ?_
         refine as_ ?_
         refine dn ?_
         refine CV.ret ?_
         cases h39
         exact PV.ret (by simp) Tryz.results95 hS (RS.tmp rfl RS.nil) rfl
noncomputable def g62_b2 (ro : List HT) (lp2 : AV → AV → AV → AV → AV → HT → Nat → R) (y2 y3 y4 y48 y49 : AV) (T6 : HT) (n6 : Nat) : R :=
 ltK Tryz.prog 3 (.tmp 49) (.tmp 48) 620045 y49 y48 fun x50_22 =>
 condK 620046 x50_22
 (
  fldK 620049 T6 ro y4 0 fun x55_23 =>
  lenTK 620050 x55_23 fun x56_24 =>
  callK (g98 ro y4 (.lit (.int .i64 (.ofNat 7))) (.lit (.string ⟨⟨[]⟩⟩)) x56_24 T6 n6) fun x57_25 T7 n7 =>
  addK Tryz.prog 3 (.tmp 49) (.const (.int .i64 (.ofNat 1))) 620052 y49 (.lit (.int .i64 (.ofNat 1))) fun x58_26 =>
  lp2 y2 y3 y4 y48 x58_26 T7 n7
 )
 (
  fldK 620056 T6 ro y4 0 fun x63_27 =>
  lenTK 620057 x63_27 fun x64_28 =>
  callK (g98 ro y4 (.lit (.int .i64 (.ofNat 8))) (.lit (.string ⟨⟨[]⟩⟩)) x64_28 T6 n6) fun x65_29 T8 n8 =>
  fldK 620060 T8 ro y4 2 fun x69_30 =>
  .ok (.val (.tup [x69_30, (.lit (.nilIface))])) T8 n8
 )
noncomputable def g62_b1 (ro : List HT) (lp1 : AV → AV → AV → HT → Nat → R) (y2 y3 y4 : AV) (T3 : HT) (n3 : Nat) : R :=
 ncK 620015 y4 fun x15_6 =>
 faK 620016 x15_6 1 fun x16_7 =>
 ldK 620017 T3 ro x16_7 fun x17_8 =>
 ncK 620019 y4 fun x19_9 =>
 faK 620020 x19_9 0 fun x20_10 =>
 ldK 620021 T3 ro x20_10 fun x21_11 =>
 lenTK 620022 x21_11 fun x22_12 =>
 ltK Tryz.prog 3 (.tmp 17) (.tmp 22) 620023 x17_8 x22_12 fun x23_13 =>
 condK 620024 x23_13
 (
  callK (g95 ro y4 T3 n3) fun x25_14 T4 n4 =>
  bin0 Tryz.prog .neq 25 (.tmp 26) (.const (.nilIface)) 620029 x25_14 (.lit (.nilIface)) fun x27_15 =>
  condK 620030 x27_15
  (
   .bad 620031
  )
  (
   lp1 y2 y3 y4 T4 n4
  )
 )
 (
  fldK 620033 T3 ro y4 4 fun x32_16 =>
  lenSK 620034 x32_16 fun x33_17 =>
  gtK Tryz.prog 3 (.tmp 33) (.const (.int .i64 (.ofNat 0))) 620035 x33_17 (.lit (.int .i64 (.ofNat 0))) fun x34_18 =>
  condK 620036 x34_18
  (
   .bad 620037
  )
  (
   callK (g97 ro y4 T3 n3) fun x42_19 T5 n5 =>
   fldK 620041 T5 ro y4 3 fun x46_20 =>
   cutLenK 620042 T5 ro x46_20 (.lit (.int .i64 (.ofNat 1))) fun x48_21 =>
   lpf5 620044 (g62_b2 ro) 100000 y2 y3 y4 x48_21 (.lit (.int .i64 (.ofNat 0))) T5 n5
  )
 )
noncomputable def g62 (ro : List HT) (a0 : AV) (T : HT) (nx : Nat) : R :=
 lenTK 620004 a0 fun x7_1 =>
 gtK Tryz.prog 3 (.tmp 7) (.const (.int .i64 (.ofNat 65536))) 620005 x7_1 (.lit (.int .i64 (.ofNat 65536))) fun x8_2 =>
 condK 620006 x8_2
 (
  .bad 620007
 )
 (
  bsK 620009 T nx 1 3 1 [(0, (.lit (.int .i64 (.ofNat 0))))] fun x11_3 T1 n1 =>
  optK 620010 (bld168 [(0, a0), (3, x11_3)]) fun x12_4 =>
  boxK 620011 T1 n1 x12_4 168 fun x13_5 T2 n2 =>
  lpf3 620013 (g62_b1 ro) 100000 (.lit (.slice none 0 0)) (.lit (.nilIface)) x13_5 T2 n2
 )
theorem g62_ok (ro : List HT) (a0 : AV) (T : HT) (nx : Nat) : GOk Tryz.prog envE 62 [a0] ro T nx (g62 ro a0 T nx) := by
 refine GOk.of_body Tryz.func62 rfl Tryz.ntmps62 (by kernel_rfl) rfl fun r T' n' h1 w0 base ρ0 its hS hP => ?_
 have X : CtxW envE ρ0 ro r T' n' := trivial
 unfold g62 at h1
 refine sr ?_
 refine as_ ?_
 refine as_ ?_
 refine dn ?_
 refine CV.seq ?_
 refine sr ?_
 refine mv ?_
 refine vy (V.lenT h1 rfl Rnf.ls9) fun x7_1 h2 => ?_
 refine vy (V.gt h2 rfl rfl) fun x8_2 h3 => ?_
 refine dn ?_
 refine CV.cond h3 rfl (fun e h4 => ?_) (fun e h4 => ?_)
 ·
  clear h1 h2 h3
  subst e
  cases h4
 ·
  clear h1 h2 h3
  subst e
  refine CV.skip ?_
  refine PV.thenN ?_
  refine sr ?_
  refine mv ?_
  refine LV.bslice hS h4 rfl rfl Rnf.el30 rfl rfl rfl rfl fun x11_3 T1 n1 h5 ρ its hS hdr => ?_
  refine vy (V.bld h5 rfl) fun x12_4 h6 => ?_
  refine LV.box hS h6 rfl rfl rfl rfl rfl fun x13_5 T2 n2 h7 ρ its hS hdr => ?_
  refine as_ ?_
  refine dn ?_
  refine CV.seq ?_
  refine CV.block ?_
  refine cl3 X 2 3 4 [] hS h7 ⟨rfl, rfl, rfl, trivial⟩ ?_
  intro f1 y2 y3 y4 T3 n3 ρ its hS h8
  unfold g62_b1 at h8
  clear h4 h5 h6 h7
  refine CV.seq ?_
  refine CV.seq ?_
  refine CV.regionM [(0, .anywhere), (1, .anywhere), (2, .anywhere), (3, .held), (4, .anywhere), (5, .anywhere), (6, .anywhere), (7, .held), (8, .held), (9, .held)] rfl (fun c a a' w hd hq => PanicOk.root (P := Tryz.prog) (fn := Tryz.f62) (w0 := w0) (base := base) (E := envE) (ro := ro) (r := r) (T' := T') (n' := n') (ρ0 := ρ0) c a a' w hd hq) (by kernel_rfl) ?_
  refine MV.step0 (i := 0) rfl (VAL.move rfl) rfl rfl rfl ?_
  refine MV.lift0 (i := 1) rfl (V.nc h8 rfl) rfl rfl rfl fun x15_6 h9 => ?_
  refine MV.lift0 (i := 2) rfl (V.fa h9 rfl Rnf.fo168_1) rfl rfl rfl fun x16_7 h10 => ?_
  refine MV.lift1 (i := 3) rfl (fun _ z => z) (V.ld hS h10 rfl Rnf.one3) rfl rfl rfl [] (by kernel_rfl) fun x17_8 h11 => ?_
  refine MV.step0 (i := 4) rfl (VAL.move rfl) rfl rfl rfl ?_
  refine MV.lift0 (i := 5) rfl (V.nc h11 rfl) rfl rfl rfl fun x19_9 h12 => ?_
  refine MV.lift0 (i := 6) rfl (V.fa h12 rfl Rnf.fo168_0) rfl rfl rfl fun x20_10 h13 => ?_
  refine MV.lift1 (i := 7) rfl (fun _ z => z) (V.ld hS h13 rfl Rnf.one9) rfl rfl rfl [3] (by kernel_rfl) fun x21_11 h14 => ?_
  refine MV.lift1 (i := 8) rfl (fun _ z => z) (V.lenT h14 rfl Rnf.ls9) rfl rfl rfl [3] (by kernel_rfl) fun x22_12 h15 => ?_
  refine MV.lift1 (i := 9) rfl (fun _ z => z) (V.lt h15 rfl rfl) rfl rfl rfl [] (by kernel_rfl) fun x23_13 h16 => ?_
  refine mdn ?_
  refine CV.cond h16 rfl (fun e h17 => ?_) (fun e h17 => ?_)
  ·
   clear h8 h9 h10 h11 h12 h13 h14 h15 h16
   subst e
   refine CV.skip ?_
   refine PV.thenN ?_
   refine CV.block ?_
   refine sr ?_
   refine mv ?_
   refine LV.call hS h17 (g95_ok _ _ _ _ ) hP rfl rfl rfl rfl fun x25_14 T4 n4 h18 ρ its hS => ?_
   refine as_ ?_
   refine dn ?_
   refine sr ?_
   refine mv ?_
   refine vy (V.bin0 h18 rfl rfl) fun x27_15 h19 => ?_
   refine dn ?_
   refine CV.cond h19 rfl (fun e h20 => ?_) (fun e h20 => ?_)
   ·
    clear h17 h18 h19
    subst e
    cases h20
   ·
    clear h17 h18 h19
    subst e
    refine CV.skip ?_
    refine PV.blockN ?_
    exact pb3 hS h20 ⟨rfl, rfl, rfl, trivial⟩
  ·
   clear h8 h9 h10 h11 h12 h13 h14 h15 h16
   subst e
   refine CV.exit ?_
   refine PV.thenE ?_
   refine PV.thenE ?_
   refine PV.blockE ?_
   refine PV.thenN ?_
   refine CV.seq ?_
   refine sr ?_
   refine mv ?_
   refine fl hS h17 Rnf.fo168_4 Rnf.one88 fun x32_16 h21 => ?_
   refine vy (V.lenS h21 rfl Rnf.ls88) fun x33_17 h22 => ?_
   refine vy (V.gt h22 rfl rfl) fun x34_18 h23 => ?_
   refine dn ?_
   refine CV.cond h23 rfl (fun e h24 => ?_) (fun e h24 => ?_)
   ·
    clear h17 h21 h22 h23
    subst e
    cases h24
   ·
    clear h17 h21 h22 h23
    subst e
    refine CV.skip ?_
    refine PV.thenN ?_
    refine sr ?_
    refine mv ?_
    refine LV.call hS h24 (g97_ok _ _ _ _ ) hP rfl rfl rfl rfl fun x42_19 T5 n5 h25 ρ its hS => ?_
    refine dn ?_
    refine CV.seq ?_
    refine sr ?_
    refine mv ?_
    refine fl hS h25 Rnf.fo168_3 Rnf.one30 fun x46_20 h26 => ?_
    refine LV.cutLen hS h26 rfl rfl rfl Rnf.el30 rfl rfl rfl rfl rfl Rnf.ls30 rfl rfl rfl fun x48_21 h27 => ?_
    refine mv ?_
    refine dn ?_
    refine CV.block ?_
    refine cl5 X 2 3 4 48 49 [] hS h27 ⟨rfl, rfl, rfl, rfl, rfl, trivial⟩ ?_
    intro f2 y2 y3 y4 y48 y49 T6 n6 ρ its hS h28
    unfold g62_b2 at h28
    clear h24 h25 h26 h27
    refine sr ?_
    refine vy (V.lt h28 rfl rfl) fun x50_22 h29 => ?_
    refine dn ?_
    refine CV.seq ?_
    refine CV.cond h29 rfl (fun e h30 => ?_) (fun e h30 => ?_)
    ·
     clear h28 h29
     subst e
     refine CV.skip ?_
     refine PV.thenN ?_
     refine CV.seq ?_
     refine CV.block ?_
     refine CV.region ?_
     refine mv ?_
     refine mv ?_
     refine fl hS h30 Rnf.fo168_0 Rnf.one9 fun x55_23 h31 => ?_
     refine vy (V.lenT h31 rfl Rnf.ls9) fun x56_24 h32 => ?_
     refine LV.call hS h32 (g98_ok _ _ _ _ _ _ _ ) hP rfl rfl rfl rfl fun x57_25 T7 n7 h33 ρ its hS => ?_
     refine LV.done ?_
     refine PV.blockN ?_
     refine PV.thenN ?_
     refine CV.region ?_
     refine vy (V.add h33 rfl rfl) fun x58_26 h34 => ?_
     refine mv ?_
     refine LV.done ?_
     exact pb5 hS h34 ⟨rfl, rfl, rfl, rfl, rfl, trivial⟩
    ·
     clear h28 h29
     subst e
     refine CV.exit ?_
     refine PV.thenE ?_
     refine PV.thenE ?_
     refine PV.blockE ?_
     refine PV.thenN ?_
     refine sr ?_
     refine mv ?_
     refine mv ?_
     refine fl hS h30 Rnf.fo168_0 Rnf.one9 fun x63_27 h35 => ?_
     refine vy (V.lenT h35 rfl Rnf.ls9) fun x64_28 h36 => ?_
     refine LV.call hS h36 (g98_ok _ _ _ _ _ _ _ ) hP rfl rfl rfl rfl fun x65_29 T8 n8 h37 ρ its hS => ?_
     refine dn ?_
     refine sr ?_
     refine mv ?_
     refine fl hS h37 Rnf.fo168_2 Rnf.one96 fun x69_30 h38 => ?_
     refine as_ ?_
     refine as_ ?_
     refine dn ?_
     refine CV.ret ?_
     cases h38
     exact PV.ret (by simp) Tryz.results62 hS (RS.tmp rfl (RS.tmp rfl RS.nil)) rfl
noncomputable def g63_k1 (ro : List HT) (y4 y16 : AV) (T3 : HT) (n3 : Nat) : R :=
 condK 630012 y16
 (
  .bad 630013
 )
 (
  condK 630015 y4
  (
   .bad 630016
  )
  (
   .ok (.val (.lit undef)) T3 n3
  )
 )
noncomputable def gd63 (ro : List HT) (pv : AV) (a0 a1 : AV) (T : HT) (nx : Nat) : R :=
 asK 630002 pv 123 (.tup [.lit (.agg #[.pointer none]), .lit (.bool false)]) fun x8_1 =>
 exK 630004 x8_1 0 fun x9_2 =>
 exK 630005 x8_1 1 fun x10_3 =>
 newK T nx (.obj [.lit (.pointer none)] 123) fun x3_4 T1 n1 =>
 stAK 630007 T1 x3_4 x9_2 1 fun T2 =>
 bin0 Tryz.prog .neq 20 (.tmp 11) (.const (.nilIface)) 630010 pv (.lit (.nilIface)) fun x12_5 =>
 condK 630017 x12_5
 (
  notK 630019 x10_3 fun x15_6 =>
  g63_k1 ro x10_3 x15_6 T2 n1
 )
 (
  g63_k1 ro x10_3 (.lit (.bool false)) T2 n1
 )
theorem gd63_ok (ro : List HT) (pv : AV) (a0 a1 : AV) (T : HT) (nx : Nat) : GDk Tryz.prog envE 63 [a0, a1] ro T nx pv (gd63 ro pv a0 a1 T nx) := by
 refine GDk.of_body Tryz.func63 rfl Tryz.ntmps63 Tryz.results63 rfl rfl rfl rfl fun r T' n' h1 w0 base ρ0 its hS hP => ?_
 have X : CtxW envE ρ0 ro (.val r) T' n' := trivial
 unfold gd63 at h1
 refine sr ?_
 refine mv ?_
 refine vy (V.as h1 rfl Rnf.ni123 Rnf.za123) fun x8_1 h2 => ?_
 refine mv ?_
 refine vy (V.ex h2 rfl) fun x9_2 h3 => ?_
 refine vy (V.ex h3 rfl) fun x10_3 h4 => ?_
 refine LV.alloc hS h4 rfl Rnf.zr123 rfl rfl rfl fun x3_4 T1 n1 h5 ρ its hS hdr => ?_
 refine LV.stA hS h5 rfl rfl rfl Rnf.agg123 rfl rfl rfl fun T2 its h6 hS => ?_
 refine as_ ?_
 refine dn ?_
 refine CV.seq ?_
 refine sr ?_
 refine mv ?_
 refine vy (V.bin0 h6 rfl rfl) fun x12_5 h7 => ?_
 refine mv ?_
 refine ls2 X 4 16 [] (g63_k1 ro) 3 ?_ ?_
 ·
  rcases condK_inv h7 with ⟨e, h11⟩ | ⟨e, h11⟩
  ·
   clear h1 h2 h3 h4 h5 h6 h7
   subst e
   refine mv ?_
   refine vy (V.not h11 rfl) fun x15_6 h12 => ?_
   refine pu ?_
   exact la2 hS h12 ⟨rfl, rfl, trivial⟩
  ·
   clear h1 h2 h3 h4 h5 h6 h7
   subst e
   refine sk ?_
   refine sk ?_
   refine pu ?_
   exact la2 hS h11 ⟨rfl, rfl, trivial⟩
 ·
  intro y4 y16 T3 n3 ρ its hS h8
  unfold g63_k1 at h8
  clear h1 h2 h3 h4 h5 h6 h7
  refine dn ?_
  refine CV.cond h8 rfl (fun e h9 => ?_) (fun e h9 => ?_)
  ·
   clear h8
   subst e
   cases h9
  ·
   clear h8
   subst e
   refine CV.skip ?_
   refine PV.thenN ?_
   refine sr ?_
   refine mv ?_
   refine dn ?_
   refine CV.cond h9 rfl (fun e h10 => ?_) (fun e h10 => ?_)
   ·
    clear h9
    subst e
    cases h10
   ·
    clear h9
    subst e
    refine CV.skip ?_
    cases h10
    exact PV.dend hS
noncomputable def g33 (ro : List HT) (a0 a1 : AV) (T : HT) (nx : Nat) : R :=
 newK T nx (.obj [.lit (.slice none 0 0)] 23) fun x4_1 T1 n1 =>
 newK T1 n1 (.obj [.lit (.nilIface)] 25) fun x5_2 T2 n2 =>
 callK (g62 ro a0 T2 n2) fun x10_3 T3 n3 =>
 exK 330006 x10_3 0 fun x11_4 =>
 exK 330007 x10_3 1 fun x12_5 =>
 stK 330009 T3 x5_2 x12_5 fun T4 =>
 ldK 330010 T4 ro x5_2 fun x13_6 =>
 bin0 Tryz.prog .neq 25 (.tmp 13) (.const (.nilIface)) 330011 x13_6 (.lit (.nilIface)) fun x14_7 =>
 condK 330012 x14_7
 (
  .bad 330013
 )
 (
  optK 330015 (bld98 [(0, x11_4)]) fun x17_8 =>
  boxK 330016 T4 n3 x17_8 98 fun x18_9 T5 n5 =>
  dynK 330022 a1 fun f p q => callPK 330022 (scc3 4000 f ro (p ++ ([x18_9] ++ q)) T5 n5) (fun pv t m => leaveK 330022 (gd63 ro pv x4_1 x5_2 t m) fun T6 n6 =>
   ldK 330023 T6 ro x4_1 fun x4_10 =>
   ldK 330024 T6 ro x5_2 fun x5_11 =>
   .ok (.val (.tup [x4_10, x5_11])) T6 n6
  ) fun x22_12 T7 n7 =>
  fldK 330026 T7 ro x18_9 2 fun x26_13 =>
  stK 330027 T7 x4_1 x26_13 fun T8 =>
  stK 330028 T8 x5_2 (.lit (.nilIface)) fun T9 =>
  leaveK 330029 (gd63 ro (.lit .nilIface) x4_1 x5_2 T9 n7) fun T10 n10 =>
  ldK 330030 T10 ro x4_1 fun x4_14 =>
  ldK 330031 T10 ro x5_2 fun x5_15 =>
  .ok (.val (.tup [x4_14, x5_15])) T10 n10
 )
theorem g33_ok (ro : List HT) (a0 a1 : AV) (T : HT) (nx : Nat) : GOk Tryz.prog envE 33 [a0, a1] ro T nx (g33 ro a0 a1 T nx) := by
 refine GOk.of_bodyD Tryz.func33 rfl Tryz.ntmps33 (by kernel_rfl) rfl fun r T' n' h1 w0 base ρ0 its hS hP => ?_
 have X : CtxW envE ρ0 ro r T' n' := trivial
 unfold g33 at h1
 refine sr ?_
 refine LV.alloc hS h1 rfl Rnf.zr23 rfl rfl rfl fun x4_1 T1 n1 h2 ρ its hS hdr => ?_
 refine LV.alloc hS h2 rfl Rnf.zr25 rfl rfl rfl fun x5_2 T2 n2 h3 ρ its hS hdr => ?_
 refine dn ?_
 refine sr ?_
 refine mv ?_
 refine LV.call hS h3 (g62_ok _ _ _ _ ) hP rfl rfl rfl rfl fun x10_3 T3 n3 h4 ρ its hS => ?_
 refine mv ?_
 refine vy (V.ex h4 rfl) fun x11_4 h5 => ?_
 refine vy (V.ex h5 rfl) fun x12_5 h6 => ?_
 refine as_ ?_
 refine LV.st hS h6 rfl rfl rfl Rnf.siz25 rfl rfl fun T4 its h7 hS => ?_
 refine dn ?_
 refine CV.seq ?_
 refine sr ?_
 refine vy (V.ld hS h7 rfl Rnf.one25) fun x13_6 h8 => ?_
 refine vy (V.bin0 h8 rfl rfl) fun x14_7 h9 => ?_
 refine dn ?_
 refine CV.cond h9 rfl (fun e h10 => ?_) (fun e h10 => ?_)
 ·
  clear h1 h2 h3 h4 h5 h6 h7 h8 h9
  subst e
  cases h10
 ·
  clear h1 h2 h3 h4 h5 h6 h7 h8 h9
  subst e
  refine CV.skip ?_
  refine PV.thenN ?_
  refine sr ?_
  refine mv ?_
  refine vy (V.bld h10 rfl) fun x17_8 h11 => ?_
  refine LV.box hS h11 rfl rfl rfl rfl rfl fun x18_9 T5 n5 h12 ρ its hS hdr => ?_
  refine as_ ?_
  refine dn ?_
  refine sr ?_
  refine pu ?_
  refine LV.defer rfl rfl rfl rfl rfl rfl fun us hys => ?_
  refine dn ?_
  refine sr ?_
  refine mv ?_
  refine mv ?_
  refine LV.callDP (fn := Tryz.f33) (kf := 63) (Xp := fun pv t m => gd63 ro pv x4_1 x5_2 t m) (G := fun f gs => scc3 4000 f ro gs T5 n5) (qs := [x18_9]) hS h12 (fun f gs => scc3_ok _ _ _ _ _ _) (fun pv t m => gd63_ok _ _ _ _ _ _ ) Rnf.en63 hys (fun ch a w z => z) rfl rfl rfl rfl rfl rfl rfl (fun T6 n6 h13 ρ its hS => ?_) (fun x22_12 T7 n7 h16 ρ its hE hS => ?_)
  ·
   refine PV.ld (x := .tmp 4) (t := 23) hS h13 rfl Rnf.one23 fun x4_10 h14 hVx4_10 => ?_
   refine PV.ld (x := .tmp 5) (t := 25) hS h14 rfl Rnf.one25 fun x5_11 h15 hVx5_11 => ?_
   cases h15
   exact PV.ret (by simp) Tryz.results33 hS (RS.cell hVx4_10 (RS.cell hVx5_11 RS.nil)) rfl
  have hys := instL_ext hE _ _ hys
  refine dn ?_
  refine sr ?_
  refine mv ?_
  refine fl hS h16 Rnf.fo98_2 Rnf.one23 fun x26_13 h17 => ?_
  refine LV.st hS h17 rfl rfl rfl Rnf.siz23 rfl rfl fun T8 its h18 hS => ?_
  refine LV.st hS h18 rfl rfl rfl Rnf.siz25 rfl rfl fun T9 its h19 hS => ?_
  refine dn ?_
  refine CV.ret ?_
  refine PV.leaveR (by simp) hS hys h19 (gd63_ok _ _ _ _ _ _ ) Rnf.en63 fun T10 n10 h20 ρ its hS => ?_
  refine PV.ld (x := .tmp 4) (t := 23) hS h20 rfl Rnf.one23 fun x4_14 h21 hVx4_14 => ?_
  refine PV.ld (x := .tmp 5) (t := 25) hS h21 rfl Rnf.one25 fun x5_15 h22 hVx5_15 => ?_
  cases h22
  exact PV.ret (by simp) Tryz.results33 hS (RS.cell hVx4_14 (RS.cell hVx5_15 RS.nil)) rfl
noncomputable def g11 (ro : List HT) (a0 : AV) (T : HT) (nx : Nat) : R :=
 callK (g33 ro a0 (.lit (.func (.func 34) #[] #[])) T nx) fun x5_1 T1 n1 =>
 exK 110005 x5_1 0 fun x6_2 =>
 exK 110006 x5_1 1 fun x7_3 =>
 .ok (.val (.tup [x6_2, x7_3])) T1 n1
theorem g11_ok (ro : List HT) (a0 : AV) (T : HT) (nx : Nat) : GOk Tryz.prog envE 11 [a0] ro T nx (g11 ro a0 T nx) := by
 refine GOk.of_body Tryz.func11 rfl Tryz.ntmps11 (by kernel_rfl) rfl fun r T' n' h1 w0 base ρ0 its hS hP => ?_
 have X : CtxW envE ρ0 ro r T' n' := trivial
 unfold g11 at h1
 refine sr ?_
 refine as_ ?_
 refine as_ ?_
 refine dn ?_
 refine sr ?_
 refine mv ?_
 refine LV.call hS h1 (g33_ok _ _ _ _ _ ) hP rfl rfl rfl rfl fun x5_1 T1 n1 h2 ρ its hS => ?_
 refine vy (V.ex h2 rfl) fun x6_2 h3 => ?_
 refine vy (V.ex h3 rfl) fun x7_3 h4 => ?_
 refine as_ ?_
 refine as_ ?_
 refine dn ?_
 refine CV.ret ?_
 cases h4
 exact PV.ret (by simp) Tryz.results11 hS (RS.tmp rfl (RS.tmp rfl RS.nil)) rfl
noncomputable def g17 (ro : List HT) (a0 a1 : AV) (T : HT) (nx : Nat) : R :=
 newK T nx (.obj [.lit (.int .i64 0), .lit (.bool false), .lit (.int .i64 0), .lit (.bool false), .lit (.string ⟨#[]⟩)] 36) fun x4_1 T1 n1 =>
 eqK Tryz.prog 3 (.tmp 5) (.const (.int .i64 (.ofNat 0))) 170003 a0 (.lit (.int .i64 (.ofNat 0))) fun x6_2 =>
 condK 170004 x6_2
 (
  .bad 170005
 )
 (
  optK 170008 (bld36 [(0, a0), (1, (.lit (.bool true))), (2, a1)]) fun x10_3 =>
  stAK 170009 T1 x4_1 x10_3 5 fun T2 =>
  ldAK 170010 T2 ro x4_1 5 fun x4_4 =>
  .ok (.val x4_4) T2 n1
 )
theorem g17_ok (ro : List HT) (a0 a1 : AV) (T : HT) (nx : Nat) : GOk Tryz.prog envE 17 [a0, a1] ro T nx (g17 ro a0 a1 T nx) := by
 refine GOk.of_body Tryz.func17 rfl Tryz.ntmps17 (by kernel_rfl) rfl fun r T' n' h1 w0 base ρ0 its hS hP => ?_
 have X : CtxW envE ρ0 ro r T' n' := trivial
 unfold g17 at h1
 refine sr ?_
 refine LV.alloc hS h1 rfl Rnf.zr36 rfl rfl rfl fun x4_1 T1 n1 h2 ρ its hS hdr => ?_
 refine dn ?_
 refine CV.seq ?_
 refine sr ?_
 refine mv ?_
 refine vy (V.eq h2 rfl rfl) fun x6_2 h3 => ?_
 refine dn ?_
 refine CV.cond h3 rfl (fun e h4 => ?_) (fun e h4 => ?_)
 ·
  clear h1 h2 h3
  subst e
  cases h4
 ·
  clear h1 h2 h3
  subst e
  refine CV.skip ?_
  refine PV.thenN ?_
  refine sr ?_
  refine mv ?_
  refine mv ?_
  refine vy (V.bld h4 rfl) fun x10_3 h5 => ?_
  refine LV.stA hS h5 rfl rfl rfl Rnf.agg36 rfl rfl rfl fun T2 its h6 hS => ?_
  refine dn ?_
  refine CV.ret ?_
  refine PV.ldA (x := .tmp 4) (t := 36) hS h6 rfl Rnf.agg36 fun x4_4 h7 hVx4_4 => ?_
  cases h7
  exact PV.ret (by simp) Tryz.results17 hS (RS.cell hVx4_4 RS.nil) rfl
noncomputable def g119 (ro : List HT) (T : HT) (nx : Nat) : R :=
 bsK 1190019 T nx 17 25 1 [(0, (.iface 253 (.opq 0))), (1, (.iface 253 (.opq 1))), (2, (.iface 253 (.opq 2))), (3, (.iface 253 (.opq 3))), (4, (.iface 253 (.opq 4))), (5, (.iface 253 (.opq 5))), (6, (.iface 253 (.opq 6))), (7, (.iface 253 (.opq 7))), (8, (.iface 253 (.opq 8))), (9, (.iface 253 (.opq 9))), (10, (.iface 253 (.opq 10))), (11, (.iface 253 (.opq 11))), (12, (.iface 253 (.opq 12))), (13, (.iface 253 (.opq 13))), (14, (.iface 253 (.opq 14))), (15, (.iface 253 (.opq 15))), (16, (.iface 253 (.opq 16)))] fun x18_1 T1 n1 =>
 .ok (.val x18_1) T1 n1
theorem g119_ok (ro : List HT) (T : HT) (nx : Nat) : GOk Tryz.prog envE 119 [] ro T nx (g119 ro T nx) := by
 refine GOk.of_body Tryz.func119 rfl Tryz.ntmps119 (by kernel_rfl) rfl fun r T' n' h1 w0 base ρ0 its hS hP => ?_
 have X : CtxW envE ρ0 ro r T' n' := trivial
 unfold g119 at h1
 refine sr ?_
 refine as_ ?_
 refine dn ?_
 refine sr ?_
 refine sv (VAL.ldG hS (by rfl) Rnf.one25) ?_
 refine sv (VAL.ldG hS (by rfl) Rnf.one25) ?_
 refine sv (VAL.ldG hS (by rfl) Rnf.one25) ?_
 refine sv (VAL.ldG hS (by rfl) Rnf.one25) ?_
 refine sv (VAL.ldG hS (by rfl) Rnf.one25) ?_
 refine sv (VAL.ldG hS (by rfl) Rnf.one25) ?_
 refine sv (VAL.ldG hS (by rfl) Rnf.one25) ?_
 refine sv (VAL.ldG hS (by rfl) Rnf.one25) ?_
 refine sv (VAL.ldG hS (by rfl) Rnf.one25) ?_
 refine sv (VAL.ldG hS (by rfl) Rnf.one25) ?_
 refine sv (VAL.ldG hS (by rfl) Rnf.one25) ?_
 refine sv (VAL.ldG hS (by rfl) Rnf.one25) ?_
 refine sv (VAL.ldG hS (by rfl) Rnf.one25) ?_
 refine sv (VAL.ldG hS (by rfl) Rnf.one25) ?_
 refine sv (VAL.ldG hS (by rfl) Rnf.one25) ?_
 refine sv (VAL.ldG hS (by rfl) Rnf.one25) ?_
 refine sv (VAL.ldG hS (by rfl) Rnf.one25) ?_
 refine LV.bslice hS h1 rfl rfl Rnf.el179 rfl rfl rfl rfl fun x18_1 T1 n1 h2 ρ its hS hdr => ?_
 refine as_ ?_
 refine dn ?_
 refine CV.ret ?_
 cases h2
 exact PV.ret (by simp) Tryz.results119 hS (RS.tmp rfl RS.nil) rfl
noncomputable def g120_k1 (ro : List HT) (y0 y1 y10 : AV) (T1 : HT) (n1 : Nat) : R :=
 condK 1200005 y10
 (
  .bad 1200006
 )
 (
  eeK Tryz.prog 253 25 (.tmp 17) (.tmp 18) 1200009 y0 y1 fun x19_2 =>
  .ok (.val x19_2) T1 n1
 )
noncomputable def g120 (ro : List HT) (a0 a1 : AV) (T : HT) (nx : Nat) : R :=
 bin0 Tryz.prog .eql 25 (.tmp 5) (.const (.nilIface)) 1200003 a0 (.lit (.nilIface)) fun x6_1 =>
 condK 1200011 x6_1
 (
  g120_k1 ro a0 a1 (.lit (.bool true)) T nx
 )
 (
  bin0 Tryz.prog .eql 25 (.tmp 8) (.const (.nilIface)) 1200014 a1 (.lit (.nilIface)) fun x9_3 =>
  g120_k1 ro a0 a1 x9_3 T nx
 )
theorem g120_ok (ro : List HT) (a0 a1 : AV) (T : HT) (nx : Nat) : GOk Tryz.prog envE 120 [a0, a1] ro T nx (g120 ro a0 a1 T nx) := by
 refine GOk.of_body Tryz.func120 rfl Tryz.ntmps120 (by kernel_rfl) rfl fun r T' n' h1 w0 base ρ0 its hS hP => ?_
 have X : CtxW envE ρ0 ro r T' n' := trivial
 unfold g120 at h1
 refine sr ?_
 refine as_ ?_
 refine dn ?_
 refine CV.seq ?_
 refine sr ?_
 refine mv ?_
 refine vy (V.bin0 h1 rfl rfl) fun x6_1 h2 => ?_
 refine mv ?_
 refine ls3 X 0 1 10 [(4, (.lit (.bool false)))] (g120_k1 ro) 3 ?_ ?_
 ·
  rcases condK_inv h2 with ⟨e, h6⟩ | ⟨e, h6⟩
  ·
   clear h1 h2
   subst e
   refine sk ?_
   refine sk ?_
   refine pu ?_
   exact la3 hS h6 ⟨rfl, rfl, rfl, rfl, trivial⟩
  ·
   clear h1 h2
   subst e
   refine mv ?_
   refine vy (V.bin0 h6 rfl rfl) fun x9_3 h7 => ?_
   refine pu ?_
   exact la3 hS h7 ⟨rfl, rfl, rfl, rfl, trivial⟩
 ·
  intro y0 y1 y10 T1 n1 ρ its hS h3
  unfold g120_k1 at h3
  clear h1 h2
  refine dn ?_
  refine CV.cond h3 rfl (fun e h4 => ?_) (fun e h4 => ?_)
  ·
   clear h3
   subst e
   cases h4
  ·
   clear h3
   subst e
   refine CV.skip ?_
   refine PV.thenN ?_
   refine sr ?_
   refine mv ?_
   refine mv ?_
   refine vy (V.ee hS h4 rfl rfl Rnf.ii25 Rnf.cp253) fun x19_2 h5 => ?_
   refine as_ ?_
   refine dn ?_
   refine CV.ret ?_
   cases h5
   exact PV.ret (by simp) Tryz.results120 hS (RS.tmp rfl RS.nil) rfl
noncomputable def g73_b1 (ro : List HT) (lp1 : AV → AV → AV → AV → HT → Nat → R) (y0 y2 y3 y4 : AV) (T2 : HT) (n2 : Nat) : R :=
 lenSK 730008 y3 fun x8_2 =>
 ltK Tryz.prog 3 (.tmp 6) (.tmp 8) 730009 y4 x8_2 fun x9_3 =>
 condK 730010 x9_3
 (
  iaK 730014 y3 y4 1 fun x15_4 =>
  ldK 730015 T2 ro x15_4 fun x16_5 =>
  callK (g120 ro y0 x16_5 T2 n2) fun x17_6 T3 n3 =>
  condK 730017 x17_6
  (
   addK Tryz.prog 3 (.const (.int .i64 (.ofNat 101))) (.tmp 18) 730019 (.lit (.int .i64 (.ofNat 101))) y4 fun x19_7 =>
   .ok (.val x19_7) T3 n3
  )
  (
   addK Tryz.prog 3 (.tmp 10) (.const (.int .i64 (.ofNat 1))) 730022 y4 (.lit (.int .i64 (.ofNat 1))) fun x11_8 =>
   lp1 y0 y2 y3 x11_8 T3 n3
  )
 )
 (
  .ok (.val (.lit (.int .i64 (.negSucc 0)))) T2 n2
 )
noncomputable def g73 (ro : List HT) (a0 : AV) (T : HT) (nx : Nat) : R :=
 callK (g119 ro T nx) fun x5_1 T1 n1 =>
 lpf4 730005 (g73_b1 ro) 100000 a0 (.lit (.int .i64 (.ofNat 0))) x5_1 (.lit (.int .i64 (.ofNat 0))) T1 n1
theorem g73_ok (ro : List HT) (a0 : AV) (T : HT) (nx : Nat) : GOk Tryz.prog envE 73 [a0] ro T nx (g73 ro a0 T nx) := by
 refine GOk.of_body Tryz.func73 rfl Tryz.ntmps73 (by kernel_rfl) rfl fun r T' n' h1 w0 base ρ0 its hS hP => ?_
 have X : CtxW envE ρ0 ro r T' n' := trivial
 unfold g73 at h1
 refine sr ?_
 refine as_ ?_
 refine dn ?_
 refine sr ?_
 refine LV.call hS h1 (g119_ok _ _ _ ) hP rfl rfl rfl rfl fun x5_1 T1 n1 h2 ρ its hS => ?_
 refine as_ ?_
 refine dn ?_
 refine CV.seq ?_
 refine sr ?_
 refine as_ ?_
 refine dn ?_
 refine CV.block ?_
 refine cl4 X 0 2 3 4 [] hS h2 ⟨rfl, rfl, rfl, rfl, trivial⟩ ?_
 intro f1 y0 y2 y3 y4 T2 n2 ρ its hS h3
 unfold g73_b1 at h3
 clear h1 h2
 refine CV.seq ?_
 refine sr ?_
 refine mv ?_
 refine mv ?_
 refine vy (V.lenS h3 rfl Rnf.ls179) fun x8_2 h4 => ?_
 refine vy (V.lt h4 rfl rfl) fun x9_3 h5 => ?_
 refine dn ?_
 refine CV.cond h5 rfl (fun e h6 => ?_) (fun e h6 => ?_)
 ·
  clear h3 h4 h5
  subst e
  refine CV.skip ?_
  refine PV.thenN ?_
  refine CV.seq ?_
  refine CV.block ?_
  refine sr ?_
  refine mv ?_
  refine mv ?_
  refine mv ?_
  refine vy (V.ia h6 rfl rfl Rnf.el179) fun x15_4 h7 => ?_
  refine vy (V.ld hS h7 rfl Rnf.one25) fun x16_5 h8 => ?_
  refine LV.call hS h8 (g120_ok _ _ _ _ _ ) hP rfl rfl rfl rfl fun x17_6 T3 n3 h9 ρ its hS => ?_
  refine dn ?_
  refine CV.cond h9 rfl (fun e h10 => ?_) (fun e h10 => ?_)
  ·
   clear h6 h7 h8 h9
   subst e
   refine sr ?_
   refine mv ?_
   refine vy (V.add h10 rfl rfl) fun x19_7 h11 => ?_
   refine as_ ?_
   refine dn ?_
   refine CV.ret ?_
   refine PV.blockR ?_
   refine PV.thenR ?_
   refine PV.thenR ?_
   refine PV.blockR ?_
   refine PV.thenR ?_
   cases h11
   exact PV.ret (by simp) Tryz.results73 hS (RS.tmp rfl RS.nil) rfl
  ·
   clear h6 h7 h8 h9
   subst e
   refine CV.skip ?_
   refine PV.blockN ?_
   refine PV.thenN ?_
   refine CV.region ?_
   refine mv ?_
   refine vy (V.add h10 rfl rfl) fun x11_8 h12 => ?_
   refine as_ ?_
   refine LV.done ?_
   exact pb4 hS h12 ⟨rfl, rfl, rfl, rfl, trivial⟩
 ·
  clear h3 h4 h5
  subst e
  refine CV.exit ?_
  refine PV.thenE ?_
  refine PV.thenE ?_
  refine PV.blockE ?_
  refine PV.thenN ?_
  refine sr ?_
  refine as_ ?_
  refine dn ?_
  refine CV.ret ?_
  cases h6
  exact PV.ret (by simp) Tryz.results73 hS (RS.tmp rfl RS.nil) rfl
noncomputable def g43_k1 (ro : List HT) (y2 y3 y23 : AV) (T2 : HT) (n2 : Nat) : R :=
 condK 430016 y23
 (
  .bad 430017
 )
 (
  ncK 430019 y3 fun x26_7 =>
  faK 430020 x26_7 1 fun x27_8 =>
  ldQK 430021 T2 ro [y3] x27_8 fun x28_9 =>
  ncK 430023 y3 fun x31_10 =>
  faK 430024 x31_10 0 fun x32_11 =>
  ldQK 430025 T2 ro [y3] x32_11 fun x33_12 =>
  callK (g73 ro x28_9 T2 n2) fun x29_13 T3 n3 =>
  keepK 430027 T2 T3 [y3] <|
  callK (g17 ro x29_13 x33_12 T3 n3) fun x34_14 T4 n4 =>
  stAK 430029 T4 y2 x34_14 5 fun T5 =>
  ldAK 430030 T5 ro y2 5 fun x2_15 =>
  .ok (.val x2_15) T5 n4
 )
noncomputable def g43 (ro : List HT) (a0 : AV) (T : HT) (nx : Nat) : R :=
 newK T nx (.obj [.lit (.int .i64 0), .lit (.bool false), .lit (.int .i64 0), .lit (.bool false), .lit (.string ⟨#[]⟩)] 36) fun x2_1 T1 n1 =>
 asK 430003 a0 72 (.tup [.lit (.pointer none), .lit (.bool false)]) fun x7_2 =>
 exK 430005 x7_2 0 fun x8_3 =>
 exK 430006 x7_2 1 fun x9_4 =>
 notK 430010 x9_4 fun x11_5 =>
 condK 430011 x11_5
 (
  .bad 430012
 )
 (
  bin0 Tryz.prog .eql 72 (.tmp 15) (.const (.pointer none)) 430014 x8_3 (.lit (.pointer none)) fun x16_6 =>
  condK 430031 x16_6
  (
   g43_k1 ro x2_1 x8_3 (.lit (.bool true)) T1 n1
  )
  (
   ncK 430034 x8_3 fun x19_16 =>
   faK 430035 x19_16 1 fun x20_17 =>
   ldK 430036 T1 ro x20_17 fun x21_18 =>
   bin0 Tryz.prog .eql 25 (.tmp 21) (.const (.nilIface)) 430037 x21_18 (.lit (.nilIface)) fun x22_19 =>
   g43_k1 ro x2_1 x8_3 x22_19 T1 n1
  )
 )
theorem g43_ok (ro : List HT) (a0 : AV) (T : HT) (nx : Nat) : GOk Tryz.prog envE 43 [a0] ro T nx (g43 ro a0 T nx) := by
 refine GOk.of_body Tryz.func43 rfl Tryz.ntmps43 (by kernel_rfl) rfl fun r T' n' h1 w0 base ρ0 its hS hP => ?_
 have X : CtxW envE ρ0 ro r T' n' := trivial
 unfold g43 at h1
 refine sr ?_
 refine LV.alloc hS h1 rfl Rnf.zr36 rfl rfl rfl fun x2_1 T1 n1 h2 ρ its hS hdr => ?_
 refine dn ?_
 refine sr ?_
 refine mv ?_
 refine vy (V.as h2 rfl Rnf.ni72 Rnf.za72) fun x7_2 h3 => ?_
 refine mv ?_
 refine vy (V.ex h3 rfl) fun x8_3 h4 => ?_
 refine vy (V.ex h4 rfl) fun x9_4 h5 => ?_
 refine as_ ?_
 refine as_ ?_
 refine dn ?_
 refine CV.seq ?_
 refine sr ?_
 refine mv ?_
 refine vy (V.not h5 rfl) fun x11_5 h6 => ?_
 refine dn ?_
 refine CV.cond h6 rfl (fun e h7 => ?_) (fun e h7 => ?_)
 ·
  clear h1 h2 h3 h4 h5 h6
  subst e
  cases h7
 ·
  clear h1 h2 h3 h4 h5 h6
  subst e
  refine CV.skip ?_
  refine PV.thenN ?_
  refine CV.seq ?_
  refine sr ?_
  refine mv ?_
  refine vy (V.bin0 h7 rfl rfl) fun x16_6 h8 => ?_
  refine mv ?_
  refine ls3 X 2 3 23 [] (g43_k1 ro) 6 ?_ ?_
  ·
   rcases condK_inv h8 with ⟨e, h22⟩ | ⟨e, h22⟩
   ·
    clear h7 h8
    subst e
    refine sk ?_
    refine sk ?_
    refine sk ?_
    refine sk ?_
    refine sk ?_
    refine pu ?_
    exact la3 hS h22 ⟨rfl, rfl, rfl, trivial⟩
   ·
    clear h7 h8
    subst e
    refine mv ?_
    refine vy (V.nc h22 rfl) fun x19_16 h23 => ?_
    refine vy (V.fa h23 rfl Rnf.fo74_1) fun x20_17 h24 => ?_
    refine vy (V.ld hS h24 rfl Rnf.one25) fun x21_18 h25 => ?_
    refine vy (V.bin0 h25 rfl rfl) fun x22_19 h26 => ?_
    refine pu ?_
    exact la3 hS h26 ⟨rfl, rfl, rfl, trivial⟩
  ·
   intro y2 y3 y23 T2 n2 ρ its hS h9
   unfold g43_k1 at h9
   clear h7 h8
   refine dn ?_
   refine CV.cond h9 rfl (fun e h10 => ?_) (fun e h10 => ?_)
   ·
    clear h9
    subst e
    cases h10
   ·
    clear h9
    subst e
    refine CV.skip ?_
    refine PV.thenN ?_
    refine CV.seq ?_
    refine CV.regionMS hS [y3] [(0, .anywhere), (1, .anywhere), (2, .anywhere), (3, .held), (5, .anywhere), (6, .anywhere), (7, .anywhere), (8, .held), (4, .alone), (9, .alone), (10, .alone)] rfl (fun c a a' w hd hq => PanicOk.root (P := Tryz.prog) (fn := Tryz.f43) (w0 := w0) (base := base) (E := envE) (ro := ro) (r := r) (T' := T') (n' := n') (ρ0 := ρ0) c a a' w hd hq) (by kernel_rfl) ?_
    have hK := KeepS.start [y3] hS
    have hR := hS
    have hP0 := hP
    replace hP := PK.up hR hP
    replace hS := hR.root
    refine MV.step0 (i := 0) rfl (VAL.move rfl) rfl rfl rfl ?_
    refine MV.lift0 (i := 1) rfl (V.nc h10 rfl) rfl rfl rfl fun x26_7 h11 => ?_
    refine MV.lift0 (i := 2) rfl (V.fa h11 rfl Rnf.fo74_1) rfl rfl rfl fun x27_8 h12 => ?_
    refine MV.lift1 (i := 3) rfl hK (V.ldQ hS h12 rfl Rnf.one25) rfl rfl rfl [] (by kernel_rfl) fun x28_9 h13 => ?_
    refine MV.step0 (i := 5) rfl (VAL.move rfl) rfl rfl rfl ?_
    refine MV.lift0 (i := 6) rfl (V.nc h13 rfl) rfl rfl rfl fun x31_10 h14 => ?_
    refine MV.lift0 (i := 7) rfl (V.fa h14 rfl Rnf.fo74_0) rfl rfl rfl fun x32_11 h15 => ?_
    refine MV.lift1 (i := 8) rfl hK (V.ldQ hS h15 rfl Rnf.one3) rfl rfl rfl [3] (by kernel_rfl) fun x33_12 h16 => ?_
    refine MV.force (i := 4) rfl ?_
    refine LV.call hS h16 (g73_ok _ _ _ _ ) hP rfl rfl rfl rfl fun x29_13 T3 n3 h17 ρ its hS => ?_
    obtain ⟨hK, h18⟩ := KeepS.step hR hS h17
    refine LV.nextM [8] (by kernel_rfl) (fun _ => hK) ?_
    refine MV.force (i := 9) rfl ?_
    refine LV.call hS h18 (g17_ok _ _ _ _ _ ) hP rfl rfl rfl rfl fun x34_14 T4 n4 h19 ρ its hS => ?_
    refine LV.nextM [] (by kernel_rfl) (fun z => absurd rfl z) ?_
    refine MV.force (i := 10) rfl ?_
    refine LV.stA hS h19 rfl rfl rfl Rnf.agg36 rfl rfl rfl fun T5 its h20 hS => ?_
    refine LV.nextM [] (by kernel_rfl) (fun z => absurd rfl z) ?_
    replace hS := hR.up hS
    replace hP := hP0
    refine mdn ?_
    refine CV.ret ?_
    refine PV.ldA (x := .tmp 2) (t := 36) hS h20 rfl Rnf.agg36 fun x2_15 h21 hVx2_15 => ?_
    cases h21
    exact PV.ret (by simp) Tryz.results43 hS (RS.cell hVx2_15 RS.nil) rfl

end Go.Proofs.YtdepmlcnllofiaaGreatDoor.Rn
