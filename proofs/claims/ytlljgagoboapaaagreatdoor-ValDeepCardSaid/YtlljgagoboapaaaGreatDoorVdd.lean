/-
  Proved here: plain functions that do what the program's functions do, each with its proof.
-/
import Derived.Test.YtlljgagoboapaaaGreatDoorVdc
namespace Go.Proofs.YtlljgagoboapaaaGreatDoor.Vd
open Go.EY Go.EX Go.SX Go.RowKit
noncomputable def g175_k3 (ro : List HT) (y0 y2 y3 y4 y84 : AV) (T5 : HT) (n5 : Nat) : R :=
 condK 1750039 y84
 (
  .bad 1750040
 )
 (
  callK (g133 ro y0 (.lit (.int .i64 (.ofNat 2))) y4 y3 T5 n5) fun x90_22 T6 n6 =>
  .ok (.val (.lit (.nilIface))) T6 n6
 )
noncomputable def g175_k4 (ro : List HT) (y0 y2 y3 y4 y83 : AV) (T7 : HT) (n7 : Nat) : R :=
 g175_k3 ro y0 y2 y3 y4 y83 T7 n7
noncomputable def g175_k2 (ro : List HT) (lp1 : AV → AV → AV → HT → Nat → R) (y0 y2 y3 y42 : AV) (T2 : HT) (n2 : Nat) : R :=
 condK 1750006 y42
 (
  ncK 1750008 y0 fun x44_2 =>
  faK 1750009 x44_2 0 fun x45_3 =>
  ldK 1750010 T2 ro x45_3 fun x46_4 =>
  ncK 1750012 y0 fun x48_5 =>
  faK 1750013 x48_5 1 fun x49_6 =>
  ldK 1750014 T2 ro x49_6 fun x50_7 =>
  ixK 1750015 x46_4 x50_7 fun x51_8 =>
  callK (g172 ro x51_8 T2 n2) fun x52_9 T3 n3 =>
  condK 1750017 x52_9
  (
   .bad 1750018
  )
  (
   fldK 1750020 T3 ro y0 1 fun x58_10 =>
   addK Tryz.prog 3 (.tmp 58) (.const (.int .i64 (.ofNat 1))) 1750021 x58_10 (.lit (.int .i64 (.ofNat 1))) fun x59_11 =>
   faK 1750022 y0 1 fun x61_12 =>
   stK 1750023 T3 x61_12 x59_11 fun T4 =>
   lp1 y0 y2 y3 T4 n3
  )
 )
 (
  ncK 1750025 y0 fun x63_13 =>
  faK 1750026 x63_13 0 fun x64_14 =>
  ldK 1750027 T2 ro x64_14 fun x65_15 =>
  ncK 1750030 y0 fun x68_16 =>
  faK 1750031 x68_16 1 fun x69_17 =>
  ldK 1750032 T2 ro x69_17 fun x70_18 =>
  sliceF 1750033 x65_15 (some y3) (some x70_18) fun x71_19 =>
  lenTK 1750036 x71_19 fun x73_20 =>
  gtK Tryz.prog 3 (.tmp 73) (.const (.int .i64 (.ofNat 600))) 1750037 x73_20 (.lit (.int .i64 (.ofNat 600))) fun x74_21 =>
  condK 1750046 x74_21
  (
   g175_k3 ro y0 y2 y3 x71_19 (.lit (.bool true)) T2 n2
  )
  (
   ixK 1750049 x71_19 (.lit (.int .i64 (.ofNat 0))) fun x77_23 =>
   eqK Tryz.prog 5 (.tmp 77) (.const (.int .u8 (.ofNat 48))) 1750050 x77_23 (.lit (.int .u8 (.ofNat 48))) fun x78_24 =>
   condK 1750053 x78_24
   (
    lenTK 1750055 x71_19 fun x81_25 =>
    gtK Tryz.prog 3 (.tmp 81) (.const (.int .i64 (.ofNat 1))) 1750056 x81_25 (.lit (.int .i64 (.ofNat 1))) fun x82_26 =>
    g175_k4 ro y0 y2 y3 x71_19 x82_26 T2 n2
   )
   (
    g175_k4 ro y0 y2 y3 x71_19 (.lit (.bool false)) T2 n2
   )
  )
 )
noncomputable def g175_b1 (ro : List HT) (lp1 : AV → AV → AV → HT → Nat → R) (y0 y2 y3 : AV) (T1 : HT) (n1 : Nat) : R :=
 ncK 1750060 y0 fun x10_27 =>
 faK 1750061 x10_27 1 fun x11_28 =>
 ldK 1750062 T1 ro x11_28 fun x12_29 =>
 ncK 1750064 y0 fun x14_30 =>
 faK 1750065 x14_30 0 fun x15_31 =>
 ldK 1750066 T1 ro x15_31 fun x16_32 =>
 lenTK 1750067 x16_32 fun x17_33 =>
 ltK Tryz.prog 3 (.tmp 12) (.tmp 17) 1750068 x12_29 x17_33 fun x18_34 =>
 condK 1750070 x18_34
 (
  ncK 1750072 y0 fun x21_35 =>
  faK 1750073 x21_35 0 fun x22_36 =>
  ldK 1750074 T1 ro x22_36 fun x23_37 =>
  ncK 1750076 y0 fun x25_38 =>
  faK 1750077 x25_38 1 fun x26_39 =>
  ldK 1750078 T1 ro x26_39 fun x27_40 =>
  ixK 1750079 x23_37 x27_40 fun x28_41 =>
  callQ 1750080 (g172 (T1 :: ro) x28_41 .nil n1) fun x29_42 =>
  condK 1750082 x29_42
  (
   g175_k2 ro lp1 y0 y2 y3 (.lit (.bool true)) T1 n1
  )
  (
   ncK 1750086 y0 fun x32_43 =>
   faK 1750087 x32_43 0 fun x33_44 =>
   ldK 1750088 T1 ro x33_44 fun x34_45 =>
   ncK 1750090 y0 fun x36_46 =>
   faK 1750091 x36_46 1 fun x37_47 =>
   ldK 1750092 T1 ro x37_47 fun x38_48 =>
   ixK 1750093 x34_45 x38_48 fun x39_49 =>
   callQ 1750094 (g174 (T1 :: ro) x39_49 .nil n1) fun x40_50 =>
   g175_k2 ro lp1 y0 y2 y3 x40_50 T1 n1
  )
 )
 (
  g175_k2 ro lp1 y0 y2 y3 (.lit (.bool false)) T1 n1
 )
noncomputable def g175 (ro : List HT) (a0 : AV) (T : HT) (nx : Nat) : R :=
 fldK 1750003 T ro a0 1 fun x8_1 =>
 lpf3 1750005 (g175_b1 ro) 100000 a0 (.lit (.nilIface)) x8_1 T nx
theorem g175_ok (ro : List HT) (a0 : AV) (T : HT) (nx : Nat) : GOk Tryz.prog envE 175 [a0] ro T nx (g175 ro a0 T nx) := by
 refine GOk.of_body Tryz.func175 rfl Tryz.ntmps175 (by kernel_rfl) rfl fun r T' n' h1 w0 base ρ0 its hS hP => ?_
 have X : CtxW envE ρ0 ro r T' n' := trivial
 unfold g175 at h1
 refine sr ?_
 refine as_ ?_
 refine dn ?_
 refine sr ?_
 refine mv ?_
 refine fl hS h1 Vdf.fo255_1 Vdf.one3 fun x8_1 h2 => ?_
 refine as_ ?_
 refine dn ?_
 refine CV.seq ?_
 refine CV.block ?_
 refine cl3 X 0 2 3 [] hS h2 ⟨rfl, rfl, rfl, trivial⟩ ?_
 intro f1 y0 y2 y3 T1 n1 ρ its hS h3
 unfold g175_b1 at h3
 clear h1 h2
 refine CV.seq ?_
 refine cs4 X 0 2 3 42 [] (g175_k2 ro (lpf3 1750005 (g175_b1 ro) f1)) ?_ ?_
 ·
  refine CV.regionM [(0, .anywhere), (1, .anywhere), (2, .anywhere), (3, .held), (4, .anywhere), (5, .anywhere), (6, .anywhere), (7, .held), (8, .held), (9, .held), (10, .held), (11, .held), (12, .held), (13, .held), (14, .held), (15, .anywhere), (16, .anywhere), (17, .anywhere), (18, .held), (19, .held), (20, .alone), (21, .anywhere), (22, .anywhere), (23, .anywhere), (24, .anywhere), (25, .held), (26, .anywhere), (27, .anywhere), (28, .anywhere), (29, .held), (30, .held), (31, .alone), (32, .anywhere), (33, .anywhere)] rfl (fun c a a' w hd hq => PanicOk.root (P := Tryz.prog) (fn := Tryz.f175) (w0 := w0) (base := base) (E := envE) (ro := ro) (r := r) (T' := T') (n' := n') (ρ0 := ρ0) c a a' w hd hq) (by kernel_rfl) ?_
  refine MV.step0 (i := 0) rfl (VAL.move rfl) rfl rfl rfl ?_
  refine MV.lift0 (i := 1) rfl (V.nc h3 rfl) rfl rfl rfl fun x10_27 h38 => ?_
  refine MV.lift0 (i := 2) rfl (V.fa h38 rfl Vdf.fo255_1) rfl rfl rfl fun x11_28 h39 => ?_
  refine MV.lift1 (i := 3) rfl (fun _ z => z) (V.ld hS h39 rfl Vdf.one3) rfl rfl rfl [] (by kernel_rfl) fun x12_29 h40 => ?_
  refine MV.step0 (i := 4) rfl (VAL.move rfl) rfl rfl rfl ?_
  refine MV.lift0 (i := 5) rfl (V.nc h40 rfl) rfl rfl rfl fun x14_30 h41 => ?_
  refine MV.lift0 (i := 6) rfl (V.fa h41 rfl Vdf.fo255_0) rfl rfl rfl fun x15_31 h42 => ?_
  refine MV.lift1 (i := 7) rfl (fun _ z => z) (V.ld hS h42 rfl Vdf.one9) rfl rfl rfl [3] (by kernel_rfl) fun x16_32 h43 => ?_
  refine MV.lift1 (i := 8) rfl (fun _ z => z) (V.lenT h43 rfl Vdf.ls9) rfl rfl rfl [3] (by kernel_rfl) fun x17_33 h44 => ?_
  refine MV.lift1 (i := 9) rfl (fun _ z => z) (V.lt h44 rfl rfl) rfl rfl rfl [] (by kernel_rfl) fun x18_34 h45 => ?_
  refine MV.step1 (i := 10) rfl (fun _ z => z) (VAL.move rfl) rfl rfl rfl [] (by kernel_rfl) ?_
  rcases condK_inv h45 with ⟨e, h46⟩ | ⟨e, h46⟩
  ·
   clear h3 h38 h39 h40 h41 h42 h43 h44 h45
   subst e
   refine MV.step1 (i := 11) rfl (fun _ z => z) (VAL.move rfl) rfl rfl rfl [] (by kernel_rfl) ?_
   refine MV.lift1 (i := 12) rfl (fun _ z => z) (V.nc h46 rfl) rfl rfl rfl [] (by kernel_rfl) fun x21_35 h47 => ?_
   refine MV.lift1 (i := 13) rfl (fun _ z => z) (V.fa h47 rfl Vdf.fo255_0) rfl rfl rfl [] (by kernel_rfl) fun x22_36 h48 => ?_
   refine MV.lift1 (i := 14) rfl (fun _ z => z) (V.ld hS h48 rfl Vdf.one9) rfl rfl rfl [] (by kernel_rfl) fun x23_37 h49 => ?_
   refine MV.step0 (i := 15) rfl (VAL.move rfl) rfl rfl rfl ?_
   refine MV.lift0 (i := 16) rfl (V.nc h49 rfl) rfl rfl rfl fun x25_38 h50 => ?_
   refine MV.lift0 (i := 17) rfl (V.fa h50 rfl Vdf.fo255_1) rfl rfl rfl fun x26_39 h51 => ?_
   refine MV.lift1 (i := 18) rfl (fun _ z => z) (V.ld hS h51 rfl Vdf.one3) rfl rfl rfl [14] (by kernel_rfl) fun x27_40 h52 => ?_
   refine MV.lift1 (i := 19) rfl (fun _ z => z) (V.ix h52 rfl rfl Vdf.st9) rfl rfl rfl [] (by kernel_rfl) fun x28_41 h53 => ?_
   refine MV.force (i := 20) rfl ?_
   refine LV.callQ hS h53 (g172_ok _ _ _ _ ) rfl rfl rfl rfl fun x29_42 h54 => ?_
   refine LV.nextM [] (by kernel_rfl) (fun z => absurd rfl z) ?_
   refine MV.step0 (i := 21) rfl (VAL.move rfl) rfl rfl rfl ?_
   rcases condK_inv h54 with ⟨e, h55⟩ | ⟨e, h55⟩
   ·
    clear h46 h47 h48 h49 h50 h51 h52 h53 h54
    subst e
    refine MV.skip0 (i := 22) rfl rfl rfl rfl ?_
    refine MV.skip0 (i := 23) rfl rfl rfl rfl ?_
    refine MV.skip0 (i := 24) rfl rfl rfl rfl ?_
    refine MV.skip1 (i := 25) rfl (fun _ z => z) rfl rfl rfl [] (by kernel_rfl) ?_
    refine MV.skip0 (i := 26) rfl rfl rfl rfl ?_
    refine MV.skip0 (i := 27) rfl rfl rfl rfl ?_
    refine MV.skip0 (i := 28) rfl rfl rfl rfl ?_
    refine MV.skip1 (i := 29) rfl (fun _ z => z) rfl rfl rfl [25] (by kernel_rfl) ?_
    refine MV.skip1 (i := 30) rfl (fun _ z => z) rfl rfl rfl [] (by kernel_rfl) ?_
    refine MV.force (i := 31) rfl ?_
    refine sk ?_
    refine LV.nextM [] (by kernel_rfl) (fun z => absurd rfl z) ?_
    refine MV.step0 (i := 32) rfl (VAL.pure rfl) rfl rfl rfl ?_
    refine MV.step0 (i := 33) rfl (VAL.pure rfl) rfl rfl rfl ?_
    refine MV.done ?_
    exact pa4 hS h55 ⟨rfl, rfl, rfl, rfl, trivial⟩
   ·
    clear h46 h47 h48 h49 h50 h51 h52 h53 h54
    subst e
    refine MV.step0 (i := 22) rfl (VAL.move rfl) rfl rfl rfl ?_
    refine MV.lift0 (i := 23) rfl (V.nc h55 rfl) rfl rfl rfl fun x32_43 h56 => ?_
    refine MV.lift0 (i := 24) rfl (V.fa h56 rfl Vdf.fo255_0) rfl rfl rfl fun x33_44 h57 => ?_
    refine MV.lift1 (i := 25) rfl (fun _ z => z) (V.ld hS h57 rfl Vdf.one9) rfl rfl rfl [] (by kernel_rfl) fun x34_45 h58 => ?_
    refine MV.step0 (i := 26) rfl (VAL.move rfl) rfl rfl rfl ?_
    refine MV.lift0 (i := 27) rfl (V.nc h58 rfl) rfl rfl rfl fun x36_46 h59 => ?_
    refine MV.lift0 (i := 28) rfl (V.fa h59 rfl Vdf.fo255_1) rfl rfl rfl fun x37_47 h60 => ?_
    refine MV.lift1 (i := 29) rfl (fun _ z => z) (V.ld hS h60 rfl Vdf.one3) rfl rfl rfl [25] (by kernel_rfl) fun x38_48 h61 => ?_
    refine MV.lift1 (i := 30) rfl (fun _ z => z) (V.ix h61 rfl rfl Vdf.st9) rfl rfl rfl [] (by kernel_rfl) fun x39_49 h62 => ?_
    refine MV.force (i := 31) rfl ?_
    refine LV.callQ hS h62 (g174_ok _ _ _ _ ) rfl rfl rfl rfl fun x40_50 h63 => ?_
    refine LV.nextM [] (by kernel_rfl) (fun z => absurd rfl z) ?_
    refine MV.step0 (i := 32) rfl (VAL.pure rfl) rfl rfl rfl ?_
    refine MV.step0 (i := 33) rfl (VAL.pure rfl) rfl rfl rfl ?_
    refine MV.done ?_
    exact pa4 hS h63 ⟨rfl, rfl, rfl, rfl, trivial⟩
  ·
   clear h3 h38 h39 h40 h41 h42 h43 h44 h45
   subst e
   refine MV.skip1 (i := 11) rfl (fun _ z => z) rfl rfl rfl [] (by kernel_rfl) ?_
   refine MV.skip1 (i := 12) rfl (fun _ z => z) rfl rfl rfl [] (by kernel_rfl) ?_
   refine MV.skip1 (i := 13) rfl (fun _ z => z) rfl rfl rfl [] (by kernel_rfl) ?_
   refine MV.skip1 (i := 14) rfl (fun _ z => z) rfl rfl rfl [] (by kernel_rfl) ?_
   refine MV.skip0 (i := 15) rfl rfl rfl rfl ?_
   refine MV.skip0 (i := 16) rfl rfl rfl rfl ?_
   refine MV.skip0 (i := 17) rfl rfl rfl rfl ?_
   refine MV.skip1 (i := 18) rfl (fun _ z => z) rfl rfl rfl [14] (by kernel_rfl) ?_
   refine MV.skip1 (i := 19) rfl (fun _ z => z) rfl rfl rfl [] (by kernel_rfl) ?_
   refine MV.force (i := 20) rfl ?_
   refine sk ?_
   refine LV.nextM [] (by kernel_rfl) (fun z => absurd rfl z) ?_
   refine MV.skip0 (i := 21) rfl rfl rfl rfl ?_
   refine MV.skip0 (i := 22) rfl rfl rfl rfl ?_
   refine MV.skip0 (i := 23) rfl rfl rfl rfl ?_
   refine MV.skip0 (i := 24) rfl rfl rfl rfl ?_
   refine MV.skip1 (i := 25) rfl (fun _ z => z) rfl rfl rfl [] (by kernel_rfl) ?_
   refine MV.skip0 (i := 26) rfl rfl rfl rfl ?_
   refine MV.skip0 (i := 27) rfl rfl rfl rfl ?_
   refine MV.skip0 (i := 28) rfl rfl rfl rfl ?_
   refine MV.skip1 (i := 29) rfl (fun _ z => z) rfl rfl rfl [25] (by kernel_rfl) ?_
   refine MV.skip1 (i := 30) rfl (fun _ z => z) rfl rfl rfl [] (by kernel_rfl) ?_
   refine MV.force (i := 31) rfl ?_
   refine sk ?_
   refine LV.nextM [] (by kernel_rfl) (fun z => absurd rfl z) ?_
   refine MV.skip0 (i := 32) rfl rfl rfl rfl ?_
   refine MV.step0 (i := 33) rfl (VAL.pure rfl) rfl rfl rfl ?_
   refine MV.done ?_
   exact pa4 hS h46 ⟨rfl, rfl, rfl, rfl, trivial⟩
 ·
  intro y0 y2 y3 y42 T2 n2 ρ its hS h4
  unfold g175_k2 at h4
  clear h3
  refine CV.cond h4 rfl (fun e h5 => ?_) (fun e h5 => ?_)
  ·
   clear h4
   subst e
   refine CV.skip ?_
   refine PV.thenN ?_
   refine CV.block ?_
   refine CV.seq ?_
   refine CV.seq ?_
   refine CV.regionM [(0, .anywhere), (1, .anywhere), (2, .anywhere), (3, .held), (4, .anywhere), (5, .anywhere), (6, .anywhere), (7, .held), (8, .held), (9, .alone)] rfl (fun c a a' w hd hq => PanicOk.root (P := Tryz.prog) (fn := Tryz.f175) (w0 := w0) (base := base) (E := envE) (ro := ro) (r := r) (T' := T') (n' := n') (ρ0 := ρ0) c a a' w hd hq) (by kernel_rfl) ?_
   refine MV.step0 (i := 0) rfl (VAL.move rfl) rfl rfl rfl ?_
   refine MV.lift0 (i := 1) rfl (V.nc h5 rfl) rfl rfl rfl fun x44_2 h6 => ?_
   refine MV.lift0 (i := 2) rfl (V.fa h6 rfl Vdf.fo255_0) rfl rfl rfl fun x45_3 h7 => ?_
   refine MV.lift1 (i := 3) rfl (fun _ z => z) (V.ld hS h7 rfl Vdf.one9) rfl rfl rfl [] (by kernel_rfl) fun x46_4 h8 => ?_
   refine MV.step0 (i := 4) rfl (VAL.move rfl) rfl rfl rfl ?_
   refine MV.lift0 (i := 5) rfl (V.nc h8 rfl) rfl rfl rfl fun x48_5 h9 => ?_
   refine MV.lift0 (i := 6) rfl (V.fa h9 rfl Vdf.fo255_1) rfl rfl rfl fun x49_6 h10 => ?_
   refine MV.lift1 (i := 7) rfl (fun _ z => z) (V.ld hS h10 rfl Vdf.one3) rfl rfl rfl [3] (by kernel_rfl) fun x50_7 h11 => ?_
   refine MV.lift1 (i := 8) rfl (fun _ z => z) (V.ix h11 rfl rfl Vdf.st9) rfl rfl rfl [] (by kernel_rfl) fun x51_8 h12 => ?_
   refine MV.force (i := 9) rfl ?_
   refine LV.call hS h12 (g172_ok _ _ _ _ ) hP rfl rfl rfl rfl fun x52_9 T3 n3 h13 ρ its hS => ?_
   refine LV.nextM [] (by kernel_rfl) (fun z => absurd rfl z) ?_
   refine mdn ?_
   refine CV.cond h13 rfl (fun e h14 => ?_) (fun e h14 => ?_)
   ·
    clear h5 h6 h7 h8 h9 h10 h11 h12 h13
    subst e
    cases h14
   ·
    clear h5 h6 h7 h8 h9 h10 h11 h12 h13
    subst e
    refine CV.skip ?_
    refine PV.thenN ?_
    refine CV.region ?_
    refine mv ?_
    refine fl hS h14 Vdf.fo255_1 Vdf.one3 fun x58_10 h15 => ?_
    refine vy (V.add h15 rfl rfl) fun x59_11 h16 => ?_
    refine fa2 h16 Vdf.fo255_1 fun x61_12 h17 => ?_
    refine LV.st hS h17 rfl rfl rfl Vdf.siz3 rfl rfl fun T4 its h18 hS => ?_
    refine LV.done ?_
    refine PV.blockN ?_
    exact pb3 hS h18 ⟨rfl, rfl, rfl, trivial⟩
  ·
   clear h4
   subst e
   refine CV.exit ?_
   refine PV.thenE ?_
   refine PV.thenE ?_
   refine PV.blockE ?_
   refine PV.thenN ?_
   refine CV.seq ?_
   refine CV.regionM [(0, .anywhere), (1, .anywhere), (2, .anywhere), (3, .held), (4, .anywhere), (5, .anywhere), (6, .anywhere), (7, .anywhere), (8, .held), (9, .held), (10, .held)] rfl (fun c a a' w hd hq => PanicOk.root (P := Tryz.prog) (fn := Tryz.f175) (w0 := w0) (base := base) (E := envE) (ro := ro) (r := r) (T' := T') (n' := n') (ρ0 := ρ0) c a a' w hd hq) (by kernel_rfl) ?_
   refine MV.step0 (i := 0) rfl (VAL.move rfl) rfl rfl rfl ?_
   refine MV.lift0 (i := 1) rfl (V.nc h5 rfl) rfl rfl rfl fun x63_13 h19 => ?_
   refine MV.lift0 (i := 2) rfl (V.fa h19 rfl Vdf.fo255_0) rfl rfl rfl fun x64_14 h20 => ?_
   refine MV.lift1 (i := 3) rfl (fun _ z => z) (V.ld hS h20 rfl Vdf.one9) rfl rfl rfl [] (by kernel_rfl) fun x65_15 h21 => ?_
   refine MV.step0 (i := 4) rfl (VAL.move rfl) rfl rfl rfl ?_
   refine MV.step0 (i := 5) rfl (VAL.move rfl) rfl rfl rfl ?_
   refine MV.lift0 (i := 6) rfl (V.nc h21 rfl) rfl rfl rfl fun x68_16 h22 => ?_
   refine MV.lift0 (i := 7) rfl (V.fa h22 rfl Vdf.fo255_1) rfl rfl rfl fun x69_17 h23 => ?_
   refine MV.lift1 (i := 8) rfl (fun _ z => z) (V.ld hS h23 rfl Vdf.one3) rfl rfl rfl [3] (by kernel_rfl) fun x70_18 h24 => ?_
   refine MV.lift1 (i := 9) rfl (fun _ z => z) (V.slBo (sliceF_ok h24) rfl rfl rfl Vdf.st9) rfl rfl rfl [] (by kernel_rfl) fun x71_19 h25 => ?_
   refine MV.step1 (i := 10) rfl (fun _ z => z) (VAL.assign rfl) rfl rfl rfl [] (by kernel_rfl) ?_
   refine mdn ?_
   refine CV.seq ?_
   refine sr ?_
   refine mv ?_
   refine vy (V.lenT h25 rfl Vdf.ls9) fun x73_20 h26 => ?_
   refine vy (V.gt h26 rfl rfl) fun x74_21 h27 => ?_
   refine mv ?_
   refine ls5 X 0 2 3 4 84 [] (g175_k3 ro) 9 ?_ ?_
   ·
    rcases condK_inv h27 with ⟨e, h31⟩ | ⟨e, h31⟩
    ·
     clear h5 h19 h20 h21 h22 h23 h24 h25 h26 h27
     subst e
     refine sk ?_
     refine sk ?_
     refine sk ?_
     refine sk ?_
     refine sk ?_
     refine sk ?_
     refine sk ?_
     refine sk ?_
     refine pu ?_
     exact la5 hS h31 ⟨rfl, rfl, rfl, rfl, rfl, trivial⟩
    ·
     clear h5 h19 h20 h21 h22 h23 h24 h25 h26 h27
     subst e
     refine mv ?_
     refine vy (V.ix h31 rfl rfl Vdf.st9) fun x77_23 h32 => ?_
     refine vy (V.eq h32 rfl rfl) fun x78_24 h33 => ?_
     refine mv ?_
     refine ls5 X 0 2 3 4 83 [(75, (.lit (.bool false)))] (g175_k4 ro) 4 ?_ ?_
     ·
      rcases condK_inv h33 with ⟨e, h35⟩ | ⟨e, h35⟩
      ·
       clear h31 h32 h33
       subst e
       refine mv ?_
       refine vy (V.lenT h35 rfl Vdf.ls9) fun x81_25 h36 => ?_
       refine vy (V.gt h36 rfl rfl) fun x82_26 h37 => ?_
       refine pu ?_
       exact la5 hS h37 ⟨rfl, rfl, rfl, rfl, rfl, rfl, trivial⟩
      ·
       clear h31 h32 h33
       subst e
       refine sk ?_
       refine sk ?_
       refine sk ?_
       refine pu ?_
       exact la5 hS h35 ⟨rfl, rfl, rfl, rfl, rfl, rfl, trivial⟩
     ·
      intro y0 y2 y3 y4 y83 T7 n7 ρ its hS h34
      unfold g175_k4 at h34
      clear h31 h32 h33
      refine pu ?_
      exact la5 hS h34 ⟨rfl, rfl, rfl, rfl, rfl, trivial⟩
   ·
    intro y0 y2 y3 y4 y84 T5 n5 ρ its hS h28
    unfold g175_k3 at h28
    clear h5 h19 h20 h21 h22 h23 h24 h25 h26 h27
    refine dn ?_
    refine CV.cond h28 rfl (fun e h29 => ?_) (fun e h29 => ?_)
    ·
     clear h28
     subst e
     cases h29
    ·
     clear h28
     subst e
     refine CV.skip ?_
     refine PV.thenN ?_
     refine sr ?_
     refine mv ?_
     refine mv ?_
     refine mv ?_
     refine LV.call hS h29 (g133_ok _ _ _ _ _ _ _ ) hP rfl rfl rfl rfl fun x90_22 T6 n6 h30 ρ its hS => ?_
     refine dn ?_
     refine sr ?_
     refine as_ ?_
     refine dn ?_
     refine CV.ret ?_
     cases h30
     exact PV.ret (by simp) Tryz.results175 hS (RS.tmp rfl RS.nil) rfl
noncomputable def g231_k2 (ro : List HT) (lp1 : AV → AV → AV → AV → HT → Nat → R) (y0 y1 y4 y5 y26 : AV) (T2 : HT) (n2 : Nat) : R :=
 condK 2310013 y26
 (
  fldK 2310015 T2 ro y0 0 fun x32_6 =>
  ixK 2310017 x32_6 y5 fun x34_7 =>
  eqK Tryz.prog 5 (.tmp 34) (.tmp 36) 2310019 x34_7 y1 fun x37_8 =>
  condK 2310021 x37_8
  (
   addK Tryz.prog 3 (.tmp 38) (.const (.int .i64 (.ofNat 1))) 2310023 y5 (.lit (.int .i64 (.ofNat 1))) fun x39_9 =>
   .ok (.val x39_9) T2 n2
  )
  (
   eqK Tryz.prog 5 (.tmp 34) (.const (.int .u8 (.ofNat 92))) 2310025 x34_7 (.lit (.int .u8 (.ofNat 92))) fun x41_10 =>
   condK 2310027 x41_10
   (
    .bad 2310028
   )
   (
    addK Tryz.prog 3 (.tmp 27) (.const (.int .i64 (.ofNat 1))) 2310030 y5 (.lit (.int .i64 (.ofNat 1))) fun x28_11 =>
    lp1 y0 y1 y4 x28_11 T2 n2
   )
  )
 )
 (
  .ok (.val (.lit (.int .i64 (.negSucc 0)))) T2 n2
 )
noncomputable def g231_b1 (ro : List HT) (lp1 : AV → AV → AV → AV → HT → Nat → R) (y0 y1 y4 y5 : AV) (T1 : HT) (n1 : Nat) : R :=
 fldK 2310009 T1 ro y0 0 fun x15_3 =>
 lenTK 2310010 x15_3 fun x16_4 =>
 ltK Tryz.prog 3 (.tmp 11) (.tmp 16) 2310011 y5 x16_4 fun x17_5 =>
 condK 2310033 x17_5
 (
  ncK 2310035 y0 fun x20_12 =>
  faK 2310036 x20_12 0 fun x21_13 =>
  ldK 2310037 T1 ro x21_13 fun x22_14 =>
  ixK 2310039 x22_14 y5 fun x24_15 =>
  neK Tryz.prog 5 (.tmp 24) (.const (.int .u8 (.ofNat 10))) 2310040 x24_15 (.lit (.int .u8 (.ofNat 10))) fun x25_16 =>
  g231_k2 ro lp1 y0 y1 y4 y5 x25_16 T1 n1
 )
 (
  g231_k2 ro lp1 y0 y1 y4 y5 (.lit (.bool false)) T1 n1
 )
noncomputable def g231 (ro : List HT) (a0 a1 : AV) (T : HT) (nx : Nat) : R :=
 fldK 2310003 T ro a0 1 fun x9_1 =>
 addK Tryz.prog 3 (.tmp 9) (.const (.int .i64 (.ofNat 1))) 2310004 x9_1 (.lit (.int .i64 (.ofNat 1))) fun x10_2 =>
 lpf4 2310006 (g231_b1 ro) 100000 a0 a1 (.lit (.int .i64 (.ofNat 0))) x10_2 T nx
theorem g231_ok (ro : List HT) (a0 a1 : AV) (T : HT) (nx : Nat) : GOk Tryz.prog envE 231 [a0, a1] ro T nx (g231 ro a0 a1 T nx) := by
 refine GOk.of_body Tryz.func231 rfl Tryz.ntmps231 (by kernel_rfl) rfl fun r T' n' h1 w0 base ρ0 its hS hP => ?_
 have X : CtxW envE ρ0 ro r T' n' := trivial
 unfold g231 at h1
 refine sr ?_
 refine as_ ?_
 refine dn ?_
 refine CV.seq ?_
 refine sr ?_
 refine mv ?_
 refine fl hS h1 Vdf.fo255_1 Vdf.one3 fun x9_1 h2 => ?_
 refine vy (V.add h2 rfl rfl) fun x10_2 h3 => ?_
 refine as_ ?_
 refine dn ?_
 refine CV.block ?_
 refine cl4 X 0 1 4 5 [] hS h3 ⟨rfl, rfl, rfl, rfl, trivial⟩ ?_
 intro f1 y0 y1 y4 y5 T1 n1 ρ its hS h4
 unfold g231_b1 at h4
 clear h1 h2 h3
 refine CV.seq ?_
 refine sr ?_
 refine mv ?_
 refine mv ?_
 refine fl hS h4 Vdf.fo255_0 Vdf.one9 fun x15_3 h5 => ?_
 refine vy (V.lenT h5 rfl Vdf.ls9) fun x16_4 h6 => ?_
 refine vy (V.lt h6 rfl rfl) fun x17_5 h7 => ?_
 refine mv ?_
 refine ls5 X 0 1 4 5 26 [] (g231_k2 ro (lpf4 2310006 (g231_b1 ro) f1)) 8 ?_ ?_
 ·
  rcases condK_inv h7 with ⟨e, h18⟩ | ⟨e, h18⟩
  ·
   clear h4 h5 h6 h7
   subst e
   refine mv ?_
   refine vy (V.nc h18 rfl) fun x20_12 h19 => ?_
   refine vy (V.fa h19 rfl Vdf.fo255_0) fun x21_13 h20 => ?_
   refine vy (V.ld hS h20 rfl Vdf.one9) fun x22_14 h21 => ?_
   refine mv ?_
   refine vy (V.ix h21 rfl rfl Vdf.st9) fun x24_15 h22 => ?_
   refine vy (V.ne h22 rfl rfl) fun x25_16 h23 => ?_
   refine pu ?_
   exact la5 hS h23 ⟨rfl, rfl, rfl, rfl, rfl, trivial⟩
  ·
   clear h4 h5 h6 h7
   subst e
   refine sk ?_
   refine sk ?_
   refine sk ?_
   refine sk ?_
   refine sk ?_
   refine sk ?_
   refine sk ?_
   refine pu ?_
   exact la5 hS h18 ⟨rfl, rfl, rfl, rfl, rfl, trivial⟩
 ·
  intro y0 y1 y4 y5 y26 T2 n2 ρ its hS h8
  unfold g231_k2 at h8
  clear h4 h5 h6 h7
  refine dn ?_
  refine CV.cond h8 rfl (fun e h9 => ?_) (fun e h9 => ?_)
  ·
   clear h8
   subst e
   refine CV.skip ?_
   refine PV.thenN ?_
   refine CV.seq ?_
   refine CV.block ?_
   refine sr ?_
   refine mv ?_
   refine fl hS h9 Vdf.fo255_0 Vdf.one9 fun x32_6 h10 => ?_
   refine mv ?_
   refine vy (V.ix h10 rfl rfl Vdf.st9) fun x34_7 h11 => ?_
   refine dn ?_
   refine CV.block ?_
   refine sr ?_
   refine mv ?_
   refine vy (V.eq h11 rfl rfl) fun x37_8 h12 => ?_
   refine as_ ?_
   refine dn ?_
   refine CV.cond h12 rfl (fun e h13 => ?_) (fun e h13 => ?_)
   ·
    clear h9 h10 h11 h12
    subst e
    refine sr ?_
    refine mv ?_
    refine vy (V.add h13 rfl rfl) fun x39_9 h14 => ?_
    refine as_ ?_
    refine dn ?_
    refine CV.ret ?_
    refine PV.blockR ?_
    refine PV.blockR ?_
    refine PV.thenR ?_
    refine PV.thenR ?_
    refine PV.blockR ?_
    refine PV.thenR ?_
    cases h14
    exact PV.ret (by simp) Tryz.results231 hS (RS.tmp rfl RS.nil) rfl
   ·
    clear h9 h10 h11 h12
    subst e
    refine sr ?_
    refine vy (V.eq h13 rfl rfl) fun x41_10 h15 => ?_
    refine as_ ?_
    refine dn ?_
    refine CV.cond h15 rfl (fun e h16 => ?_) (fun e h16 => ?_)
    ·
     clear h13 h15
     subst e
     cases h16
    ·
     clear h13 h15
     subst e
     refine CV.skip ?_
     refine PV.blockN ?_
     refine PV.blockN ?_
     refine PV.thenN ?_
     refine CV.region ?_
     refine mv ?_
     refine vy (V.add h16 rfl rfl) fun x28_11 h17 => ?_
     refine as_ ?_
     refine LV.done ?_
     exact pb4 hS h17 ⟨rfl, rfl, rfl, rfl, trivial⟩
  ·
   clear h8
   subst e
   refine CV.exit ?_
   refine PV.thenE ?_
   refine PV.thenE ?_
   refine PV.blockE ?_
   refine PV.thenN ?_
   refine sr ?_
   refine as_ ?_
   refine dn ?_
   refine CV.ret ?_
   cases h9
   exact PV.ret (by simp) Tryz.results231 hS (RS.tmp rfl RS.nil) rfl
noncomputable def g267 (ro : List HT) (a0 a1 : AV) (T : HT) (nx : Nat) : R :=
 ibsK 2670004 a0 a1 fun x7_1 =>
 .ok (.val x7_1) T nx
theorem g267_ok (ro : List HT) (a0 a1 : AV) (T : HT) (nx : Nat) : GOk Tryz.prog envE 267 [a0, a1] ro T nx (g267 ro a0 a1 T nx) := by
 refine GOk.of_body Tryz.func267 rfl Tryz.ntmps267 (by kernel_rfl) rfl fun r T' n' h1 w0 base ρ0 its hS hP => ?_
 have X : CtxW envE ρ0 ro r T' n' := trivial
 unfold g267 at h1
 refine sr ?_
 refine as_ ?_
 refine dn ?_
 refine sr ?_
 refine mv ?_
 refine mv ?_
 refine vy (Vdf.ibf276 h1 rfl rfl) fun x7_1 h2 => ?_
 refine as_ ?_
 refine dn ?_
 refine CV.ret ?_
 cases h2
 exact PV.ret (by simp) Tryz.results267 hS (RS.tmp rfl RS.nil) rfl
noncomputable def g234 (ro : List HT) (a0 a1 : AV) (T : HT) (nx : Nat) : R :=
 callK (g267 ro a0 a1 T nx) fun x7_1 T1 n1 =>
 .ok (.val x7_1) T1 n1
theorem g234_ok (ro : List HT) (a0 a1 : AV) (T : HT) (nx : Nat) : GOk Tryz.prog envE 234 [a0, a1] ro T nx (g234 ro a0 a1 T nx) := by
 refine GOk.of_body Tryz.func234 rfl Tryz.ntmps234 (by kernel_rfl) rfl fun r T' n' h1 w0 base ρ0 its hS hP => ?_
 have X : CtxW envE ρ0 ro r T' n' := trivial
 unfold g234 at h1
 refine sr ?_
 refine as_ ?_
 refine dn ?_
 refine sr ?_
 refine mv ?_
 refine mv ?_
 refine LV.call hS h1 (g267_ok _ _ _ _ _ ) hP rfl rfl rfl rfl fun x7_1 T1 n1 h2 ρ its hS => ?_
 refine as_ ?_
 refine dn ?_
 refine CV.ret ?_
 cases h2
 exact PV.ret (by simp) Tryz.results234 hS (RS.tmp rfl RS.nil) rfl
noncomputable def g264_k2 (ro : List HT) (lp1 : AV → AV → AV → AV → AV → HT → Nat → R) (y0 y2 y3 y4 y6 y10 y25 : AV) (T3 : HT) (n3 : Nat) : R :=
 condK 2640024 y25
 (
  .bad 2640025
 )
 (
  bin0 Tryz.prog .shl 5 (.tmp 26) (.const (.int .u64 (.ofNat 4))) 2640027 y4 (.lit (.int .u64 (.ofNat 4))) fun x27_8 =>
  optK 2640029 (convV Tryz.prog 3 5 y6) fun x29_9 =>
  bin0 Tryz.prog .or 5 (.tmp 27) (.tmp 29) 2640030 x27_8 x29_9 fun x30_10 =>
  addK Tryz.prog 3 (.tmp 10) (.const (.int .i64 (.ofNat 1))) 2640032 y10 (.lit (.int .i64 (.ofNat 1))) fun x31_11 =>
  lp1 y0 y2 y3 x30_10 x31_11 T3 n3
 )
noncomputable def g264_b1 (ro : List HT) (lp1 : AV → AV → AV → AV → AV → HT → Nat → R) (y0 y2 y3 y4 y10 : AV) (T1 : HT) (n1 : Nat) : R :=
 ltK Tryz.prog 3 (.tmp 10) (.const (.int .i64 (.ofNat 2))) 2640011 y10 (.lit (.int .i64 (.ofNat 2))) fun x11_3 =>
 condK 2640012 x11_3
 (
  ixK 2640017 y0 y10 fun x15_4 =>
  bin0 Tryz.prog .or 5 (.tmp 15) (.const (.int .u8 (.ofNat 32))) 2640018 x15_4 (.lit (.int .u8 (.ofNat 32))) fun x16_5 =>
  callK (g234 ro (.lit (.string ⟨⟨[48, 49, 50, 51, 52, 53, 54, 55, 56, 57, 97, 98, 99, 100, 101, 102]⟩⟩)) x16_5 T1 n1) fun x17_6 T2 n2 =>
  ltK Tryz.prog 3 (.tmp 18) (.const (.int .i64 (.ofNat 0))) 2640022 x17_6 (.lit (.int .i64 (.ofNat 0))) fun x19_7 =>
  condK 2640034 x19_7
  (
   g264_k2 ro lp1 y0 y2 y3 y4 x17_6 y10 (.lit (.bool true)) T2 n2
  )
  (
   ixK 2640038 y0 y10 fun x23_12 =>
   ltK Tryz.prog 5 (.tmp 23) (.const (.int .u8 (.ofNat 48))) 2640039 x23_12 (.lit (.int .u8 (.ofNat 48))) fun x24_13 =>
   g264_k2 ro lp1 y0 y2 y3 y4 x17_6 y10 x24_13 T2 n2
  )
 )
 (
  .ok (.val (.tup [y4, (.lit (.bool true))])) T1 n1
 )
noncomputable def g264 (ro : List HT) (a0 : AV) (T : HT) (nx : Nat) : R :=
 lenTK 2640005 a0 fun x8_1 =>
 ltK Tryz.prog 3 (.tmp 8) (.const (.int .i64 (.ofNat 2))) 2640006 x8_1 (.lit (.int .i64 (.ofNat 2))) fun x9_2 =>
 condK 2640007 x9_2
 (
  .bad 2640008
 )
 (
  lpf5 2640010 (g264_b1 ro) 100000 a0 (.lit (.int .u8 (.ofNat 0))) (.lit (.bool false)) (.lit (.int .u8 (.ofNat 0))) (.lit (.int .i64 (.ofNat 0))) T nx
 )
theorem g264_ok (ro : List HT) (a0 : AV) (T : HT) (nx : Nat) : GOk Tryz.prog envE 264 [a0] ro T nx (g264 ro a0 T nx) := by
 refine GOk.of_body Tryz.func264 rfl Tryz.ntmps264 (by kernel_rfl) rfl fun r T' n' h1 w0 base ρ0 its hS hP => ?_
 have X : CtxW envE ρ0 ro r T' n' := trivial
 unfold g264 at h1
 refine sr ?_
 refine as_ ?_
 refine as_ ?_
 refine dn ?_
 refine sr ?_
 refine as_ ?_
 refine dn ?_
 refine CV.seq ?_
 refine sr ?_
 refine mv ?_
 refine vy (V.lenT h1 rfl Vdf.ls9) fun x8_1 h2 => ?_
 refine vy (V.lt h2 rfl rfl) fun x9_2 h3 => ?_
 refine dn ?_
 refine CV.cond h3 rfl (fun e h4 => ?_) (fun e h4 => ?_)
 ·
  clear h1 h2 h3
  subst e
  cases h4
 ·
  clear h1 h2 h3
  subst e
  refine CV.skip ?_
  refine PV.thenN ?_
  refine CV.seq ?_
  refine sr ?_
  refine mv ?_
  refine dn ?_
  refine CV.block ?_
  refine cl5 X 0 2 3 4 10 [] hS h4 ⟨rfl, rfl, rfl, rfl, rfl, trivial⟩ ?_
  intro f1 y0 y2 y3 y4 y10 T1 n1 ρ its hS h5
  unfold g264_b1 at h5
  clear h4
  refine sr ?_
  refine vy (V.lt h5 rfl rfl) fun x11_3 h6 => ?_
  refine dn ?_
  refine CV.seq ?_
  refine CV.cond h6 rfl (fun e h7 => ?_) (fun e h7 => ?_)
  ·
   clear h5 h6
   subst e
   refine CV.skip ?_
   refine PV.thenN ?_
   refine CV.seq ?_
   refine CV.block ?_
   refine sr ?_
   refine mv ?_
   refine as_ ?_
   refine dn ?_
   refine sr ?_
   refine mv ?_
   refine mv ?_
   refine vy (V.ix h7 rfl rfl Vdf.st9) fun x15_4 h8 => ?_
   refine vy (V.bin0 h8 rfl rfl) fun x16_5 h9 => ?_
   refine LV.call hS h9 (g234_ok _ _ _ _ _ ) hP rfl rfl rfl rfl fun x17_6 T2 n2 h10 ρ its hS => ?_
   refine as_ ?_
   refine dn ?_
   refine CV.seq ?_
   refine sr ?_
   refine mv ?_
   refine vy (V.lt h10 rfl rfl) fun x19_7 h11 => ?_
   refine mv ?_
   refine ls7 X 0 2 3 4 6 10 25 [] (g264_k2 ro (lpf5 2640010 (g264_b1 ro) f1)) 5 ?_ ?_
   ·
    rcases condK_inv h11 with ⟨e, h18⟩ | ⟨e, h18⟩
    ·
     clear h7 h8 h9 h10 h11
     subst e
     refine sk ?_
     refine sk ?_
     refine sk ?_
     refine sk ?_
     refine pu ?_
     exact la7 hS h18 ⟨rfl, rfl, rfl, rfl, rfl, rfl, rfl, trivial⟩
    ·
     clear h7 h8 h9 h10 h11
     subst e
     refine mv ?_
     refine mv ?_
     refine vy (V.ix h18 rfl rfl Vdf.st9) fun x23_12 h19 => ?_
     refine vy (V.lt h19 rfl rfl) fun x24_13 h20 => ?_
     refine pu ?_
     exact la7 hS h20 ⟨rfl, rfl, rfl, rfl, rfl, rfl, rfl, trivial⟩
   ·
    intro y0 y2 y3 y4 y6 y10 y25 T3 n3 ρ its hS h12
    unfold g264_k2 at h12
    clear h7 h8 h9 h10 h11
    refine dn ?_
    refine CV.cond h12 rfl (fun e h13 => ?_) (fun e h13 => ?_)
    ·
     clear h12
     subst e
     cases h13
    ·
     clear h12
     subst e
     refine CV.skip ?_
     refine PV.thenN ?_
     refine CV.region ?_
     refine mv ?_
     refine vy (V.bin0 h13 rfl rfl) fun x27_8 h14 => ?_
     refine mv ?_
     refine vy (V.conv h14 rfl) fun x29_9 h15 => ?_
     refine vy (V.bin0 h15 rfl rfl) fun x30_10 h16 => ?_
     refine as_ ?_
     refine LV.done ?_
     refine PV.blockN ?_
     refine PV.thenN ?_
     refine CV.region ?_
     refine vy (V.add h16 rfl rfl) fun x31_11 h17 => ?_
     refine mv ?_
     refine LV.done ?_
     exact pb5 hS h17 ⟨rfl, rfl, rfl, rfl, rfl, trivial⟩
  ·
   clear h5 h6
   subst e
   refine CV.exit ?_
   refine PV.thenE ?_
   refine PV.thenE ?_
   refine PV.blockE ?_
   refine PV.thenN ?_
   refine sr ?_
   refine mv ?_
   refine as_ ?_
   refine as_ ?_
   refine dn ?_
   refine CV.ret ?_
   cases h7
   exact PV.ret (by simp) Tryz.results264 hS (RS.tmp rfl (RS.tmp rfl RS.nil)) rfl
noncomputable def g232_k2 (ro : List HT) (y0 y30 : AV) (T2 : HT) (n2 : Nat) : R :=
 condK 2320026 y30
 (
  .bad 2320027
 )
 (
  ixK 2320029 y0 (.lit (.int .i64 (.ofNat 0))) fun x35_8 =>
  neK Tryz.prog 5 (.tmp 35) (.const (.int .u8 (.ofNat 120))) 2320030 x35_8 (.lit (.int .u8 (.ofNat 120))) fun x36_9 =>
  condK 2320032 x36_9
  (
   .bad 2320033
  )
  (
   sliceF 2320035 y0 (some (.lit (.int .i64 (.ofNat 1)))) none fun x39_10 =>
   callK (g264 ro x39_10 T2 n2) fun x40_11 T3 n3 =>
   exK 2320038 x40_11 0 fun x41_12 =>
   exK 2320039 x40_11 1 fun x42_13 =>
   notK 2320043 x42_13 fun x44_14 =>
   condK 2320044 x44_14
   (
    .bad 2320045
   )
   (
    .ok (.val (.tup [x41_12, (.lit (.int .i64 (.ofNat 3)))])) T3 n3
   )
  )
 )
noncomputable def g232_k1 (ro : List HT) (y0 y25 : AV) (T1 : HT) (n1 : Nat) : R :=
 condK 2320049 y25
 (
  g232_k2 ro y0 (.lit (.bool true)) T1 n1
 )
 (
  ixK 2320052 y0 (.lit (.int .i64 (.ofNat 0))) fun x28_15 =>
  eqK Tryz.prog 5 (.tmp 28) (.const (.int .u8 (.ofNat 39))) 2320053 x28_15 (.lit (.int .u8 (.ofNat 39))) fun x29_16 =>
  g232_k2 ro y0 x29_16 T1 n1
 )
noncomputable def g232 (ro : List HT) (a0 : AV) (T : HT) (nx : Nat) : R :=
 eqSK Tryz.prog 9 (.tmp 7) (.const (.string ⟨⟨[]⟩⟩)) 2320004 a0 (.lit (.string ⟨⟨[]⟩⟩)) fun x8_1 =>
 condK 2320006 x8_1
 (
  .bad 2320007
 )
 (
  ixK 2320009 a0 (.lit (.int .i64 (.ofNat 0))) fun x11_2 =>
  eqK Tryz.prog 5 (.tmp 11) (.const (.int .u8 (.ofNat 110))) 2320010 x11_2 (.lit (.int .u8 (.ofNat 110))) fun x12_3 =>
  condK 2320012 x12_3
  (
   .bad 2320013
  )
  (
   ixK 2320015 a0 (.lit (.int .i64 (.ofNat 0))) fun x15_4 =>
   eqK Tryz.prog 5 (.tmp 15) (.const (.int .u8 (.ofNat 116))) 2320016 x15_4 (.lit (.int .u8 (.ofNat 116))) fun x16_5 =>
   condK 2320018 x16_5
   (
    .bad 2320019
   )
   (
    ixK 2320021 a0 (.lit (.int .i64 (.ofNat 0))) fun x19_6 =>
    eqK Tryz.prog 5 (.tmp 19) (.const (.int .u8 (.ofNat 92))) 2320022 x19_6 (.lit (.int .u8 (.ofNat 92))) fun x20_7 =>
    condK 2320055 x20_7
    (
     g232_k1 ro a0 (.lit (.bool true)) T nx
    )
    (
     ixK 2320058 a0 (.lit (.int .i64 (.ofNat 0))) fun x23_17 =>
     eqK Tryz.prog 5 (.tmp 23) (.const (.int .u8 (.ofNat 34))) 2320059 x23_17 (.lit (.int .u8 (.ofNat 34))) fun x24_18 =>
     g232_k1 ro a0 x24_18 T nx
    )
   )
  )
 )
theorem g232_ok (ro : List HT) (a0 : AV) (T : HT) (nx : Nat) : GOk Tryz.prog envE 232 [a0] ro T nx (g232 ro a0 T nx) := by
 refine GOk.of_body Tryz.func232 rfl Tryz.ntmps232 (by kernel_rfl) rfl fun r T' n' h1 w0 base ρ0 its hS hP => ?_
 have X : CtxW envE ρ0 ro r T' n' := trivial
 unfold g232 at h1
 refine sr ?_
 refine as_ ?_
 refine as_ ?_
 refine dn ?_
 refine CV.seq ?_
 refine CV.block ?_
 refine sr ?_
 refine mv ?_
 refine vy (V.eqS h1 rfl rfl) fun x8_1 h2 => ?_
 refine as_ ?_
 refine dn ?_
 refine CV.cond h2 rfl (fun e h3 => ?_) (fun e h3 => ?_)
 ·
  clear h1 h2
  subst e
  cases h3
 ·
  clear h1 h2
  subst e
  refine sr ?_
  refine mv ?_
  refine vy (V.ix h3 rfl rfl Vdf.st9) fun x11_2 h4 => ?_
  refine vy (V.eq h4 rfl rfl) fun x12_3 h5 => ?_
  refine as_ ?_
  refine dn ?_
  refine CV.cond h5 rfl (fun e h6 => ?_) (fun e h6 => ?_)
  ·
   clear h3 h4 h5
   subst e
   cases h6
  ·
   clear h3 h4 h5
   subst e
   refine sr ?_
   refine mv ?_
   refine vy (V.ix h6 rfl rfl Vdf.st9) fun x15_4 h7 => ?_
   refine vy (V.eq h7 rfl rfl) fun x16_5 h8 => ?_
   refine as_ ?_
   refine dn ?_
   refine CV.cond h8 rfl (fun e h9 => ?_) (fun e h9 => ?_)
   ·
    clear h6 h7 h8
    subst e
    cases h9
   ·
    clear h6 h7 h8
    subst e
    refine sr ?_
    refine mv ?_
    refine vy (V.ix h9 rfl rfl Vdf.st9) fun x19_6 h10 => ?_
    refine vy (V.eq h10 rfl rfl) fun x20_7 h11 => ?_
    refine mv ?_
    refine ls2 X 0 25 [(2, (.lit (.int .u8 (.ofNat 0)))), (3, (.lit (.int .i64 (.ofNat 0))))] (g232_k1 ro) 4 ?_ ?_
    ·
     rcases condK_inv h11 with ⟨e, h27⟩ | ⟨e, h27⟩
     ·
      clear h9 h10 h11
      subst e
      refine sk ?_
      refine sk ?_
      refine sk ?_
      refine pu ?_
      exact la2 hS h27 ⟨rfl, rfl, rfl, rfl, trivial⟩
     ·
      clear h9 h10 h11
      subst e
      refine mv ?_
      refine vy (V.ix h27 rfl rfl Vdf.st9) fun x23_17 h28 => ?_
      refine vy (V.eq h28 rfl rfl) fun x24_18 h29 => ?_
      refine pu ?_
      exact la2 hS h29 ⟨rfl, rfl, rfl, rfl, trivial⟩
    ·
     intro y0 y25 T1 n1 ρ its hS h12
     unfold g232_k1 at h12
     clear h9 h10 h11
     refine mv ?_
     refine ls2 X 0 30 [(2, (.lit (.int .u8 (.ofNat 0)))), (3, (.lit (.int .i64 (.ofNat 0))))] (g232_k2 ro) 4 ?_ ?_
     ·
      rcases condK_inv h12 with ⟨e, h24⟩ | ⟨e, h24⟩
      ·
       clear h12
       subst e
       refine sk ?_
       refine sk ?_
       refine sk ?_
       refine pu ?_
       exact la2 hS h24 ⟨rfl, rfl, rfl, rfl, trivial⟩
      ·
       clear h12
       subst e
       refine mv ?_
       refine vy (V.ix h24 rfl rfl Vdf.st9) fun x28_15 h25 => ?_
       refine vy (V.eq h25 rfl rfl) fun x29_16 h26 => ?_
       refine pu ?_
       exact la2 hS h26 ⟨rfl, rfl, rfl, rfl, trivial⟩
     ·
      intro y0 y30 T2 n2 ρ its hS h13
      unfold g232_k2 at h13
      clear h12
      refine as_ ?_
      refine dn ?_
      refine CV.cond h13 rfl (fun e h14 => ?_) (fun e h14 => ?_)
      ·
       clear h13
       subst e
       cases h14
      ·
       clear h13
       subst e
       refine sr ?_
       refine mv ?_
       refine vy (V.ix h14 rfl rfl Vdf.st9) fun x35_8 h15 => ?_
       refine vy (V.ne h15 rfl rfl) fun x36_9 h16 => ?_
       refine as_ ?_
       refine dn ?_
       refine CV.cond h16 rfl (fun e h17 => ?_) (fun e h17 => ?_)
       ·
        clear h14 h15 h16
        subst e
        cases h17
       ·
        clear h14 h15 h16
        subst e
        refine CV.skip ?_
        refine PV.blockN ?_
        refine PV.thenN ?_
        refine sr ?_
        refine mv ?_
        refine vy (V.slLo (sliceF_ok h17) rfl rfl Vdf.st9) fun x39_10 h18 => ?_
        refine LV.call hS h18 (g264_ok _ _ _ _ ) hP rfl rfl rfl rfl fun x40_11 T3 n3 h19 ρ its hS => ?_
        refine mv ?_
        refine vy (V.ex h19 rfl) fun x41_12 h20 => ?_
        refine vy (V.ex h20 rfl) fun x42_13 h21 => ?_
        refine as_ ?_
        refine as_ ?_
        refine dn ?_
        refine CV.seq ?_
        refine sr ?_
        refine mv ?_
        refine vy (V.not h21 rfl) fun x44_14 h22 => ?_
        refine dn ?_
        refine CV.cond h22 rfl (fun e h23 => ?_) (fun e h23 => ?_)
        ·
         clear h17 h18 h19 h20 h21 h22
         subst e
         cases h23
        ·
         clear h17 h18 h19 h20 h21 h22
         subst e
         refine CV.skip ?_
         refine PV.thenN ?_
         refine sr ?_
         refine mv ?_
         refine as_ ?_
         refine as_ ?_
         refine dn ?_
         refine CV.ret ?_
         cases h23
         exact PV.ret (by simp) Tryz.results232 hS (RS.tmp rfl (RS.tmp rfl RS.nil)) rfl
noncomputable def g176_k2 (ro : List HT) (lp1 : AV → AV → AV → AV → AV → AV → HT → Nat → R) (y0 y4 y5 y6 y7 y8 : AV) (T3 : HT) (n3 : Nat) : R :=
 addK Tryz.prog 3 (.tmp 29) (.const (.int .i64 (.ofNat 1))) 1760027 y8 (.lit (.int .i64 (.ofNat 1))) fun x30_9 =>
 lp1 y0 y4 y5 y6 y7 x30_9 T3 n3
noncomputable def g176_k3 (ro : List HT) (lp1 : AV → AV → AV → AV → AV → AV → HT → Nat → R) (y0 y4 y5 y6 y7 y8 y9 y44 : AV) (T4 : HT) (n4 : Nat) : R :=
 condK 1760040 y44
 (
  .bad 1760041
 )
 (
  bsK 1760044 T4 n4 1 5 1 [(0, y9)] fun x49_14 T5 n5 =>
  shrK 1760046 T5 y7 fun T6 =>
  appEK 1760045 T6 ro n5 5 1 1 y7 x49_14 fun x50_15 T7 n7 =>
  g176_k2 ro lp1 y0 y4 y5 y6 x50_15 y8 T7 n7
 )
noncomputable def g176_b1 (ro : List HT) (lp1 : AV → AV → AV → AV → AV → AV → HT → Nat → R) (y0 y4 y5 y6 y7 y8 : AV) (T2 : HT) (n2 : Nat) : R :=
 subK Tryz.prog 3 (.tmp 26) (.const (.int .i64 (.ofNat 1))) 1760023 y6 (.lit (.int .i64 (.ofNat 1))) fun x27_7 =>
 ltK Tryz.prog 3 (.tmp 25) (.tmp 27) 1760024 y8 x27_7 fun x28_8 =>
 condK 1760025 x28_8
 (
  fldK 1760030 T2 ro y0 0 fun x34_10 =>
  ixK 1760032 x34_10 y8 fun x36_11 =>
  neK Tryz.prog 5 (.tmp 37) (.const (.int .u8 (.ofNat 92))) 1760035 x36_11 (.lit (.int .u8 (.ofNat 92))) fun x38_12 =>
  condK 1760036 x38_12
  (
   ltK Tryz.prog 5 (.tmp 39) (.const (.int .u8 (.ofNat 32))) 1760038 x36_11 (.lit (.int .u8 (.ofNat 32))) fun x40_13 =>
   condK 1760048 x40_13
   (
    g176_k3 ro lp1 y0 y4 y5 y6 y7 y8 x36_11 (.lit (.bool true)) T2 n2
   )
   (
    eqK Tryz.prog 5 (.tmp 42) (.const (.int .u8 (.ofNat 127))) 1760051 x36_11 (.lit (.int .u8 (.ofNat 127))) fun x43_16 =>
    g176_k3 ro lp1 y0 y4 y5 y6 y7 y8 x36_11 x43_16 T2 n2
   )
  )
  (
   fldK 1760054 T2 ro y0 0 fun x55_17 =>
   addK Tryz.prog 3 (.tmp 56) (.const (.int .i64 (.ofNat 1))) 1760056 y8 (.lit (.int .i64 (.ofNat 1))) fun x57_18 =>
   subK Tryz.prog 3 (.tmp 58) (.const (.int .i64 (.ofNat 1))) 1760058 y6 (.lit (.int .i64 (.ofNat 1))) fun x59_19 =>
   sliceF 1760059 x55_17 (some x57_18) (some x59_19) fun x60_20 =>
   callK (g232 ro x60_20 T2 n2) fun x61_21 T8 n8 =>
   exK 1760062 x61_21 0 fun x62_22 =>
   exK 1760063 x61_21 1 fun x63_23 =>
   eqK Tryz.prog 3 (.tmp 64) (.const (.int .i64 (.ofNat 0))) 1760067 x63_23 (.lit (.int .i64 (.ofNat 0))) fun x65_24 =>
   condK 1760068 x65_24
   (
    .bad 1760069
   )
   (
    bsK 1760072 T8 n8 1 5 1 [(0, x62_22)] fun x70_25 T9 n9 =>
    shrK 1760074 T9 y7 fun T10 =>
    appEK 1760073 T10 ro n9 5 1 1 y7 x70_25 fun x71_26 T11 n11 =>
    addK Tryz.prog 3 (.tmp 72) (.tmp 73) 1760078 y8 x63_23 fun x74_27 =>
    g176_k2 ro lp1 y0 y4 y5 y6 x71_26 x74_27 T11 n11
   )
  )
 )
 (
  faK 1760082 y0 1 fun x78_28 =>
  stK 1760083 T2 x78_28 y6 fun T12 =>
  strBK 1760086 T12 5 y7 fun x81_29 =>
  callK (g133 ro y0 (.lit (.int .i64 (.ofNat 3))) x81_29 y5 T12 n2) fun x83_30 T13 n13 =>
  .ok (.val (.lit (.nilIface))) T13 n13
 )
noncomputable def g176 (ro : List HT) (a0 a1 : AV) (T : HT) (nx : Nat) : R :=
 ncK 1760003 a0 fun x13_1 =>
 faK 1760004 x13_1 1 fun x14_2 =>
 ldQK 1760005 T ro [(a0, 1, 1)] x14_2 fun x15_3 =>
 callK (g231 ro a0 a1 T nx) fun x18_4 T1 n1 =>
 keepK 1760009 T T1 [(a0, 1, 1)] <|
 ltK Tryz.prog 3 (.tmp 19) (.const (.int .i64 (.ofNat 0))) 1760013 x18_4 (.lit (.int .i64 (.ofNat 0))) fun x20_5 =>
 condK 1760014 x20_5
 (
  .bad 1760015
 )
 (
  addK Tryz.prog 3 (.tmp 23) (.const (.int .i64 (.ofNat 1))) 1760018 x15_3 (.lit (.int .i64 (.ofNat 1))) fun x24_6 =>
  lpf6 1760020 (g176_b1 ro) 100000 a0 (.lit (.nilIface)) x15_3 x18_4 (.lit (.slice none 0 0)) x24_6 T1 n1
 )
theorem g176_ok (ro : List HT) (a0 a1 : AV) (T : HT) (nx : Nat) : GOk Tryz.prog envE 176 [a0, a1] ro T nx (g176 ro a0 a1 T nx) := by
 refine GOk.of_body Tryz.func176 rfl Tryz.ntmps176 (by kernel_rfl) rfl fun r T' n' h1 w0 base ρ0 its hS hP => ?_
 have X : CtxW envE ρ0 ro r T' n' := trivial
 unfold g176 at h1
 refine sr ?_
 refine as_ ?_
 refine dn ?_
 refine CV.seq ?_
 refine CV.regionMS hS [(a0, 1, 1)] [(0, .anywhere), (1, .anywhere), (2, .anywhere), (3, .held), (4, .anywhere), (5, .anywhere), (6, .alone), (7, .alone), (8, .alone)] rfl (fun c a a' w hd hq => PanicOk.root (P := Tryz.prog) (fn := Tryz.f176) (w0 := w0) (base := base) (E := envE) (ro := ro) (r := r) (T' := T') (n' := n') (ρ0 := ρ0) c a a' w hd hq) (by kernel_rfl) ?_
 have hK := KeepS.start [(a0, 1, 1)] hS
 have hR := hS
 have hP0 := hP
 replace hP := PK.up hR hP
 replace hS := hR.root
 refine MV.step0 (i := 0) rfl (VAL.move rfl) rfl rfl rfl ?_
 refine MV.lift0 (i := 1) rfl (V.nc h1 rfl) rfl rfl rfl fun x13_1 h2 => ?_
 refine MV.lift0 (i := 2) rfl (V.fa h2 rfl Vdf.fo255_1) rfl rfl rfl fun x14_2 h3 => ?_
 refine MV.lift1 (i := 3) rfl hK (V.ldQ hS h3 rfl Vdf.one3) rfl rfl rfl [] (by kernel_rfl) fun x15_3 h4 => ?_
 refine MV.step0 (i := 4) rfl (VAL.move rfl) rfl rfl rfl ?_
 refine MV.step0 (i := 5) rfl (VAL.move rfl) rfl rfl rfl ?_
 refine MV.force (i := 6) rfl ?_
 refine LV.call hS h4 (g231_ok _ _ _ _ _ ) hP rfl rfl rfl rfl fun x18_4 T1 n1 h5 ρ its hS => ?_
 obtain ⟨hK, h6⟩ := KeepS.step hR hS h5
 refine LV.nextM [3] (by kernel_rfl) (fun _ => hK) ?_
 refine MV.force (i := 7) rfl ?_
 refine as_ ?_
 refine LV.nextM [] (by kernel_rfl) (fun z => absurd rfl z) ?_
 refine MV.force (i := 8) rfl ?_
 refine as_ ?_
 refine LV.nextM [] (by kernel_rfl) (fun z => absurd rfl z) ?_
 replace hS := hR.up hS
 replace hP := hP0
 refine mdn ?_
 refine CV.seq ?_
 refine sr ?_
 refine mv ?_
 refine vy (V.lt h6 rfl rfl) fun x20_5 h7 => ?_
 refine dn ?_
 refine CV.cond h7 rfl (fun e h8 => ?_) (fun e h8 => ?_)
 ·
  clear h1 h2 h3 h4 h5 h6 h7
  subst e
  cases h8
 ·
  clear h1 h2 h3 h4 h5 h6 h7
  subst e
  refine CV.skip ?_
  refine PV.thenN ?_
  refine sr ?_
  refine as_ ?_
  refine dn ?_
  refine CV.seq ?_
  refine sr ?_
  refine mv ?_
  refine vy (V.add h8 rfl rfl) fun x24_6 h9 => ?_
  refine as_ ?_
  refine dn ?_
  refine CV.block ?_
  refine cl6 X 0 4 5 6 7 8 [] hS h9 ⟨rfl, rfl, rfl, rfl, rfl, rfl, trivial⟩ ?_
  intro f1 y0 y4 y5 y6 y7 y8 T2 n2 ρ its hS h10
  unfold g176_b1 at h10
  clear h8 h9
  refine CV.seq ?_
  refine sr ?_
  refine mv ?_
  refine mv ?_
  refine vy (V.sub h10 rfl rfl) fun x27_7 h11 => ?_
  refine vy (V.lt h11 rfl rfl) fun x28_8 h12 => ?_
  refine dn ?_
  refine CV.cond h12 rfl (fun e h13 => ?_) (fun e h13 => ?_)
  ·
   clear h10 h11 h12
   subst e
   refine CV.skip ?_
   refine PV.thenN ?_
   refine cs6 X 0 4 5 6 7 8 [] (g176_k2 ro (lpf6 1760020 (g176_b1 ro) f1)) ?_ ?_
   ·
    refine CV.block ?_
    refine sr ?_
    refine mv ?_
    refine fl hS h13 Vdf.fo255_0 Vdf.one9 fun x34_10 h16 => ?_
    refine mv ?_
    refine vy (V.ix h16 rfl rfl Vdf.st9) fun x36_11 h17 => ?_
    refine as_ ?_
    refine dn ?_
    refine CV.seq ?_
    refine sr ?_
    refine mv ?_
    refine vy (V.ne h17 rfl rfl) fun x38_12 h18 => ?_
    refine dn ?_
    refine CV.cond h18 rfl (fun e h19 => ?_) (fun e h19 => ?_)
    ·
     clear h13 h16 h17 h18
     subst e
     refine CV.seq ?_
     refine sr ?_
     refine mv ?_
     refine vy (V.lt h19 rfl rfl) fun x40_13 h20 => ?_
     refine mv ?_
     refine ls8 X 0 4 5 6 7 8 9 44 [] (g176_k3 ro (lpf6 1760020 (g176_b1 ro) f1)) 3 ?_ ?_
     ·
      rcases condK_inv h20 with ⟨e, h26⟩ | ⟨e, h26⟩
      ·
       clear h19 h20
       subst e
       refine sk ?_
       refine sk ?_
       refine pu ?_
       exact la8 hS h26 ⟨rfl, rfl, rfl, rfl, rfl, rfl, rfl, rfl, trivial⟩
      ·
       clear h19 h20
       subst e
       refine mv ?_
       refine vy (V.eq h26 rfl rfl) fun x43_16 h27 => ?_
       refine pu ?_
       exact la8 hS h27 ⟨rfl, rfl, rfl, rfl, rfl, rfl, rfl, rfl, trivial⟩
     ·
      intro y0 y4 y5 y6 y7 y8 y9 y44 T4 n4 ρ its hS h21
      unfold g176_k3 at h21
      clear h19 h20
      refine dn ?_
      refine CV.cond h21 rfl (fun e h22 => ?_) (fun e h22 => ?_)
      ·
       clear h21
       subst e
       cases h22
      ·
       clear h21
       subst e
       refine CV.skip ?_
       refine PV.thenN ?_
       refine sr ?_
       refine mv ?_
       refine mv ?_
       refine LV.bslice hS h22 rfl rfl Vdf.el79 rfl rfl rfl rfl fun x49_14 T5 n5 h23 ρ its hS hdr => ?_
       obtain ⟨T6, its1, h24, hS, hW⟩ := shrK_inv hS h23
       refine LV.world hW ?_
       refine LV.appE hS h24 rfl rfl rfl rfl Vdf.el79 rfl rfl rfl fun x50_15 T7 n7 h25 ρ its hS => ?_
       refine as_ ?_
       refine dn ?_
       refine CV.exit ?_
       refine PV.thenE ?_
       refine PV.blockE ?_
       exact pa6 hS h25 ⟨rfl, rfl, rfl, rfl, rfl, rfl, trivial⟩
    ·
     clear h13 h16 h17 h18
     subst e
     refine CV.skip ?_
     refine PV.thenN ?_
     refine sr ?_
     refine mv ?_
     refine fl hS h19 Vdf.fo255_0 Vdf.one9 fun x55_17 h28 => ?_
     refine mv ?_
     refine vy (V.add h28 rfl rfl) fun x57_18 h29 => ?_
     refine mv ?_
     refine vy (V.sub h29 rfl rfl) fun x59_19 h30 => ?_
     refine vy (V.slBo (sliceF_ok h30) rfl rfl rfl Vdf.st9) fun x60_20 h31 => ?_
     refine LV.call hS h31 (g232_ok _ _ _ _ ) hP rfl rfl rfl rfl fun x61_21 T8 n8 h32 ρ its hS => ?_
     refine mv ?_
     refine vy (V.ex h32 rfl) fun x62_22 h33 => ?_
     refine vy (V.ex h33 rfl) fun x63_23 h34 => ?_
     refine as_ ?_
     refine as_ ?_
     refine dn ?_
     refine CV.seq ?_
     refine sr ?_
     refine mv ?_
     refine vy (V.eq h34 rfl rfl) fun x65_24 h35 => ?_
     refine dn ?_
     refine CV.cond h35 rfl (fun e h36 => ?_) (fun e h36 => ?_)
     ·
      clear h19 h28 h29 h30 h31 h32 h33 h34 h35
      subst e
      cases h36
     ·
      clear h19 h28 h29 h30 h31 h32 h33 h34 h35
      subst e
      refine CV.skip ?_
      refine PV.thenN ?_
      refine sr ?_
      refine mv ?_
      refine mv ?_
      refine LV.bslice hS h36 rfl rfl Vdf.el79 rfl rfl rfl rfl fun x70_25 T9 n9 h37 ρ its hS hdr => ?_
      obtain ⟨T10, its1, h38, hS, hW⟩ := shrK_inv hS h37
      refine LV.world hW ?_
      refine LV.appE hS h38 rfl rfl rfl rfl Vdf.el79 rfl rfl rfl fun x71_26 T11 n11 h39 ρ its hS => ?_
      refine as_ ?_
      refine dn ?_
      refine CV.region ?_
      refine mv ?_
      refine mv ?_
      refine vy (V.add h39 rfl rfl) fun x74_27 h40 => ?_
      refine as_ ?_
      refine LV.done ?_
      refine PV.blockN ?_
      exact pa6 hS h40 ⟨rfl, rfl, rfl, rfl, rfl, rfl, trivial⟩
   ·
    intro y0 y4 y5 y6 y7 y8 T3 n3 ρ its hS h14
    unfold g176_k2 at h14
    clear h13
    refine CV.region ?_
    refine mv ?_
    refine vy (V.add h14 rfl rfl) fun x30_9 h15 => ?_
    refine as_ ?_
    refine LV.done ?_
    exact pb6 hS h15 ⟨rfl, rfl, rfl, rfl, rfl, rfl, trivial⟩
  ·
   clear h10 h11 h12
   subst e
   refine CV.exit ?_
   refine PV.thenE ?_
   refine PV.thenE ?_
   refine PV.blockE ?_
   refine PV.thenN ?_
   refine sr ?_
   refine mv ?_
   refine mv ?_
   refine fa2 h13 Vdf.fo255_1 fun x78_28 h41 => ?_
   refine LV.st hS h41 rfl rfl rfl Vdf.siz3 rfl rfl fun T12 its h42 hS => ?_
   refine dn ?_
   refine sr ?_
   refine mv ?_
   refine mv ?_
   refine vy (V.strB hS h42 rfl Vdf.slt79 Vdf.u8t5 Vdf.st9) fun x81_29 h43 => ?_
   refine mv ?_
   refine LV.call hS h43 (g133_ok _ _ _ _ _ _ _ ) hP rfl rfl rfl rfl fun x83_30 T13 n13 h44 ρ its hS => ?_
   refine dn ?_
   refine sr ?_
   refine as_ ?_
   refine dn ?_
   refine CV.ret ?_
   cases h44
   exact PV.ret (by simp) Tryz.results176 hS (RS.tmp rfl RS.nil) rfl
noncomputable def g177_k2 (ro : List HT) (y0 y2 y3 : AV) (T3 : HT) (n3 : Nat) : R :=
 fldK 1770012 T3 ro y0 1 fun x85_3 =>
 callK (g133 ro y0 (.lit (.int .i64 (.ofNat 4))) y3 x85_3 T3 n3) fun x86_4 T4 n4 =>
 fldK 1770015 T4 ro y0 1 fun x90_5 =>
 lenTK 1770017 y3 fun x92_6 =>
 addK Tryz.prog 3 (.tmp 90) (.tmp 92) 1770018 x90_5 x92_6 fun x93_7 =>
 faK 1770019 y0 1 fun x95_8 =>
 stK 1770020 T4 x95_8 x93_7 fun T5 =>
 .ok (.val (.lit (.nilIface))) T5 n4
noncomputable def g177_k3 (ro : List HT) (y0 y2 y3 y5 y65 : AV) (T7 : HT) (n7 : Nat) : R :=
 condK 1770032 y65
 (
  .bad 1770033
 )
 (
  fldK 1770036 T7 ro y0 4 fun x75_15 =>
  cutHiK 1770038 T7 ro x75_15 y5 fun x77_16 =>
  faK 1770039 y0 4 fun x79_17 =>
  stK 1770040 T7 x79_17 x77_16 fun T8 =>
  g177_k2 ro y0 y2 y3 T8 n7
 )
noncomputable def g177_k1 (ro : List HT) (y0 y2 y3 : AV) (T2 : HT) (n2 : Nat) : R :=
 ixK 1770023 y3 (.lit (.int .i64 (.ofNat 0))) fun x43_9 =>
 callK (g234 ro (.lit (.string ⟨⟨[41, 93, 125]⟩⟩)) x43_9 T2 n2) fun x44_10 T6 n6 =>
 geK Tryz.prog 3 (.tmp 44) (.const (.int .i64 (.ofNat 0))) 1770025 x44_10 (.lit (.int .i64 (.ofNat 0))) fun x45_11 =>
 condK 1770026 x45_11
 (
  fldK 1770028 T6 ro y0 4 fun x49_12 =>
  lenSK 1770029 x49_12 fun x50_13 =>
  subK Tryz.prog 3 (.tmp 50) (.const (.int .i64 (.ofNat 1))) 1770030 x50_13 (.lit (.int .i64 (.ofNat 1))) fun x51_14 =>
  ltK Tryz.prog 3 (.tmp 52) (.const (.int .i64 (.ofNat 0))) 1770042 x51_14 (.lit (.int .i64 (.ofNat 0))) fun x53_18 =>
  condK 1770044 x53_18
  (
   g177_k3 ro y0 y2 y3 x51_14 (.lit (.bool true)) T6 n6
  )
  (
   ncK 1770047 y0 fun x56_19 =>
   faK 1770048 x56_19 4 fun x57_20 =>
   ldK 1770049 T6 ro x57_20 fun x58_21 =>
   iaK 1770051 x58_21 x51_14 1 fun x60_22 =>
   ldK 1770052 T6 ro x60_22 fun x61_23 =>
   ixK 1770054 y3 (.lit (.int .i64 (.ofNat 0))) fun x63_24 =>
   neK Tryz.prog 5 (.tmp 61) (.tmp 63) 1770055 x61_23 x63_24 fun x64_25 =>
   g177_k3 ro y0 y2 y3 x51_14 x64_25 T6 n6
  )
 )
 (
  g177_k2 ro y0 y2 y3 T6 n6
 )
noncomputable def g177 (ro : List HT) (a0 : AV) (T : HT) (nx : Nat) : R :=
 callK (g233 ro a0 T nx) fun x7_1 T1 n1 =>
 eqSK Tryz.prog 9 (.tmp 8) (.const (.string ⟨⟨[]⟩⟩)) 1770006 x7_1 (.lit (.string ⟨⟨[]⟩⟩)) fun x9_2 =>
 condK 1770007 x9_2
 (
  .bad 1770008
 )
 (
  ixK 1770058 x7_1 (.lit (.int .i64 (.ofNat 0))) fun x16_26 =>
  callK (g234 ro (.lit (.string ⟨⟨[40, 91, 123]⟩⟩)) x16_26 T1 n1) fun x17_27 T9 n9 =>
  geK Tryz.prog 3 (.tmp 18) (.const (.int .i64 (.ofNat 0))) 1770062 x17_27 (.lit (.int .i64 (.ofNat 0))) fun x19_28 =>
  condK 1770063 x19_28
  (
   fldK 1770065 T9 ro a0 4 fun x23_29 =>
   lenSK 1770066 x23_29 fun x24_30 =>
   geK Tryz.prog 3 (.tmp 24) (.const (.int .i64 (.ofNat 60))) 1770067 x24_30 (.lit (.int .i64 (.ofNat 60))) fun x25_31 =>
   condK 1770068 x25_31
   (
    .bad 1770069
   )
   (
    ncK 1770072 a0 fun x33_32 =>
    faK 1770073 x33_32 4 fun x34_33 =>
    ldK 1770074 T9 ro x34_33 fun x35_34 =>
    ixK 1770076 (.lit (.string ⟨⟨[41, 93, 125]⟩⟩)) x17_27 fun x37_35 =>
    bsK 1770077 T9 n9 1 5 1 [(0, x37_35)] fun x38_36 T10 n10 =>
    shrK 1770079 T10 x35_34 fun T11 =>
    appEK 1770078 T11 ro n10 5 1 1 x35_34 x38_36 fun x39_37 T12 n12 =>
    ncK 1770080 a0 fun x40_38 =>
    faK 1770081 x40_38 4 fun x41_39 =>
    stK 1770082 T12 x41_39 x39_37 fun T13 =>
    g177_k1 ro a0 (.lit (.nilIface)) x7_1 T13 n12
   )
  )
  (
   g177_k1 ro a0 (.lit (.nilIface)) x7_1 T9 n9
  )
 )
theorem g177_ok (ro : List HT) (a0 : AV) (T : HT) (nx : Nat) : GOk Tryz.prog envE 177 [a0] ro T nx (g177 ro a0 T nx) := by
 refine GOk.of_body Tryz.func177 rfl Tryz.ntmps177 (by kernel_rfl) rfl fun r T' n' h1 w0 base ρ0 its hS hP => ?_
 have X : CtxW envE ρ0 ro r T' n' := trivial
 unfold g177 at h1
 refine sr ?_
 refine as_ ?_
 refine dn ?_
 refine sr ?_
 refine mv ?_
 refine LV.call hS h1 (g233_ok _ _ _ _ ) hP rfl rfl rfl rfl fun x7_1 T1 n1 h2 ρ its hS => ?_
 refine as_ ?_
 refine dn ?_
 refine CV.seq ?_
 refine sr ?_
 refine mv ?_
 refine vy (V.eqS h2 rfl rfl) fun x9_2 h3 => ?_
 refine dn ?_
 refine CV.cond h3 rfl (fun e h4 => ?_) (fun e h4 => ?_)
 ·
  clear h1 h2 h3
  subst e
  cases h4
 ·
  clear h1 h2 h3
  subst e
  refine CV.skip ?_
  refine PV.thenN ?_
  refine cs3 X 0 2 3 [] (g177_k1 ro) ?_ ?_
  ·
   refine sr ?_
   refine mv ?_
   refine vy (V.ix h4 rfl rfl Vdf.st9) fun x16_26 h36 => ?_
   refine LV.call hS h36 (g234_ok _ _ _ _ _ ) hP rfl rfl rfl rfl fun x17_27 T9 n9 h37 ρ its hS => ?_
   refine as_ ?_
   refine dn ?_
   refine sr ?_
   refine mv ?_
   refine vy (V.ge h37 rfl rfl) fun x19_28 h38 => ?_
   refine dn ?_
   refine CV.cond h38 rfl (fun e h39 => ?_) (fun e h39 => ?_)
   ·
    clear h4 h36 h37 h38
    subst e
    refine CV.seq ?_
    refine sr ?_
    refine mv ?_
    refine fl hS h39 Vdf.fo255_4 Vdf.one79 fun x23_29 h40 => ?_
    refine vy (V.lenS h40 rfl Vdf.ls79) fun x24_30 h41 => ?_
    refine vy (V.ge h41 rfl rfl) fun x25_31 h42 => ?_
    refine dn ?_
    refine CV.cond h42 rfl (fun e h43 => ?_) (fun e h43 => ?_)
    ·
     clear h39 h40 h41 h42
     subst e
     cases h43
    ·
     clear h39 h40 h41 h42
     subst e
     refine CV.skip ?_
     refine PV.thenN ?_
     refine CV.regionM [(0, .anywhere), (1, .anywhere), (2, .anywhere), (3, .anywhere), (4, .held), (5, .anywhere), (6, .anywhere), (7, .alone), (8, .alone), (9, .alone), (10, .alone), (11, .alone)] rfl (fun c a a' w hd hq => PanicOk.root (P := Tryz.prog) (fn := Tryz.f177) (w0 := w0) (base := base) (E := envE) (ro := ro) (r := r) (T' := T') (n' := n') (ρ0 := ρ0) c a a' w hd hq) (by kernel_rfl) ?_
     refine MV.step0 (i := 0) rfl (VAL.move rfl) rfl rfl rfl ?_
     refine MV.step0 (i := 1) rfl (VAL.move rfl) rfl rfl rfl ?_
     refine MV.lift0 (i := 2) rfl (V.nc h43 rfl) rfl rfl rfl fun x33_32 h44 => ?_
     refine MV.lift0 (i := 3) rfl (V.fa h44 rfl Vdf.fo255_4) rfl rfl rfl fun x34_33 h45 => ?_
     refine MV.lift1 (i := 4) rfl (fun _ z => z) (V.ld hS h45 rfl Vdf.one79) rfl rfl rfl [] (by kernel_rfl) fun x35_34 h46 => ?_
     refine MV.step0 (i := 5) rfl (VAL.move rfl) rfl rfl rfl ?_
     refine MV.lift0 (i := 6) rfl (V.ix h46 rfl rfl Vdf.st9) rfl rfl rfl fun x37_35 h47 => ?_
     refine MV.force (i := 7) rfl ?_
     refine LV.bslice hS h47 rfl rfl Vdf.el79 rfl rfl rfl rfl fun x38_36 T10 n10 h48 ρ its hS hdr => ?_
     refine LV.nextM [4] (by kernel_rfl) (fun _ => hdr) ?_
     refine MV.force (i := 8) rfl ?_
     obtain ⟨T11, its1, h49, hS, hW⟩ := shrK_inv hS h48
     refine LV.world hW ?_
     refine LV.appE hS h49 rfl rfl rfl rfl Vdf.el79 rfl rfl rfl fun x39_37 T12 n12 h50 ρ its hS => ?_
     refine LV.nextM [] (by kernel_rfl) (fun z => absurd rfl z) ?_
     refine MV.force (i := 9) rfl ?_
     refine vy (V.nc h50 rfl) fun x40_38 h51 => ?_
     refine LV.nextM [] (by kernel_rfl) (fun z => absurd rfl z) ?_
     refine MV.force (i := 10) rfl ?_
     refine vy (V.fa h51 rfl Vdf.fo255_4) fun x41_39 h52 => ?_
     refine LV.nextM [] (by kernel_rfl) (fun z => absurd rfl z) ?_
     refine MV.force (i := 11) rfl ?_
     refine LV.st hS h52 rfl rfl rfl Vdf.siz79 rfl rfl fun T13 its h53 hS => ?_
     refine LV.nextM [] (by kernel_rfl) (fun z => absurd rfl z) ?_
     refine MV.done ?_
     exact pa3 hS h53 ⟨rfl, rfl, rfl, trivial⟩
   ·
    clear h4 h36 h37 h38
    subst e
    refine CV.skip ?_
    exact pa3 hS h39 ⟨rfl, rfl, rfl, trivial⟩
  ·
   intro y0 y2 y3 T2 n2 ρ its hS h5
   unfold g177_k1 at h5
   clear h4
   refine cs3 X 0 2 3 [] (g177_k2 ro) ?_ ?_
   ·
    refine sr ?_
    refine mv ?_
    refine vy (V.ix h5 rfl rfl Vdf.st9) fun x43_9 h14 => ?_
    refine LV.call hS h14 (g234_ok _ _ _ _ _ ) hP rfl rfl rfl rfl fun x44_10 T6 n6 h15 ρ its hS => ?_
    refine vy (V.ge h15 rfl rfl) fun x45_11 h16 => ?_
    refine dn ?_
    refine CV.cond h16 rfl (fun e h17 => ?_) (fun e h17 => ?_)
    ·
     clear h5 h14 h15 h16
     subst e
     refine sr ?_
     refine mv ?_
     refine fl hS h17 Vdf.fo255_4 Vdf.one79 fun x49_12 h18 => ?_
     refine vy (V.lenS h18 rfl Vdf.ls79) fun x50_13 h19 => ?_
     refine vy (V.sub h19 rfl rfl) fun x51_14 h20 => ?_
     refine as_ ?_
     refine dn ?_
     refine CV.seq ?_
     refine cs5 X 0 2 3 5 65 [] (g177_k3 ro) ?_ ?_
     ·
      refine CV.regionM [(0, .anywhere), (1, .anywhere), (2, .anywhere), (3, .anywhere), (4, .anywhere), (5, .anywhere), (6, .held), (7, .anywhere), (8, .held), (9, .held), (10, .anywhere), (11, .anywhere), (12, .held), (13, .held)] rfl (fun c a a' w hd hq => PanicOk.root (P := Tryz.prog) (fn := Tryz.f177) (w0 := w0) (base := base) (E := envE) (ro := ro) (r := r) (T' := T') (n' := n') (ρ0 := ρ0) c a a' w hd hq) (by kernel_rfl) ?_
      refine MV.step0 (i := 0) rfl (VAL.move rfl) rfl rfl rfl ?_
      refine MV.lift0 (i := 1) rfl (V.lt h20 rfl rfl) rfl rfl rfl fun x53_18 h27 => ?_
      refine MV.step0 (i := 2) rfl (VAL.move rfl) rfl rfl rfl ?_
      rcases condK_inv h27 with ⟨e, h28⟩ | ⟨e, h28⟩
      ·
       clear h17 h18 h19 h20 h27
       subst e
       refine MV.skip0 (i := 3) rfl rfl rfl rfl ?_
       refine MV.skip0 (i := 4) rfl rfl rfl rfl ?_
       refine MV.skip0 (i := 5) rfl rfl rfl rfl ?_
       refine MV.skip1 (i := 6) rfl (fun _ z => z) rfl rfl rfl [] (by kernel_rfl) ?_
       refine MV.skip0 (i := 7) rfl rfl rfl rfl ?_
       refine MV.skip1 (i := 8) rfl (fun _ z => z) rfl rfl rfl [] (by kernel_rfl) ?_
       refine MV.skip1 (i := 9) rfl (fun _ z => z) rfl rfl rfl [] (by kernel_rfl) ?_
       refine MV.skip0 (i := 10) rfl rfl rfl rfl ?_
       refine MV.skip0 (i := 11) rfl rfl rfl rfl ?_
       refine MV.skip1 (i := 12) rfl (fun _ z => z) rfl rfl rfl [] (by kernel_rfl) ?_
       refine MV.step1 (i := 13) rfl (fun _ z => z) (VAL.pure rfl) rfl rfl rfl [] (by kernel_rfl) ?_
       refine MV.done ?_
       exact pa5 hS h28 ⟨rfl, rfl, rfl, rfl, rfl, trivial⟩
      ·
       clear h17 h18 h19 h20 h27
       subst e
       refine MV.step0 (i := 3) rfl (VAL.move rfl) rfl rfl rfl ?_
       refine MV.lift0 (i := 4) rfl (V.nc h28 rfl) rfl rfl rfl fun x56_19 h29 => ?_
       refine MV.lift0 (i := 5) rfl (V.fa h29 rfl Vdf.fo255_4) rfl rfl rfl fun x57_20 h30 => ?_
       refine MV.lift1 (i := 6) rfl (fun _ z => z) (V.ld hS h30 rfl Vdf.one79) rfl rfl rfl [] (by kernel_rfl) fun x58_21 h31 => ?_
       refine MV.step0 (i := 7) rfl (VAL.move rfl) rfl rfl rfl ?_
       refine MV.lift1 (i := 8) rfl (fun _ z => z) (V.ia h31 rfl rfl Vdf.el79) rfl rfl rfl [] (by kernel_rfl) fun x60_22 h32 => ?_
       refine MV.lift1 (i := 9) rfl (fun _ z => z) (V.ld hS h32 rfl Vdf.one5) rfl rfl rfl [] (by kernel_rfl) fun x61_23 h33 => ?_
       refine MV.step0 (i := 10) rfl (VAL.move rfl) rfl rfl rfl ?_
       refine MV.lift0 (i := 11) rfl (V.ix h33 rfl rfl Vdf.st9) rfl rfl rfl fun x63_24 h34 => ?_
       refine MV.lift1 (i := 12) rfl (fun _ z => z) (V.ne h34 rfl rfl) rfl rfl rfl [] (by kernel_rfl) fun x64_25 h35 => ?_
       refine MV.step1 (i := 13) rfl (fun _ z => z) (VAL.pure rfl) rfl rfl rfl [] (by kernel_rfl) ?_
       refine MV.done ?_
       exact pa5 hS h35 ⟨rfl, rfl, rfl, rfl, rfl, trivial⟩
     ·
      intro y0 y2 y3 y5 y65 T7 n7 ρ its hS h21
      unfold g177_k3 at h21
      clear h17 h18 h19 h20
      refine CV.cond h21 rfl (fun e h22 => ?_) (fun e h22 => ?_)
      ·
       clear h21
       subst e
       cases h22
      ·
       clear h21
       subst e
       refine CV.skip ?_
       refine PV.thenN ?_
       refine CV.region ?_
       refine mv ?_
       refine mv ?_
       refine fl hS h22 Vdf.fo255_4 Vdf.one79 fun x75_15 h23 => ?_
       refine mv ?_
       refine vy (V.cutHi hS h23 rfl rfl Vdf.el79) fun x77_16 h24 => ?_
       refine fa2 h24 Vdf.fo255_4 fun x79_17 h25 => ?_
       refine LV.st hS h25 rfl rfl rfl Vdf.siz79 rfl rfl fun T8 its h26 hS => ?_
       refine LV.done ?_
       exact pa3 hS h26 ⟨rfl, rfl, rfl, trivial⟩
    ·
     clear h5 h14 h15 h16
     subst e
     refine CV.skip ?_
     exact pa3 hS h17 ⟨rfl, rfl, rfl, trivial⟩
   ·
    intro y0 y2 y3 T3 n3 ρ its hS h6
    unfold g177_k2 at h6
    clear h5
    refine sr ?_
    refine mv ?_
    refine mv ?_
    refine mv ?_
    refine fl hS h6 Vdf.fo255_1 Vdf.one3 fun x85_3 h7 => ?_
    refine LV.call hS h7 (g133_ok _ _ _ _ _ _ _ ) hP rfl rfl rfl rfl fun x86_4 T4 n4 h8 ρ its hS => ?_
    refine dn ?_
    refine sr ?_
    refine mv ?_
    refine fl hS h8 Vdf.fo255_1 Vdf.one3 fun x90_5 h9 => ?_
    refine mv ?_
    refine vy (V.lenT h9 rfl Vdf.ls9) fun x92_6 h10 => ?_
    refine vy (V.add h10 rfl rfl) fun x93_7 h11 => ?_
    refine fa2 h11 Vdf.fo255_1 fun x95_8 h12 => ?_
    refine LV.st hS h12 rfl rfl rfl Vdf.siz3 rfl rfl fun T5 its h13 hS => ?_
    refine dn ?_
    refine sr ?_
    refine as_ ?_
    refine dn ?_
    refine CV.ret ?_
    cases h13
    exact PV.ret (by simp) Tryz.results177 hS (RS.tmp rfl RS.nil) rfl
noncomputable def g130_k2 (ro : List HT) (y0 y2 y3 y73 : AV) (T6 : HT) (n6 : Nat) : R :=
 condK 1300048 y73
 (
  callK (g176 ro y0 y3 T6 n6) fun x76_18 T7 n7 =>
  .ok (.val x76_18) T7 n7
 )
 (
  callK (g177 ro y0 T6 n6) fun x78_19 T8 n8 =>
  .ok (.val x78_19) T8 n8
 )
noncomputable def g130_k1 (ro : List HT) (y0 y2 y3 : AV) (T2 : HT) (n2 : Nat) : R :=
 callK (g172 ro y3 T2 n2) fun x59_14 T3 n3 =>
 condK 1300035 x59_14
 (
  .bad 1300036
 )
 (
  callK (g174 ro y3 T3 n3) fun x64_15 T4 n4 =>
  condK 1300040 x64_15
  (
   callK (g175 ro y0 T4 n4) fun x66_16 T5 n5 =>
   .ok (.val x66_16) T5 n5
  )
  (
   eqK Tryz.prog 5 (.tmp 68) (.const (.int .u8 (.ofNat 34))) 1300045 y3 (.lit (.int .u8 (.ofNat 34))) fun x69_17 =>
   condK 1300056 x69_17
   (
    g130_k2 ro y0 y2 y3 (.lit (.bool true)) T4 n4
   )
   (
    eqK Tryz.prog 5 (.tmp 71) (.const (.int .u8 (.ofNat 39))) 1300059 y3 (.lit (.int .u8 (.ofNat 39))) fun x72_20 =>
    g130_k2 ro y0 y2 y3 x72_20 T4 n4
   )
  )
 )
noncomputable def g130 (ro : List HT) (a0 : AV) (T : HT) (nx : Nat) : R :=
 ncK 1300003 a0 fun x6_1 =>
 faK 1300004 x6_1 0 fun x7_2 =>
 ldK 1300005 T ro x7_2 fun x8_3 =>
 ncK 1300007 a0 fun x10_4 =>
 faK 1300008 x10_4 1 fun x11_5 =>
 ldK 1300009 T ro x11_5 fun x12_6 =>
 ixK 1300010 x8_3 x12_6 fun x13_7 =>
 eqK Tryz.prog 5 (.tmp 15) (.const (.int .u8 (.ofNat 10))) 1300013 x13_7 (.lit (.int .u8 (.ofNat 10))) fun x16_8 =>
 condK 1300015 x16_8
 (
  .bad 1300016
 )
 (
  eqK Tryz.prog 5 (.tmp 33) (.const (.int .u8 (.ofNat 32))) 1300018 x13_7 (.lit (.int .u8 (.ofNat 32))) fun x34_9 =>
  condK 1300020 x34_9
  (
   fldK 1300022 T ro a0 1 fun x38_10 =>
   addK Tryz.prog 3 (.tmp 38) (.const (.int .i64 (.ofNat 1))) 1300023 x38_10 (.lit (.int .i64 (.ofNat 1))) fun x39_11 =>
   faK 1300024 a0 1 fun x41_12 =>
   stK 1300025 T x41_12 x39_11 fun T1 =>
   .ok (.val (.lit (.nilIface))) T1 nx
  )
  (
   eqK Tryz.prog 5 (.tmp 43) (.const (.int .u8 (.ofNat 35))) 1300028 x13_7 (.lit (.int .u8 (.ofNat 35))) fun x44_13 =>
   condK 1300030 x44_13
   (
    .bad 1300031
   )
   (
    fldK 1300062 T ro a0 5 fun x50_21 =>
    notK 1300063 x50_21 fun x51_22 =>
    condK 1300064 x51_22
    (
     callK (g171 ro a0 T nx) fun x53_23 T9 n9 =>
     bin0 Tryz.prog .neq 36 (.tmp 54) (.const (.nilIface)) 1300069 x53_23 (.lit (.nilIface)) fun x55_24 =>
     condK 1300070 x55_24
     (
      .bad 1300071
     )
     (
      g130_k1 ro a0 (.lit (.nilIface)) x13_7 T9 n9
     )
    )
    (
     g130_k1 ro a0 (.lit (.nilIface)) x13_7 T nx
    )
   )
  )
 )
theorem g130_ok (ro : List HT) (a0 : AV) (T : HT) (nx : Nat) : GOk Tryz.prog envE 130 [a0] ro T nx (g130 ro a0 T nx) := by
 refine GOk.of_body Tryz.func130 rfl Tryz.ntmps130 (by kernel_rfl) rfl fun r T' n' h1 w0 base ρ0 its hS hP => ?_
 have X : CtxW envE ρ0 ro r T' n' := trivial
 unfold g130 at h1
 refine sr ?_
 refine as_ ?_
 refine dn ?_
 refine CV.seq ?_
 refine CV.regionM [(0, .anywhere), (1, .anywhere), (2, .anywhere), (3, .held), (4, .anywhere), (5, .anywhere), (6, .anywhere), (7, .held), (8, .held), (9, .held)] rfl (fun c a a' w hd hq => PanicOk.root (P := Tryz.prog) (fn := Tryz.f130) (w0 := w0) (base := base) (E := envE) (ro := ro) (r := r) (T' := T') (n' := n') (ρ0 := ρ0) c a a' w hd hq) (by kernel_rfl) ?_
 refine MV.step0 (i := 0) rfl (VAL.move rfl) rfl rfl rfl ?_
 refine MV.lift0 (i := 1) rfl (V.nc h1 rfl) rfl rfl rfl fun x6_1 h2 => ?_
 refine MV.lift0 (i := 2) rfl (V.fa h2 rfl Vdf.fo255_0) rfl rfl rfl fun x7_2 h3 => ?_
 refine MV.lift1 (i := 3) rfl (fun _ z => z) (V.ld hS h3 rfl Vdf.one9) rfl rfl rfl [] (by kernel_rfl) fun x8_3 h4 => ?_
 refine MV.step0 (i := 4) rfl (VAL.move rfl) rfl rfl rfl ?_
 refine MV.lift0 (i := 5) rfl (V.nc h4 rfl) rfl rfl rfl fun x10_4 h5 => ?_
 refine MV.lift0 (i := 6) rfl (V.fa h5 rfl Vdf.fo255_1) rfl rfl rfl fun x11_5 h6 => ?_
 refine MV.lift1 (i := 7) rfl (fun _ z => z) (V.ld hS h6 rfl Vdf.one3) rfl rfl rfl [3] (by kernel_rfl) fun x12_6 h7 => ?_
 refine MV.lift1 (i := 8) rfl (fun _ z => z) (V.ix h7 rfl rfl Vdf.st9) rfl rfl rfl [] (by kernel_rfl) fun x13_7 h8 => ?_
 refine MV.step1 (i := 9) rfl (fun _ z => z) (VAL.assign rfl) rfl rfl rfl [] (by kernel_rfl) ?_
 refine mdn ?_
 refine CV.seq ?_
 refine CV.block ?_
 refine sr ?_
 refine mv ?_
 refine vy (V.eq h8 rfl rfl) fun x16_8 h9 => ?_
 refine as_ ?_
 refine dn ?_
 refine CV.cond h9 rfl (fun e h10 => ?_) (fun e h10 => ?_)
 ·
  clear h1 h2 h3 h4 h5 h6 h7 h8 h9
  subst e
  cases h10
 ·
  clear h1 h2 h3 h4 h5 h6 h7 h8 h9
  subst e
  refine sr ?_
  refine mv ?_
  refine vy (V.eq h10 rfl rfl) fun x34_9 h11 => ?_
  refine as_ ?_
  refine dn ?_
  refine CV.cond h11 rfl (fun e h12 => ?_) (fun e h12 => ?_)
  ·
   clear h10 h11
   subst e
   refine sr ?_
   refine mv ?_
   refine fl hS h12 Vdf.fo255_1 Vdf.one3 fun x38_10 h13 => ?_
   refine vy (V.add h13 rfl rfl) fun x39_11 h14 => ?_
   refine fa2 h14 Vdf.fo255_1 fun x41_12 h15 => ?_
   refine LV.st hS h15 rfl rfl rfl Vdf.siz3 rfl rfl fun T1 its h16 hS => ?_
   refine dn ?_
   refine sr ?_
   refine as_ ?_
   refine dn ?_
   refine CV.ret ?_
   refine PV.blockR ?_
   refine PV.thenR ?_
   cases h16
   exact PV.ret (by simp) Tryz.results130 hS (RS.tmp rfl RS.nil) rfl
  ·
   clear h10 h11
   subst e
   refine sr ?_
   refine mv ?_
   refine vy (V.eq h12 rfl rfl) fun x44_13 h17 => ?_
   refine as_ ?_
   refine dn ?_
   refine CV.cond h17 rfl (fun e h18 => ?_) (fun e h18 => ?_)
   ·
    clear h12 h17
    subst e
    cases h18
   ·
    clear h12 h17
    subst e
    refine CV.skip ?_
    refine PV.blockN ?_
    refine PV.thenN ?_
    refine cs3 X 0 2 3 [] (g130_k1 ro) ?_ ?_
    ·
     refine sr ?_
     refine mv ?_
     refine fl hS h18 Vdf.fo255_5 Vdf.one4 fun x50_21 h32 => ?_
     refine vy (V.not h32 rfl) fun x51_22 h33 => ?_
     refine dn ?_
     refine CV.cond h33 rfl (fun e h34 => ?_) (fun e h34 => ?_)
     ·
      clear h18 h32 h33
      subst e
      refine sr ?_
      refine mv ?_
      refine LV.call hS h34 (g171_ok _ _ _ _ ) hP rfl rfl rfl rfl fun x53_23 T9 n9 h35 ρ its hS => ?_
      refine as_ ?_
      refine dn ?_
      refine sr ?_
      refine mv ?_
      refine vy (V.bin0 h35 rfl rfl) fun x55_24 h36 => ?_
      refine dn ?_
      refine CV.cond h36 rfl (fun e h37 => ?_) (fun e h37 => ?_)
      ·
       clear h34 h35 h36
       subst e
       cases h37
      ·
       clear h34 h35 h36
       subst e
       refine CV.skip ?_
       exact pa3 hS h37 ⟨rfl, rfl, rfl, trivial⟩
     ·
      clear h18 h32 h33
      subst e
      refine CV.skip ?_
      exact pa3 hS h34 ⟨rfl, rfl, rfl, trivial⟩
    ·
     intro y0 y2 y3 T2 n2 ρ its hS h19
     unfold g130_k1 at h19
     clear h18
     refine CV.seq ?_
     refine CV.block ?_
     refine sr ?_
     refine mv ?_
     refine LV.call hS h19 (g172_ok _ _ _ _ ) hP rfl rfl rfl rfl fun x59_14 T3 n3 h20 ρ its hS => ?_
     refine as_ ?_
     refine dn ?_
     refine CV.cond h20 rfl (fun e h21 => ?_) (fun e h21 => ?_)
     ·
      clear h19 h20
      subst e
      cases h21
     ·
      clear h19 h20
      subst e
      refine sr ?_
      refine mv ?_
      refine LV.call hS h21 (g174_ok _ _ _ _ ) hP rfl rfl rfl rfl fun x64_15 T4 n4 h22 ρ its hS => ?_
      refine as_ ?_
      refine dn ?_
      refine CV.cond h22 rfl (fun e h23 => ?_) (fun e h23 => ?_)
      ·
       clear h21 h22
       subst e
       refine sr ?_
       refine mv ?_
       refine LV.call hS h23 (g175_ok _ _ _ _ ) hP rfl rfl rfl rfl fun x66_16 T5 n5 h24 ρ its hS => ?_
       refine as_ ?_
       refine dn ?_
       refine CV.ret ?_
       refine PV.blockR ?_
       refine PV.thenR ?_
       cases h24
       exact PV.ret (by simp) Tryz.results130 hS (RS.tmp rfl RS.nil) rfl
      ·
       clear h21 h22
       subst e
       refine sr ?_
       refine mv ?_
       refine vy (V.eq h23 rfl rfl) fun x69_17 h25 => ?_
       refine mv ?_
       refine ls4 X 0 2 3 73 [] (g130_k2 ro) 3 ?_ ?_
       ·
        rcases condK_inv h25 with ⟨e, h30⟩ | ⟨e, h30⟩
        ·
         clear h23 h25
         subst e
         refine sk ?_
         refine sk ?_
         refine pu ?_
         exact la4 hS h30 ⟨rfl, rfl, rfl, rfl, trivial⟩
        ·
         clear h23 h25
         subst e
         refine mv ?_
         refine vy (V.eq h30 rfl rfl) fun x72_20 h31 => ?_
         refine pu ?_
         exact la4 hS h31 ⟨rfl, rfl, rfl, rfl, trivial⟩
       ·
        intro y0 y2 y3 y73 T6 n6 ρ its hS h26
        unfold g130_k2 at h26
        clear h23 h25
        refine as_ ?_
        refine dn ?_
        refine CV.cond h26 rfl (fun e h27 => ?_) (fun e h27 => ?_)
        ·
         clear h26
         subst e
         refine sr ?_
         refine mv ?_
         refine mv ?_
         refine LV.call hS h27 (g176_ok _ _ _ _ _ ) hP rfl rfl rfl rfl fun x76_18 T7 n7 h28 ρ its hS => ?_
         refine as_ ?_
         refine dn ?_
         refine CV.ret ?_
         refine PV.blockR ?_
         refine PV.thenR ?_
         cases h28
         exact PV.ret (by simp) Tryz.results130 hS (RS.tmp rfl RS.nil) rfl
        ·
         clear h26
         subst e
         refine CV.skip ?_
         refine PV.blockN ?_
         refine PV.thenN ?_
         refine sr ?_
         refine mv ?_
         refine LV.call hS h27 (g177_ok _ _ _ _ ) hP rfl rfl rfl rfl fun x78_19 T8 n8 h29 ρ its hS => ?_
         refine as_ ?_
         refine dn ?_
         refine CV.ret ?_
         cases h29
         exact PV.ret (by simp) Tryz.results130 hS (RS.tmp rfl RS.nil) rfl
noncomputable def g132_k1 (ro : List HT) (y0 : AV) (T1 : HT) (n1 : Nat) : R :=
 faK 1320002 y0 5 fun x14_1 =>
 stK 1320003 T1 x14_1 (.lit (.bool false)) fun T2 =>
 .ok (.val (.tup [])) T2 n1
noncomputable def g132 (ro : List HT) (a0 : AV) (T : HT) (nx : Nat) : R :=
 fldK 1320005 T ro a0 5 fun x5_2 =>
 condK 1320006 x5_2
 (
  fldK 1320009 T ro a0 1 fun x10_3 =>
  callK (g133 ro a0 (.lit (.int .i64 (.ofNat 5))) (.lit (.string ⟨⟨[]⟩⟩)) x10_3 T nx) fun x11_4 T3 n3 =>
  g132_k1 ro a0 T3 n3
 )
 (
  g132_k1 ro a0 T nx
 )
theorem g132_ok (ro : List HT) (a0 : AV) (T : HT) (nx : Nat) : GOk Tryz.prog envE 132 [a0] ro T nx (g132 ro a0 T nx) := by
 refine GOk.of_body Tryz.func132 rfl Tryz.ntmps132 (by kernel_rfl) rfl fun r T' n' h1 w0 base ρ0 its hS hP => ?_
 have X : CtxW envE ρ0 ro r T' n' := trivial
 unfold g132 at h1
 refine cs1 X 0 [] (g132_k1 ro) ?_ ?_
 ·
  refine sr ?_
  refine mv ?_
  refine fl hS h1 Vdf.fo255_5 Vdf.one4 fun x5_2 h5 => ?_
  refine dn ?_
  refine CV.cond h5 rfl (fun e h6 => ?_) (fun e h6 => ?_)
  ·
   clear h1 h5
   subst e
   refine CV.region ?_
   refine mv ?_
   refine mv ?_
   refine fl hS h6 Vdf.fo255_1 Vdf.one3 fun x10_3 h7 => ?_
   refine LV.call hS h7 (g133_ok _ _ _ _ _ _ _ ) hP rfl rfl rfl rfl fun x11_4 T3 n3 h8 ρ its hS => ?_
   refine LV.done ?_
   exact pa1 hS h8 ⟨rfl, trivial⟩
  ·
   clear h1 h5
   subst e
   refine CV.skip ?_
   exact pa1 hS h6 ⟨rfl, trivial⟩
 ·
  intro y0 T1 n1 ρ its hS h2
  unfold g132_k1 at h2
  clear h1
  refine CV.region ?_
  refine mv ?_
  refine fa2 h2 Vdf.fo255_5 fun x14_1 h3 => ?_
  refine LV.st hS h3 rfl rfl rfl Vdf.siz4 rfl rfl fun T2 its h4 hS => ?_
  refine LV.done ?_
  cases h4
  exact PV.ret (by simp) Tryz.results132 hS RS.nil rfl
noncomputable def g100_b2 (ro : List HT) (lp2 : AV → AV → AV → AV → AV → HT → Nat → R) (y2 y3 y4 y48 y49 : AV) (T6 : HT) (n6 : Nat) : R :=
 ltK Tryz.prog 3 (.tmp 49) (.tmp 48) 1000045 y49 y48 fun x50_22 =>
 condK 1000046 x50_22
 (
  fldK 1000049 T6 ro y4 0 fun x55_23 =>
  lenTK 1000050 x55_23 fun x56_24 =>
  callK (g133 ro y4 (.lit (.int .i64 (.ofNat 7))) (.lit (.string ⟨⟨[]⟩⟩)) x56_24 T6 n6) fun x57_25 T7 n7 =>
  addK Tryz.prog 3 (.tmp 49) (.const (.int .i64 (.ofNat 1))) 1000052 y49 (.lit (.int .i64 (.ofNat 1))) fun x58_26 =>
  lp2 y2 y3 y4 y48 x58_26 T7 n7
 )
 (
  fldK 1000056 T6 ro y4 0 fun x63_27 =>
  lenTK 1000057 x63_27 fun x64_28 =>
  callK (g133 ro y4 (.lit (.int .i64 (.ofNat 8))) (.lit (.string ⟨⟨[]⟩⟩)) x64_28 T6 n6) fun x65_29 T8 n8 =>
  fldK 1000060 T8 ro y4 2 fun x69_30 =>
  .ok (.val (.tup [x69_30, (.lit (.nilIface))])) T8 n8
 )
noncomputable def g100_b1 (ro : List HT) (lp1 : AV → AV → AV → HT → Nat → R) (y2 y3 y4 : AV) (T3 : HT) (n3 : Nat) : R :=
 ncK 1000015 y4 fun x15_6 =>
 faK 1000016 x15_6 1 fun x16_7 =>
 ldK 1000017 T3 ro x16_7 fun x17_8 =>
 ncK 1000019 y4 fun x19_9 =>
 faK 1000020 x19_9 0 fun x20_10 =>
 ldK 1000021 T3 ro x20_10 fun x21_11 =>
 lenTK 1000022 x21_11 fun x22_12 =>
 ltK Tryz.prog 3 (.tmp 17) (.tmp 22) 1000023 x17_8 x22_12 fun x23_13 =>
 condK 1000024 x23_13
 (
  callK (g130 ro y4 T3 n3) fun x25_14 T4 n4 =>
  bin0 Tryz.prog .neq 36 (.tmp 26) (.const (.nilIface)) 1000029 x25_14 (.lit (.nilIface)) fun x27_15 =>
  condK 1000030 x27_15
  (
   .bad 1000031
  )
  (
   lp1 y2 y3 y4 T4 n4
  )
 )
 (
  fldK 1000033 T3 ro y4 4 fun x32_16 =>
  lenSK 1000034 x32_16 fun x33_17 =>
  gtK Tryz.prog 3 (.tmp 33) (.const (.int .i64 (.ofNat 0))) 1000035 x33_17 (.lit (.int .i64 (.ofNat 0))) fun x34_18 =>
  condK 1000036 x34_18
  (
   .bad 1000037
  )
  (
   callK (g132 ro y4 T3 n3) fun x42_19 T5 n5 =>
   fldK 1000041 T5 ro y4 3 fun x46_20 =>
   cutLenK 1000042 T5 ro x46_20 (.lit (.int .i64 (.ofNat 1))) fun x48_21 =>
   lpf5 1000044 (g100_b2 ro) 100000 y2 y3 y4 x48_21 (.lit (.int .i64 (.ofNat 0))) T5 n5
  )
 )
noncomputable def g100 (ro : List HT) (a0 : AV) (T : HT) (nx : Nat) : R :=
 lenTK 1000004 a0 fun x7_1 =>
 gtK Tryz.prog 3 (.tmp 7) (.const (.int .i64 (.ofNat 65536))) 1000005 x7_1 (.lit (.int .i64 (.ofNat 65536))) fun x8_2 =>
 condK 1000006 x8_2
 (
  .bad 1000007
 )
 (
  bsK 1000009 T nx 1 3 1 [(0, (.lit (.int .i64 (.ofNat 0))))] fun x11_3 T1 n1 =>
  optK 1000010 (bld255 [(0, a0), (3, x11_3)]) fun x12_4 =>
  boxK 1000011 T1 n1 x12_4 255 fun x13_5 T2 n2 =>
  lpf3 1000013 (g100_b1 ro) 100000 (.lit (.slice none 0 0)) (.lit (.nilIface)) x13_5 T2 n2
 )
theorem g100_ok (ro : List HT) (a0 : AV) (T : HT) (nx : Nat) : GOk Tryz.prog envE 100 [a0] ro T nx (g100 ro a0 T nx) := by
 refine GOk.of_body Tryz.func100 rfl Tryz.ntmps100 (by kernel_rfl) rfl fun r T' n' h1 w0 base ρ0 its hS hP => ?_
 have X : CtxW envE ρ0 ro r T' n' := trivial
 unfold g100 at h1
 refine sr ?_
 refine as_ ?_
 refine as_ ?_
 refine dn ?_
 refine CV.seq ?_
 refine sr ?_
 refine mv ?_
 refine vy (V.lenT h1 rfl Vdf.ls9) fun x7_1 h2 => ?_
 refine vy (V.gt h2 rfl rfl) fun x8_2 h3 => ?_
 refine dn ?_
 refine CV.cond h3 rfl (fun e h4 => ?_) (fun e h4 => ?_)
 ·
  clear h1 h2 h3
  subst e
  cases h4
 ·
  clear h1 h2 h3
  subst e
  refine CV.skip ?_
  refine PV.thenN ?_
  refine sr ?_
  refine mv ?_
  refine LV.bslice hS h4 rfl rfl Vdf.el170 rfl rfl rfl rfl fun x11_3 T1 n1 h5 ρ its hS hdr => ?_
  refine vy (V.bld h5 rfl) fun x12_4 h6 => ?_
  refine LV.box hS h6 rfl rfl rfl rfl rfl fun x13_5 T2 n2 h7 ρ its hS hdr => ?_
  refine as_ ?_
  refine dn ?_
  refine CV.seq ?_
  refine CV.block ?_
  refine cl3 X 2 3 4 [] hS h7 ⟨rfl, rfl, rfl, trivial⟩ ?_
  intro f1 y2 y3 y4 T3 n3 ρ its hS h8
  unfold g100_b1 at h8
  clear h4 h5 h6 h7
  refine CV.seq ?_
  refine CV.seq ?_
  refine CV.regionM [(0, .anywhere), (1, .anywhere), (2, .anywhere), (3, .held), (4, .anywhere), (5, .anywhere), (6, .anywhere), (7, .held), (8, .held), (9, .held)] rfl (fun c a a' w hd hq => PanicOk.root (P := Tryz.prog) (fn := Tryz.f100) (w0 := w0) (base := base) (E := envE) (ro := ro) (r := r) (T' := T') (n' := n') (ρ0 := ρ0) c a a' w hd hq) (by kernel_rfl) ?_
  refine MV.step0 (i := 0) rfl (VAL.move rfl) rfl rfl rfl ?_
  refine MV.lift0 (i := 1) rfl (V.nc h8 rfl) rfl rfl rfl fun x15_6 h9 => ?_
  refine MV.lift0 (i := 2) rfl (V.fa h9 rfl Vdf.fo255_1) rfl rfl rfl fun x16_7 h10 => ?_
  refine MV.lift1 (i := 3) rfl (fun _ z => z) (V.ld hS h10 rfl Vdf.one3) rfl rfl rfl [] (by kernel_rfl) fun x17_8 h11 => ?_
  refine MV.step0 (i := 4) rfl (VAL.move rfl) rfl rfl rfl ?_
  refine MV.lift0 (i := 5) rfl (V.nc h11 rfl) rfl rfl rfl fun x19_9 h12 => ?_
  refine MV.lift0 (i := 6) rfl (V.fa h12 rfl Vdf.fo255_0) rfl rfl rfl fun x20_10 h13 => ?_
  refine MV.lift1 (i := 7) rfl (fun _ z => z) (V.ld hS h13 rfl Vdf.one9) rfl rfl rfl [3] (by kernel_rfl) fun x21_11 h14 => ?_
  refine MV.lift1 (i := 8) rfl (fun _ z => z) (V.lenT h14 rfl Vdf.ls9) rfl rfl rfl [3] (by kernel_rfl) fun x22_12 h15 => ?_
  refine MV.lift1 (i := 9) rfl (fun _ z => z) (V.lt h15 rfl rfl) rfl rfl rfl [] (by kernel_rfl) fun x23_13 h16 => ?_
  refine mdn ?_
  refine CV.cond h16 rfl (fun e h17 => ?_) (fun e h17 => ?_)
  ·
   clear h8 h9 h10 h11 h12 h13 h14 h15 h16
   subst e
   refine CV.skip ?_
   refine PV.thenN ?_
   refine CV.block ?_
   refine sr ?_
   refine mv ?_
   refine LV.call hS h17 (g130_ok _ _ _ _ ) hP rfl rfl rfl rfl fun x25_14 T4 n4 h18 ρ its hS => ?_
   refine as_ ?_
   refine dn ?_
   refine sr ?_
   refine mv ?_
   refine vy (V.bin0 h18 rfl rfl) fun x27_15 h19 => ?_
   refine dn ?_
   refine CV.cond h19 rfl (fun e h20 => ?_) (fun e h20 => ?_)
   ·
    clear h17 h18 h19
    subst e
    cases h20
   ·
    clear h17 h18 h19
    subst e
    refine CV.skip ?_
    refine PV.blockN ?_
    exact pb3 hS h20 ⟨rfl, rfl, rfl, trivial⟩
  ·
   clear h8 h9 h10 h11 h12 h13 h14 h15 h16
   subst e
   refine CV.exit ?_
   refine PV.thenE ?_
   refine PV.thenE ?_
   refine PV.blockE ?_
   refine PV.thenN ?_
   refine CV.seq ?_
   refine sr ?_
   refine mv ?_
   refine fl hS h17 Vdf.fo255_4 Vdf.one79 fun x32_16 h21 => ?_
   refine vy (V.lenS h21 rfl Vdf.ls79) fun x33_17 h22 => ?_
   refine vy (V.gt h22 rfl rfl) fun x34_18 h23 => ?_
   refine dn ?_
   refine CV.cond h23 rfl (fun e h24 => ?_) (fun e h24 => ?_)
   ·
    clear h17 h21 h22 h23
    subst e
    cases h24
   ·
    clear h17 h21 h22 h23
    subst e
    refine CV.skip ?_
    refine PV.thenN ?_
    refine sr ?_
    refine mv ?_
    refine LV.call hS h24 (g132_ok _ _ _ _ ) hP rfl rfl rfl rfl fun x42_19 T5 n5 h25 ρ its hS => ?_
    refine dn ?_
    refine CV.seq ?_
    refine sr ?_
    refine mv ?_
    refine fl hS h25 Vdf.fo255_3 Vdf.one170 fun x46_20 h26 => ?_
    refine LV.cutLen hS h26 rfl rfl rfl Vdf.el170 rfl rfl rfl rfl rfl Vdf.ls170 rfl rfl rfl fun x48_21 h27 => ?_
    refine mv ?_
    refine dn ?_
    refine CV.block ?_
    refine cl5 X 2 3 4 48 49 [] hS h27 ⟨rfl, rfl, rfl, rfl, rfl, trivial⟩ ?_
    intro f2 y2 y3 y4 y48 y49 T6 n6 ρ its hS h28
    unfold g100_b2 at h28
    clear h24 h25 h26 h27
    refine sr ?_
    refine vy (V.lt h28 rfl rfl) fun x50_22 h29 => ?_
    refine dn ?_
    refine CV.seq ?_
    refine CV.cond h29 rfl (fun e h30 => ?_) (fun e h30 => ?_)
    ·
     clear h28 h29
     subst e
     refine CV.skip ?_
     refine PV.thenN ?_
     refine CV.seq ?_
     refine CV.block ?_
     refine CV.region ?_
     refine mv ?_
     refine mv ?_
     refine fl hS h30 Vdf.fo255_0 Vdf.one9 fun x55_23 h31 => ?_
     refine vy (V.lenT h31 rfl Vdf.ls9) fun x56_24 h32 => ?_
     refine LV.call hS h32 (g133_ok _ _ _ _ _ _ _ ) hP rfl rfl rfl rfl fun x57_25 T7 n7 h33 ρ its hS => ?_
     refine LV.done ?_
     refine PV.blockN ?_
     refine PV.thenN ?_
     refine CV.region ?_
     refine vy (V.add h33 rfl rfl) fun x58_26 h34 => ?_
     refine mv ?_
     refine LV.done ?_
     exact pb5 hS h34 ⟨rfl, rfl, rfl, rfl, rfl, trivial⟩
    ·
     clear h28 h29
     subst e
     refine CV.exit ?_
     refine PV.thenE ?_
     refine PV.thenE ?_
     refine PV.blockE ?_
     refine PV.thenN ?_
     refine sr ?_
     refine mv ?_
     refine mv ?_
     refine fl hS h30 Vdf.fo255_0 Vdf.one9 fun x63_27 h35 => ?_
     refine vy (V.lenT h35 rfl Vdf.ls9) fun x64_28 h36 => ?_
     refine LV.call hS h36 (g133_ok _ _ _ _ _ _ _ ) hP rfl rfl rfl rfl fun x65_29 T8 n8 h37 ρ its hS => ?_
     refine dn ?_
     refine sr ?_
     refine mv ?_
     refine fl hS h37 Vdf.fo255_2 Vdf.one183 fun x69_30 h38 => ?_
     refine as_ ?_
     refine as_ ?_
     refine dn ?_
     refine CV.ret ?_
     cases h38
     exact PV.ret (by simp) Tryz.results100 hS (RS.tmp rfl (RS.tmp rfl RS.nil)) rfl
noncomputable def g101_k1 (ro : List HT) (y4 y16 : AV) (T3 : HT) (n3 : Nat) : R :=
 condK 1010012 y16
 (
  .bad 1010013
 )
 (
  condK 1010015 y4
  (
   .bad 1010016
  )
  (
   .ok (.val (.lit undef)) T3 n3
  )
 )
noncomputable def gd101 (ro : List HT) (pv : AV) (a0 a1 : AV) (T : HT) (nx : Nat) : R :=
 asK 1010002 pv 207 (.tup [.lit (.agg #[.pointer none]), .lit (.bool false)]) fun x8_1 =>
 exK 1010004 x8_1 0 fun x9_2 =>
 exK 1010005 x8_1 1 fun x10_3 =>
 newK T nx (.obj [.lit (.pointer none)] 207) fun x3_4 T1 n1 =>
 stAK 1010007 T1 x3_4 x9_2 1 fun T2 =>
 bin0 Tryz.prog .neq 20 (.tmp 11) (.const (.nilIface)) 1010010 pv (.lit (.nilIface)) fun x12_5 =>
 condK 1010017 x12_5
 (
  notK 1010019 x10_3 fun x15_6 =>
  g101_k1 ro x10_3 x15_6 T2 n1
 )
 (
  g101_k1 ro x10_3 (.lit (.bool false)) T2 n1
 )
theorem gd101_ok (ro : List HT) (pv : AV) (a0 a1 : AV) (T : HT) (nx : Nat) : GDk Tryz.prog envE 101 [a0, a1] ro T nx pv (gd101 ro pv a0 a1 T nx) := by
 refine GDk.of_body Tryz.func101 rfl Tryz.ntmps101 Tryz.results101 rfl rfl rfl rfl fun r T' n' h1 w0 base ρ0 its hS hP => ?_
 have X : CtxW envE ρ0 ro (.val r) T' n' := trivial
 unfold gd101 at h1
 refine sr ?_
 refine mv ?_
 refine vy (V.as h1 rfl Vdf.ni207 Vdf.za207) fun x8_1 h2 => ?_
 refine mv ?_
 refine vy (V.ex h2 rfl) fun x9_2 h3 => ?_
 refine vy (V.ex h3 rfl) fun x10_3 h4 => ?_
 refine LV.alloc hS h4 rfl Vdf.zr207 rfl rfl rfl fun x3_4 T1 n1 h5 ρ its hS hdr => ?_
 refine LV.stA hS h5 rfl rfl rfl Vdf.agg207 rfl rfl rfl fun T2 its h6 hS => ?_
 refine as_ ?_
 refine dn ?_
 refine CV.seq ?_
 refine sr ?_
 refine mv ?_
 refine vy (V.bin0 h6 rfl rfl) fun x12_5 h7 => ?_
 refine mv ?_
 refine ls2 X 4 16 [] (g101_k1 ro) 3 ?_ ?_
 ·
  rcases condK_inv h7 with ⟨e, h11⟩ | ⟨e, h11⟩
  ·
   clear h1 h2 h3 h4 h5 h6 h7
   subst e
   refine mv ?_
   refine vy (V.not h11 rfl) fun x15_6 h12 => ?_
   refine pu ?_
   exact la2 hS h12 ⟨rfl, rfl, trivial⟩
  ·
   clear h1 h2 h3 h4 h5 h6 h7
   subst e
   refine sk ?_
   refine sk ?_
   refine pu ?_
   exact la2 hS h11 ⟨rfl, rfl, trivial⟩
 ·
  intro y4 y16 T3 n3 ρ its hS h8
  unfold g101_k1 at h8
  clear h1 h2 h3 h4 h5 h6 h7
  refine dn ?_
  refine CV.cond h8 rfl (fun e h9 => ?_) (fun e h9 => ?_)
  ·
   clear h8
   subst e
   cases h9
  ·
   clear h8
   subst e
   refine CV.skip ?_
   refine PV.thenN ?_
   refine sr ?_
   refine mv ?_
   refine dn ?_
   refine CV.cond h9 rfl (fun e h10 => ?_) (fun e h10 => ?_)
   ·
    clear h9
    subst e
    cases h10
   ·
    clear h9
    subst e
    refine CV.skip ?_
    cases h10
    exact PV.dend hS
noncomputable def g71 (ro : List HT) (a0 a1 : AV) (T : HT) (nx : Nat) : R :=
 newK T nx (.obj [.lit (.slice none 0 0)] 109) fun x4_1 T1 n1 =>
 newK T1 n1 (.obj [.lit (.nilIface)] 36) fun x5_2 T2 n2 =>
 callK (g100 ro a0 T2 n2) fun x10_3 T3 n3 =>
 exK 710006 x10_3 0 fun x11_4 =>
 exK 710007 x10_3 1 fun x12_5 =>
 stK 710009 T3 x5_2 x12_5 fun T4 =>
 ldK 710010 T4 ro x5_2 fun x13_6 =>
 bin0 Tryz.prog .neq 36 (.tmp 13) (.const (.nilIface)) 710011 x13_6 (.lit (.nilIface)) fun x14_7 =>
 condK 710012 x14_7
 (
  .bad 710013
 )
 (
  optK 710015 (bld185 [(0, x11_4)]) fun x17_8 =>
  boxK 710016 T4 n3 x17_8 185 fun x18_9 T5 n5 =>
  dynK 710022 a1 fun f p q => callPK 710022 (scc2 4000 f ro (p ++ ([x18_9] ++ q)) T5 n5) (fun pv t m => leaveK 710022 (gd101 ro pv x4_1 x5_2 t m) fun T6 n6 =>
   ldK 710023 T6 ro x4_1 fun x4_10 =>
   ldK 710024 T6 ro x5_2 fun x5_11 =>
   .ok (.val (.tup [x4_10, x5_11])) T6 n6
  ) fun x22_12 T7 n7 =>
  fldK 710026 T7 ro x18_9 2 fun x26_13 =>
  stK 710027 T7 x4_1 x26_13 fun T8 =>
  stK 710028 T8 x5_2 (.lit (.nilIface)) fun T9 =>
  leaveK 710029 (gd101 ro (.lit .nilIface) x4_1 x5_2 T9 n7) fun T10 n10 =>
  ldK 710030 T10 ro x4_1 fun x4_14 =>
  ldK 710031 T10 ro x5_2 fun x5_15 =>
  .ok (.val (.tup [x4_14, x5_15])) T10 n10
 )
theorem g71_ok (ro : List HT) (a0 a1 : AV) (T : HT) (nx : Nat) : GOk Tryz.prog envE 71 [a0, a1] ro T nx (g71 ro a0 a1 T nx) := by
 refine GOk.of_bodyD Tryz.func71 rfl Tryz.ntmps71 (by kernel_rfl) rfl fun r T' n' h1 w0 base ρ0 its hS hP => ?_
 have X : CtxW envE ρ0 ro r T' n' := trivial
 unfold g71 at h1
 refine sr ?_
 refine LV.alloc hS h1 rfl Vdf.zr109 rfl rfl rfl fun x4_1 T1 n1 h2 ρ its hS hdr => ?_
 refine LV.alloc hS h2 rfl Vdf.zr36 rfl rfl rfl fun x5_2 T2 n2 h3 ρ its hS hdr => ?_
 refine dn ?_
 refine sr ?_
 refine mv ?_
 refine LV.call hS h3 (g100_ok _ _ _ _ ) hP rfl rfl rfl rfl fun x10_3 T3 n3 h4 ρ its hS => ?_
 refine mv ?_
 refine vy (V.ex h4 rfl) fun x11_4 h5 => ?_
 refine vy (V.ex h5 rfl) fun x12_5 h6 => ?_
 refine as_ ?_
 refine LV.st hS h6 rfl rfl rfl Vdf.siz36 rfl rfl fun T4 its h7 hS => ?_
 refine dn ?_
 refine CV.seq ?_
 refine sr ?_
 refine vy (V.ld hS h7 rfl Vdf.one36) fun x13_6 h8 => ?_
 refine vy (V.bin0 h8 rfl rfl) fun x14_7 h9 => ?_
 refine dn ?_
 refine CV.cond h9 rfl (fun e h10 => ?_) (fun e h10 => ?_)
 ·
  clear h1 h2 h3 h4 h5 h6 h7 h8 h9
  subst e
  cases h10
 ·
  clear h1 h2 h3 h4 h5 h6 h7 h8 h9
  subst e
  refine CV.skip ?_
  refine PV.thenN ?_
  refine sr ?_
  refine mv ?_
  refine vy (V.bld h10 rfl) fun x17_8 h11 => ?_
  refine LV.box hS h11 rfl rfl rfl rfl rfl fun x18_9 T5 n5 h12 ρ its hS hdr => ?_
  refine as_ ?_
  refine dn ?_
  refine sr ?_
  refine pu ?_
  refine LV.defer rfl rfl rfl rfl rfl rfl fun us hys => ?_
  refine dn ?_
  refine sr ?_
  refine mv ?_
  refine mv ?_
  refine LV.callDP (fn := Tryz.f71) (kf := 101) (Xp := fun pv t m => gd101 ro pv x4_1 x5_2 t m) (G := fun f gs => scc2 4000 f ro gs T5 n5) (qs := [x18_9]) hS h12 (fun f gs => scc2_ok _ _ _ _ _ _) (fun pv t m => gd101_ok _ _ _ _ _ _ ) Vdf.en101 hys (fun ch a w z => z) rfl rfl rfl rfl rfl rfl rfl (fun T6 n6 h13 ρ its hS => ?_) (fun x22_12 T7 n7 h16 ρ its hE hS => ?_)
  ·
   refine PV.ld (x := .tmp 4) (t := 109) hS h13 rfl Vdf.one109 fun x4_10 h14 hVx4_10 => ?_
   refine PV.ld (x := .tmp 5) (t := 36) hS h14 rfl Vdf.one36 fun x5_11 h15 hVx5_11 => ?_
   cases h15
   exact PV.ret (by simp) Tryz.results71 hS (RS.cell hVx4_10 (RS.cell hVx5_11 RS.nil)) rfl
  have hys := instL_ext hE _ _ hys
  refine dn ?_
  refine sr ?_
  refine mv ?_
  refine fl hS h16 Vdf.fo185_2 Vdf.one109 fun x26_13 h17 => ?_
  refine LV.st hS h17 rfl rfl rfl Vdf.siz109 rfl rfl fun T8 its h18 hS => ?_
  refine LV.st hS h18 rfl rfl rfl Vdf.siz36 rfl rfl fun T9 its h19 hS => ?_
  refine dn ?_
  refine CV.ret ?_
  refine PV.leaveR (by simp) hS hys h19 (gd101_ok _ _ _ _ _ _ ) Vdf.en101 fun T10 n10 h20 ρ its hS => ?_
  refine PV.ld (x := .tmp 4) (t := 109) hS h20 rfl Vdf.one109 fun x4_14 h21 hVx4_14 => ?_
  refine PV.ld (x := .tmp 5) (t := 36) hS h21 rfl Vdf.one36 fun x5_15 h22 hVx5_15 => ?_
  cases h22
  exact PV.ret (by simp) Tryz.results71 hS (RS.cell hVx4_14 (RS.cell hVx5_15 RS.nil)) rfl
noncomputable def g49 (ro : List HT) (a0 : AV) (T : HT) (nx : Nat) : R :=
 callK (g71 ro a0 (.lit (.func (.func 84) #[] #[])) T nx) fun x5_1 T1 n1 =>
 exK 490005 x5_1 0 fun x6_2 =>
 exK 490006 x5_1 1 fun x7_3 =>
 .ok (.val (.tup [x6_2, x7_3])) T1 n1
theorem g49_ok (ro : List HT) (a0 : AV) (T : HT) (nx : Nat) : GOk Tryz.prog envE 49 [a0] ro T nx (g49 ro a0 T nx) := by
 refine GOk.of_body Tryz.func49 rfl Tryz.ntmps49 (by kernel_rfl) rfl fun r T' n' h1 w0 base ρ0 its hS hP => ?_
 have X : CtxW envE ρ0 ro r T' n' := trivial
 unfold g49 at h1
 refine sr ?_
 refine as_ ?_
 refine as_ ?_
 refine dn ?_
 refine sr ?_
 refine mv ?_
 refine LV.call hS h1 (g71_ok _ _ _ _ _ ) hP rfl rfl rfl rfl fun x5_1 T1 n1 h2 ρ its hS => ?_
 refine vy (V.ex h2 rfl) fun x6_2 h3 => ?_
 refine vy (V.ex h3 rfl) fun x7_3 h4 => ?_
 refine as_ ?_
 refine as_ ?_
 refine dn ?_
 refine CV.ret ?_
 cases h4
 exact PV.ret (by simp) Tryz.results49 hS (RS.tmp rfl (RS.tmp rfl RS.nil)) rfl
noncomputable def g88 (ro : List HT) (a0 : AV) (T : HT) (nx : Nat) : R :=
 slEqK Tryz.prog .eql false 109 (.tmp 3) (.const (.slice none 0 0)) 880003 a0 fun x4_1 =>
 condK 880004 x4_1
 (
  .bad 880005
 )
 (
  bs0K T nx 172 5 fun x5_2 T1 n1 =>
  shrK 880009 T1 x5_2 fun T2 =>
  appEK 880008 T2 ro n1 172 5 64 x5_2 a0 fun x7_3 T3 n3 =>
  .ok (.val x7_3) T3 n3
 )
theorem g88_ok (ro : List HT) (a0 : AV) (T : HT) (nx : Nat) : GOk Tryz.prog envE 88 [a0] ro T nx (g88 ro a0 T nx) := by
 refine GOk.of_body Tryz.func88 rfl Tryz.ntmps88 (by kernel_rfl) rfl fun r T' n' h1 w0 base ρ0 its hS hP => ?_
 have X : CtxW envE ρ0 ro r T' n' := trivial
 unfold g88 at h1
 refine sr ?_
 refine as_ ?_
 refine dn ?_
 refine CV.seq ?_
 refine sr ?_
 refine mv ?_
 refine vy (V.slEq h1 rfl Vdf.slt109) fun x4_1 h2 => ?_
 refine dn ?_
 refine CV.cond h2 rfl (fun e h3 => ?_) (fun e h3 => ?_)
 ·
  clear h1 h2
  subst e
  cases h3
 ·
  clear h1 h2
  subst e
  refine CV.skip ?_
  refine PV.thenN ?_
  refine sr ?_
  refine LV.bs0 hS h3 rfl Vdf.el109 rfl rfl rfl fun x5_2 T1 n1 h4 ρ its hS hdr => ?_
  refine mv ?_
  obtain ⟨T2, its1, h5, hS, hW⟩ := shrK_inv hS h4
  refine LV.world hW ?_
  refine LV.appE hS h5 rfl rfl rfl rfl Vdf.el109 rfl rfl rfl fun x7_3 T3 n3 h6 ρ its hS => ?_
  refine as_ ?_
  refine dn ?_
  refine CV.ret ?_
  cases h6
  exact PV.ret (by simp) Tryz.results88 hS (RS.tmp rfl RS.nil) rfl
noncomputable def g117_k3 (ro : List HT) (lp1 : AV → AV → AV → AV → AV → AV → HT → Nat → R) (y1 y2 y6 y8 y9 y10 y11 y27 : AV) (T3 : HT) (n3 : Nat) : R :=
 condK 1170015 y27
 (
  .bad 1170016
 )
 (
  iaK 1170019 y2 y8 1 fun x30_6 =>
  stK 1170020 T3 x30_6 (.lit (.bool true)) fun T4 =>
  addK Tryz.prog 3 (.tmp 11) (.const (.int .i64 (.ofNat 1))) 1170021 y11 (.lit (.int .i64 (.ofNat 1))) fun x31_7 =>
  lp1 y1 y2 y6 y9 y10 x31_7 T4 n3
 )
noncomputable def g117_k2 (ro : List HT) (lp1 : AV → AV → AV → AV → AV → AV → HT → Nat → R) (y1 y2 y6 y8 y9 y10 y11 y21 : AV) (T2 : HT) (n2 : Nat) : R :=
 condK 1170023 y21
 (
  g117_k3 ro lp1 y1 y2 y6 y8 y9 y10 y11 (.lit (.bool true)) T2 n2
 )
 (
  iaK 1170027 y2 y8 1 fun x25_8 =>
  ldK 1170028 T2 ro x25_8 fun x26_9 =>
  g117_k3 ro lp1 y1 y2 y6 y8 y9 y10 y11 x26_9 T2 n2
 )
noncomputable def g117_b1 (ro : List HT) (lp1 : AV → AV → AV → AV → AV → AV → HT → Nat → R) (y1 y2 y6 y9 y10 y11 : AV) (T1 : HT) (n1 : Nat) : R :=
 ltK Tryz.prog 3 (.tmp 11) (.tmp 10) 1170006 y11 y10 fun x12_2 =>
 condK 1170007 x12_2
 (
  iaK 1170008 y9 y11 1 fun x13_3 =>
  ldK 1170009 T1 ro x13_3 fun x14_4 =>
  ltK Tryz.prog 3 (.tmp 15) (.const (.int .i64 (.ofNat 0))) 1170012 x14_4 (.lit (.int .i64 (.ofNat 0))) fun x16_5 =>
  condK 1170030 x16_5
  (
   g117_k2 ro lp1 y1 y2 y6 x14_4 y9 y10 y11 (.lit (.bool true)) T1 n1
  )
  (
   geK Tryz.prog 3 (.tmp 18) (.tmp 19) 1170034 x14_4 y1 fun x20_10 =>
   g117_k2 ro lp1 y1 y2 y6 x14_4 y9 y10 y11 x20_10 T1 n1
  )
 )
 (
  .ok (.val (.lit (.bool true))) T1 n1
 )
noncomputable def g117 (ro : List HT) (a0 a1 a2 : AV) (T : HT) (nx : Nat) : R :=
 lenSK 1170003 a0 fun x10_1 =>
 lpf6 1170005 (g117_b1 ro) 100000 a1 a2 (.lit (.bool false)) a0 x10_1 (.lit (.int .i64 (.ofNat 0))) T nx
theorem g117_ok (ro : List HT) (a0 a1 a2 : AV) (T : HT) (nx : Nat) : GOk Tryz.prog envE 117 [a0, a1, a2] ro T nx (g117 ro a0 a1 a2 T nx) := by
 refine GOk.of_body Tryz.func117 rfl Tryz.ntmps117 (by kernel_rfl) rfl fun r T' n' h1 w0 base ρ0 its hS hP => ?_
 have X : CtxW envE ρ0 ro r T' n' := trivial
 unfold g117 at h1
 refine sr ?_
 refine as_ ?_
 refine dn ?_
 refine CV.seq ?_
 refine sr ?_
 refine mv ?_
 refine vy (V.lenS h1 rfl Vdf.ls170) fun x10_1 h2 => ?_
 refine mv ?_
 refine dn ?_
 refine CV.block ?_
 refine cl6 X 1 2 6 9 10 11 [] hS h2 ⟨rfl, rfl, rfl, rfl, rfl, rfl, trivial⟩ ?_
 intro f1 y1 y2 y6 y9 y10 y11 T1 n1 ρ its hS h3
 unfold g117_b1 at h3
 clear h1 h2
 refine sr ?_
 refine vy (V.lt h3 rfl rfl) fun x12_2 h4 => ?_
 refine dn ?_
 refine CV.seq ?_
 refine CV.cond h4 rfl (fun e h5 => ?_) (fun e h5 => ?_)
 ·
  clear h3 h4
  subst e
  refine CV.skip ?_
  refine PV.thenN ?_
  refine CV.seq ?_
  refine CV.block ?_
  refine sr ?_
  refine vy (V.ia h5 rfl rfl Vdf.el170) fun x13_3 h6 => ?_
  refine vy (V.ld hS h6 rfl Vdf.one3) fun x14_4 h7 => ?_
  refine as_ ?_
  refine dn ?_
  refine CV.seq ?_
  refine sr ?_
  refine mv ?_
  refine vy (V.lt h7 rfl rfl) fun x16_5 h8 => ?_
  refine mv ?_
  refine ls8 X 1 2 6 8 9 10 11 21 [] (g117_k2 ro (lpf6 1170005 (g117_b1 ro) f1)) 4 ?_ ?_
  ·
   rcases condK_inv h8 with ⟨e, h18⟩ | ⟨e, h18⟩
   ·
    clear h5 h6 h7 h8
    subst e
    refine sk ?_
    refine sk ?_
    refine sk ?_
    refine pu ?_
    exact la8 hS h18 ⟨rfl, rfl, rfl, rfl, rfl, rfl, rfl, rfl, trivial⟩
   ·
    clear h5 h6 h7 h8
    subst e
    refine mv ?_
    refine mv ?_
    refine vy (V.ge h18 rfl rfl) fun x20_10 h19 => ?_
    refine pu ?_
    exact la8 hS h19 ⟨rfl, rfl, rfl, rfl, rfl, rfl, rfl, rfl, trivial⟩
  ·
   intro y1 y2 y6 y8 y9 y10 y11 y21 T2 n2 ρ its hS h9
   unfold g117_k2 at h9
   clear h5 h6 h7 h8
   refine mv ?_
   refine ls8 X 1 2 6 8 9 10 11 27 [] (g117_k3 ro (lpf6 1170005 (g117_b1 ro) f1)) 5 ?_ ?_
   ·
    rcases condK_inv h9 with ⟨e, h15⟩ | ⟨e, h15⟩
    ·
     clear h9
     subst e
     refine sk ?_
     refine sk ?_
     refine sk ?_
     refine sk ?_
     refine pu ?_
     exact la8 hS h15 ⟨rfl, rfl, rfl, rfl, rfl, rfl, rfl, rfl, trivial⟩
    ·
     clear h9
     subst e
     refine mv ?_
     refine mv ?_
     refine vy (V.ia h15 rfl rfl Vdf.el235) fun x25_8 h16 => ?_
     refine vy (V.ld hS h16 rfl Vdf.one4) fun x26_9 h17 => ?_
     refine pu ?_
     exact la8 hS h17 ⟨rfl, rfl, rfl, rfl, rfl, rfl, rfl, rfl, trivial⟩
   ·
    intro y1 y2 y6 y8 y9 y10 y11 y27 T3 n3 ρ its hS h10
    unfold g117_k3 at h10
    clear h9
    refine dn ?_
    refine CV.cond h10 rfl (fun e h11 => ?_) (fun e h11 => ?_)
    ·
     clear h10
     subst e
     cases h11
    ·
     clear h10
     subst e
     refine CV.skip ?_
     refine PV.thenN ?_
     refine CV.region ?_
     refine mv ?_
     refine mv ?_
     refine vy (V.ia h11 rfl rfl Vdf.el235) fun x30_6 h12 => ?_
     refine LV.st hS h12 rfl rfl rfl Vdf.siz4 rfl rfl fun T4 its h13 hS => ?_
     refine LV.done ?_
     refine PV.blockN ?_
     refine PV.thenN ?_
     refine CV.region ?_
     refine vy (V.add h13 rfl rfl) fun x31_7 h14 => ?_
     refine mv ?_
     refine LV.done ?_
     exact pb6 hS h14 ⟨rfl, rfl, rfl, rfl, rfl, rfl, trivial⟩
 ·
  clear h3 h4
  subst e
  refine CV.exit ?_
  refine PV.thenE ?_
  refine PV.thenE ?_
  refine PV.blockE ?_
  refine PV.thenN ?_
  refine sr ?_
  refine as_ ?_
  refine dn ?_
  refine CV.ret ?_
  cases h5
  exact PV.ret (by simp) Tryz.results117 hS (RS.tmp rfl RS.nil) rfl
noncomputable def g214_b1 (ro : List HT) (lp1 : AV → AV → AV → AV → AV → AV → HT → Nat → R) (y0 y2 y6 y9 y10 y11 : AV) (T1 : HT) (n1 : Nat) : R :=
 ltK Tryz.prog 3 (.tmp 11) (.tmp 10) 2140006 y11 y10 fun x12_2 =>
 condK 2140007 x12_2
 (
  iaK 2140008 y9 y11 1 fun x13_3 =>
  ldK 2140009 T1 ro x13_3 fun x14_4 =>
  fldK 2140013 T1 ro y0 0 fun x19_5 =>
  iaK 2140015 x19_5 x14_4 5 fun x21_6 =>
  ldAK 2140016 T1 ro x21_6 5 fun x22_7 =>
  dynK 2140017 y2 fun f p q => callK (scc2 4000 f ro (p ++ ([x22_7] ++ q)) T1 n1) fun x23_8 T2 n2 =>
  notK 2140018 x23_8 fun x24_9 =>
  condK 2140019 x24_9
  (
   .bad 2140020
  )
  (
   addK Tryz.prog 3 (.tmp 11) (.const (.int .i64 (.ofNat 1))) 2140021 y11 (.lit (.int .i64 (.ofNat 1))) fun x25_10 =>
   lp1 y0 y2 y6 y9 y10 x25_10 T2 n2
  )
 )
 (
  .ok (.val (.lit (.bool true))) T1 n1
 )
noncomputable def g214 (ro : List HT) (a0 a1 a2 : AV) (T : HT) (nx : Nat) : R :=
 lenSK 2140003 a1 fun x10_1 =>
 lpf6 2140005 (g214_b1 ro) 100000 a0 a2 (.lit (.bool false)) a1 x10_1 (.lit (.int .i64 (.ofNat 0))) T nx
theorem g214_ok (ro : List HT) (a0 a1 a2 : AV) (T : HT) (nx : Nat) : GOk Tryz.prog envE 214 [a0, a1, a2] ro T nx (g214 ro a0 a1 a2 T nx) := by
 refine GOk.of_body Tryz.func214 rfl Tryz.ntmps214 (by kernel_rfl) rfl fun r T' n' h1 w0 base ρ0 its hS hP => ?_
 have X : CtxW envE ρ0 ro r T' n' := trivial
 unfold g214 at h1
 refine sr ?_
 refine as_ ?_
 refine dn ?_
 refine CV.seq ?_
 refine sr ?_
 refine mv ?_
 refine vy (V.lenS h1 rfl Vdf.ls170) fun x10_1 h2 => ?_
 refine mv ?_
 refine dn ?_
 refine CV.block ?_
 refine cl6 X 0 2 6 9 10 11 [] hS h2 ⟨rfl, rfl, rfl, rfl, rfl, rfl, trivial⟩ ?_
 intro f1 y0 y2 y6 y9 y10 y11 T1 n1 ρ its hS h3
 unfold g214_b1 at h3
 clear h1 h2
 refine sr ?_
 refine vy (V.lt h3 rfl rfl) fun x12_2 h4 => ?_
 refine dn ?_
 refine CV.seq ?_
 refine CV.cond h4 rfl (fun e h5 => ?_) (fun e h5 => ?_)
 ·
  clear h3 h4
  subst e
  refine CV.skip ?_
  refine PV.thenN ?_
  refine CV.seq ?_
  refine CV.block ?_
  refine sr ?_
  refine vy (V.ia h5 rfl rfl Vdf.el170) fun x13_3 h6 => ?_
  refine vy (V.ld hS h6 rfl Vdf.one3) fun x14_4 h7 => ?_
  refine as_ ?_
  refine dn ?_
  refine sr ?_
  refine mv ?_
  refine mv ?_
  refine fl hS h7 Vdf.fo237_0 Vdf.one109 fun x19_5 h8 => ?_
  refine mv ?_
  refine vy (V.ia h8 rfl rfl Vdf.el109) fun x21_6 h9 => ?_
  refine vy (V.ldA hS h9 rfl Vdf.agg172) fun x22_7 h10 => ?_
  refine LV.callD (G := fun f gs => scc2 4000 f ro gs T1 n1) (qs := [x22_7]) hS h10 (fun f gs => scc2_ok _ _ _ _ _ _) hP rfl rfl rfl rfl rfl rfl rfl fun x23_8 T2 n2 h11 ρ its hS => ?_
  refine vy (V.not h11 rfl) fun x24_9 h12 => ?_
  refine dn ?_
  refine CV.cond h12 rfl (fun e h13 => ?_) (fun e h13 => ?_)
  ·
   clear h5 h6 h7 h8 h9 h10 h11 h12
   subst e
   cases h13
  ·
   clear h5 h6 h7 h8 h9 h10 h11 h12
   subst e
   refine CV.skip ?_
   refine PV.blockN ?_
   refine PV.thenN ?_
   refine CV.region ?_
   refine vy (V.add h13 rfl rfl) fun x25_10 h14 => ?_
   refine mv ?_
   refine LV.done ?_
   exact pb6 hS h14 ⟨rfl, rfl, rfl, rfl, rfl, rfl, trivial⟩
 ·
  clear h3 h4
  subst e
  refine CV.exit ?_
  refine PV.thenE ?_
  refine PV.thenE ?_
  refine PV.blockE ?_
  refine PV.thenN ?_
  refine sr ?_
  refine as_ ?_
  refine dn ?_
  refine CV.ret ?_
  cases h5
  exact PV.ret (by simp) Tryz.results214 hS (RS.tmp rfl RS.nil) rfl
noncomputable def g212_k2 (ro : List HT) (y23 : AV) (T2 : HT) (n2 : Nat) : R :=
 .ok (.val y23) T2 n2
noncomputable def g212_k1 (ro : List HT) (y0 y1 y18 : AV) (T1 : HT) (n1 : Nat) : R :=
 condK 2120009 y18
 (
  callK (g214 ro y0 y1 (.lit (.func (.func 258) #[] #[])) T1 n1) fun x22_3 T3 n3 =>
  g212_k2 ro x22_3 T3 n3
 )
 (
  g212_k2 ro (.lit (.bool false)) T1 n1
 )
noncomputable def g212 (ro : List HT) (a0 a1 a2 a3 : AV) (T : HT) (nx : Nat) : R :=
 lenSK 2120003 a1 fun x10_1 =>
 geK Tryz.prog 3 (.tmp 10) (.tmp 11) 2120005 x10_1 a2 fun x12_2 =>
 condK 2120015 x12_2
 (
  lenSK 2120017 a1 fun x15_4 =>
  leK Tryz.prog 3 (.tmp 15) (.tmp 16) 2120019 x15_4 a3 fun x17_5 =>
  g212_k1 ro a0 a1 x17_5 T nx
 )
 (
  g212_k1 ro a0 a1 (.lit (.bool false)) T nx
 )
theorem g212_ok (ro : List HT) (a0 a1 a2 a3 : AV) (T : HT) (nx : Nat) : GOk Tryz.prog envE 212 [a0, a1, a2, a3] ro T nx (g212 ro a0 a1 a2 a3 T nx) := by
 refine GOk.of_body Tryz.func212 rfl Tryz.ntmps212 (by kernel_rfl) rfl fun r T' n' h1 w0 base ρ0 its hS hP => ?_
 have X : CtxW envE ρ0 ro r T' n' := trivial
 unfold g212 at h1
 refine sr ?_
 refine as_ ?_
 refine dn ?_
 refine sr ?_
 refine mv ?_
 refine vy (V.lenS h1 rfl Vdf.ls170) fun x10_1 h2 => ?_
 refine mv ?_
 refine vy (V.ge h2 rfl rfl) fun x12_2 h3 => ?_
 refine mv ?_
 refine ls3 X 0 1 18 [(8, (.lit (.bool false)))] (g212_k1 ro) 5 ?_ ?_
 ·
  rcases condK_inv h3 with ⟨e, h8⟩ | ⟨e, h8⟩
  ·
   clear h1 h2 h3
   subst e
   refine mv ?_
   refine vy (V.lenS h8 rfl Vdf.ls170) fun x15_4 h9 => ?_
   refine mv ?_
   refine vy (V.le h9 rfl rfl) fun x17_5 h10 => ?_
   refine pu ?_
   exact la3 hS h10 ⟨rfl, rfl, rfl, rfl, trivial⟩
  ·
   clear h1 h2 h3
   subst e
   refine sk ?_
   refine sk ?_
   refine sk ?_
   refine sk ?_
   refine pu ?_
   exact la3 hS h8 ⟨rfl, rfl, rfl, rfl, trivial⟩
 ·
  intro y0 y1 y18 T1 n1 ρ its hS h4
  unfold g212_k1 at h4
  clear h1 h2 h3
  refine mv ?_
  refine ls1 X 23 [(8, (.lit (.bool false)))] (g212_k2 ro) 4 ?_ ?_
  ·
   rcases condK_inv h4 with ⟨e, h6⟩ | ⟨e, h6⟩
   ·
    clear h4
    subst e
    refine mv ?_
    refine mv ?_
    refine LV.call hS h6 (g214_ok _ _ _ _ _ _ ) hP rfl rfl rfl rfl fun x22_3 T3 n3 h7 ρ its hS => ?_
    refine pu ?_
    exact la1 hS h7 ⟨rfl, rfl, trivial⟩
   ·
    clear h4
    subst e
    refine sk ?_
    refine sk ?_
    refine sk ?_
    refine pu ?_
    exact la1 hS h6 ⟨rfl, rfl, trivial⟩
  ·
   intro y23 T2 n2 ρ its hS h5
   unfold g212_k2 at h5
   clear h4
   refine as_ ?_
   refine dn ?_
   refine CV.ret ?_
   cases h5
   exact PV.ret (by simp) Tryz.results212 hS (RS.tmp rfl RS.nil) rfl
noncomputable def g223_k4 (ro : List HT) (y122 : AV) (T4 : HT) (n4 : Nat) : R :=
 .ok (.val y122) T4 n4
noncomputable def g223_k3 (ro : List HT) (y0 y2 y116 : AV) (T3 : HT) (n3 : Nat) : R :=
 condK 2230028 y116
 (
  callK (g212 ro y0 y2 (.lit (.int .i64 (.ofNat 2))) (.lit (.int .i64 (.ofNat 2))) T3 n3) fun x121_6 T5 n5 =>
  g223_k4 ro x121_6 T5 n5
 )
 (
  g223_k4 ro (.lit (.bool false)) T3 n3
 )
noncomputable def g223_k5 (ro : List HT) (y0 y2 y115 : AV) (T6 : HT) (n6 : Nat) : R :=
 g223_k3 ro y0 y2 y115 T6 n6
noncomputable def g223_k2 (ro : List HT) (y0 y1 y2 y108 : AV) (T2 : HT) (n2 : Nat) : R :=
 condK 2230034 y108
 (
  g223_k3 ro y0 y2 (.lit (.bool true)) T2 n2
 )
 (
  geK Tryz.prog 3 (.tmp 110) (.const (.int .i64 (.ofNat 21))) 2230037 y1 (.lit (.int .i64 (.ofNat 21))) fun x111_7 =>
  condK 2230040 x111_7
  (
   leK Tryz.prog 3 (.tmp 113) (.const (.int .i64 (.ofNat 33))) 2230042 y1 (.lit (.int .i64 (.ofNat 33))) fun x114_8 =>
   g223_k5 ro y0 y2 x114_8 T2 n2
  )
  (
   g223_k5 ro y0 y2 (.lit (.bool false)) T2 n2
  )
 )
noncomputable def g223_k1 (ro : List HT) (y0 y1 y2 y104 : AV) (T1 : HT) (n1 : Nat) : R :=
 condK 2230045 y104
 (
  g223_k2 ro y0 y1 y2 (.lit (.bool true)) T1 n1
 )
 (
  eqK Tryz.prog 3 (.tmp 106) (.const (.int .i64 (.ofNat 19))) 2230048 y1 (.lit (.int .i64 (.ofNat 19))) fun x107_9 =>
  g223_k2 ro y0 y1 y2 x107_9 T1 n1
 )
noncomputable def g223 (ro : List HT) (a0 a1 a2 : AV) (T : HT) (nx : Nat) : R :=
 eqK Tryz.prog 3 (.tmp 8) (.const (.int .i64 (.ofNat 36))) 2230003 a1 (.lit (.int .i64 (.ofNat 36))) fun x10_1 =>
 condK 2230005 x10_1
 (
  .bad 2230006
 )
 (
  eqK Tryz.prog 3 (.tmp 8) (.const (.int .i64 (.ofNat 37))) 2230007 a1 (.lit (.int .i64 (.ofNat 37))) fun x28_2 =>
  condK 2230009 x28_2
  (
   .bad 2230010
  )
  (
   eqK Tryz.prog 3 (.tmp 8) (.const (.int .i64 (.ofNat 43))) 2230011 a1 (.lit (.int .i64 (.ofNat 43))) fun x53_3 =>
   condK 2230013 x53_3
   (
    .bad 2230014
   )
   (
    eqK Tryz.prog 3 (.tmp 8) (.const (.int .i64 (.ofNat 44))) 2230015 a1 (.lit (.int .i64 (.ofNat 44))) fun x75_4 =>
    condK 2230017 x75_4
    (
     .bad 2230018
    )
    (
     eqK Tryz.prog 3 (.tmp 99) (.const (.int .i64 (.ofNat 13))) 2230020 a1 (.lit (.int .i64 (.ofNat 13))) fun x100_5 =>
     condK 2230050 x100_5
     (
      g223_k1 ro a0 a1 a2 (.lit (.bool true)) T nx
     )
     (
      eqK Tryz.prog 3 (.tmp 102) (.const (.int .i64 (.ofNat 18))) 2230053 a1 (.lit (.int .i64 (.ofNat 18))) fun x103_10 =>
      g223_k1 ro a0 a1 a2 x103_10 T nx
     )
    )
   )
  )
 )
theorem g223_ok (ro : List HT) (a0 a1 a2 : AV) (T : HT) (nx : Nat) : GOk Tryz.prog envE 223 [a0, a1, a2] ro T nx (g223 ro a0 a1 a2 T nx) := by
 refine GOk.of_body Tryz.func223 rfl Tryz.ntmps223 (by kernel_rfl) rfl fun r T' n' h1 w0 base ρ0 its hS hP => ?_
 have X : CtxW envE ρ0 ro r T' n' := trivial
 unfold g223 at h1
 refine sr ?_
 refine as_ ?_
 refine dn ?_
 refine CV.seq ?_
 refine sr ?_
 refine mv ?_
 refine dn ?_
 refine CV.block ?_
 refine sr ?_
 refine vy (V.eq h1 rfl rfl) fun x10_1 h2 => ?_
 refine as_ ?_
 refine dn ?_
 refine CV.cond h2 rfl (fun e h3 => ?_) (fun e h3 => ?_)
 ·
  clear h1 h2
  subst e
  cases h3
 ·
  clear h1 h2
  subst e
  refine sr ?_
  refine vy (V.eq h3 rfl rfl) fun x28_2 h4 => ?_
  refine as_ ?_
  refine dn ?_
  refine CV.cond h4 rfl (fun e h5 => ?_) (fun e h5 => ?_)
  ·
   clear h3 h4
   subst e
   cases h5
  ·
   clear h3 h4
   subst e
   refine sr ?_
   refine vy (V.eq h5 rfl rfl) fun x53_3 h6 => ?_
   refine as_ ?_
   refine dn ?_
   refine CV.cond h6 rfl (fun e h7 => ?_) (fun e h7 => ?_)
   ·
    clear h5 h6
    subst e
    cases h7
   ·
    clear h5 h6
    subst e
    refine sr ?_
    refine vy (V.eq h7 rfl rfl) fun x75_4 h8 => ?_
    refine as_ ?_
    refine dn ?_
    refine CV.cond h8 rfl (fun e h9 => ?_) (fun e h9 => ?_)
    ·
     clear h7 h8
     subst e
     cases h9
    ·
     clear h7 h8
     subst e
     refine CV.skip ?_
     refine PV.blockN ?_
     refine PV.thenN ?_
     refine sr ?_
     refine mv ?_
     refine vy (V.eq h9 rfl rfl) fun x100_5 h10 => ?_
     refine mv ?_
     refine ls4 X 0 1 2 104 [(6, (.lit (.bool false)))] (g223_k1 ro) 3 ?_ ?_
     ·
      rcases condK_inv h10 with ⟨e, h24⟩ | ⟨e, h24⟩
      ·
       clear h9 h10
       subst e
       refine sk ?_
       refine sk ?_
       refine pu ?_
       exact la4 hS h24 ⟨rfl, rfl, rfl, rfl, rfl, trivial⟩
      ·
       clear h9 h10
       subst e
       refine mv ?_
       refine vy (V.eq h24 rfl rfl) fun x103_10 h25 => ?_
       refine pu ?_
       exact la4 hS h25 ⟨rfl, rfl, rfl, rfl, rfl, trivial⟩
     ·
      intro y0 y1 y2 y104 T1 n1 ρ its hS h11
      unfold g223_k1 at h11
      clear h9 h10
      refine mv ?_
      refine ls4 X 0 1 2 108 [(6, (.lit (.bool false)))] (g223_k2 ro) 3 ?_ ?_
      ·
       rcases condK_inv h11 with ⟨e, h22⟩ | ⟨e, h22⟩
       ·
        clear h11
        subst e
        refine sk ?_
        refine sk ?_
        refine pu ?_
        exact la4 hS h22 ⟨rfl, rfl, rfl, rfl, rfl, trivial⟩
       ·
        clear h11
        subst e
        refine mv ?_
        refine vy (V.eq h22 rfl rfl) fun x107_9 h23 => ?_
        refine pu ?_
        exact la4 hS h23 ⟨rfl, rfl, rfl, rfl, rfl, trivial⟩
      ·
       intro y0 y1 y2 y108 T2 n2 ρ its hS h12
       unfold g223_k2 at h12
       clear h11
       refine mv ?_
       refine ls3 X 0 2 116 [(6, (.lit (.bool false)))] (g223_k3 ro) 7 ?_ ?_
       ·
        rcases condK_inv h12 with ⟨e, h17⟩ | ⟨e, h17⟩
        ·
         clear h12
         subst e
         refine sk ?_
         refine sk ?_
         refine sk ?_
         refine sk ?_
         refine sk ?_
         refine sk ?_
         refine pu ?_
         exact la3 hS h17 ⟨rfl, rfl, rfl, rfl, trivial⟩
        ·
         clear h12
         subst e
         refine mv ?_
         refine vy (V.ge h17 rfl rfl) fun x111_7 h18 => ?_
         refine mv ?_
         refine ls3 X 0 2 115 [(6, (.lit (.bool false))), (109, (.lit (.bool false)))] (g223_k5 ro) 3 ?_ ?_
         ·
          rcases condK_inv h18 with ⟨e, h20⟩ | ⟨e, h20⟩
          ·
           clear h17 h18
           subst e
           refine mv ?_
           refine vy (V.le h20 rfl rfl) fun x114_8 h21 => ?_
           refine pu ?_
           exact la3 hS h21 ⟨rfl, rfl, rfl, rfl, rfl, trivial⟩
          ·
           clear h17 h18
           subst e
           refine sk ?_
           refine sk ?_
           refine pu ?_
           exact la3 hS h20 ⟨rfl, rfl, rfl, rfl, rfl, trivial⟩
         ·
          intro y0 y2 y115 T6 n6 ρ its hS h19
          unfold g223_k5 at h19
          clear h17 h18
          refine pu ?_
          exact la3 hS h19 ⟨rfl, rfl, rfl, rfl, trivial⟩
       ·
        intro y0 y2 y116 T3 n3 ρ its hS h13
        unfold g223_k3 at h13
        clear h12
        refine as_ ?_
        refine dn ?_
        refine sr ?_
        refine mv ?_
        refine mv ?_
        refine ls1 X 122 [(6, (.lit (.bool false)))] (g223_k4 ro) 4 ?_ ?_
        ·
         rcases condK_inv h13 with ⟨e, h15⟩ | ⟨e, h15⟩
         ·
          clear h13
          subst e
          refine mv ?_
          refine mv ?_
          refine LV.call hS h15 (g212_ok _ _ _ _ _ _ _ ) hP rfl rfl rfl rfl fun x121_6 T5 n5 h16 ρ its hS => ?_
          refine pu ?_
          exact la1 hS h16 ⟨rfl, rfl, trivial⟩
         ·
          clear h13
          subst e
          refine sk ?_
          refine sk ?_
          refine sk ?_
          refine pu ?_
          exact la1 hS h15 ⟨rfl, rfl, trivial⟩
        ·
         intro y122 T4 n4 ρ its hS h14
         unfold g223_k4 at h14
         clear h13
         refine as_ ?_
         refine dn ?_
         refine CV.ret ?_
         cases h14
         exact PV.ret (by simp) Tryz.results223 hS (RS.tmp rfl RS.nil) rfl

end Go.Proofs.YtlljgagoboapaaaGreatDoor.Vd
