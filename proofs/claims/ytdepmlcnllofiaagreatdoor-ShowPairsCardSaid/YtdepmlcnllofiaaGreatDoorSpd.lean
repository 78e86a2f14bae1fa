/-
  Proved here: plain functions that do what the program's functions do, each with its proof.
-/
import Derived.Test.YtdepmlcnllofiaaGreatDoorSpc
namespace Go.Proofs.YtdepmlcnllofiaaGreatDoor.Sp
open Go.EY Go.EX Go.SX Go.RowKit
noncomputable def g171_k2 (ro : List HT) (lp1 : AV → AV → HT → Nat → R) (y0 y2 y41 : AV) (T2 : HT) (n2 : Nat) : R :=
 condK 1710005 y41
 (
  fldK 1710007 T2 ro y0 1 fun x45_2 =>
  addK Tryz.prog 3 (.tmp 45) (.const (.int .i64 (.ofNat 1))) 1710008 x45_2 (.lit (.int .i64 (.ofNat 1))) fun x46_3 =>
  faK 1710009 y0 1 fun x48_4 =>
  stK 1710010 T2 x48_4 x46_3 fun T3 =>
  lp1 y0 y2 T3 n2
 )
 (
  ncK 1710012 y0 fun x50_5 =>
  faK 1710013 x50_5 0 fun x51_6 =>
  ldK 1710014 T2 ro x51_6 fun x52_7 =>
  ncK 1710017 y0 fun x55_8 =>
  faK 1710018 x55_8 1 fun x56_9 =>
  ldK 1710019 T2 ro x56_9 fun x57_10 =>
  sliceF 1710020 x52_7 (some y2) (some x57_10) fun x58_11 =>
  callK (g106 ro T2 n2) fun x59_12 T4 n4 =>
  callK (g87 ro x59_12 x58_11 T4 n4) fun x61_13 T5 n5 =>
  condK 1710025 x61_13
  (
   callK (g98 ro y0 (.lit (.int .i64 (.ofNat 4))) x58_11 y2 T5 n5) fun x65_14 T6 n6 =>
   .ok (.val (.tup [])) T6 n6
  )
  (
   callK (g98 ro y0 (.lit (.int .i64 (.ofNat 1))) x58_11 y2 T5 n5) fun x69_15 T7 n7 =>
   .ok (.val (.tup [])) T7 n7
  )
 )
noncomputable def g171_b1 (ro : List HT) (lp1 : AV → AV → HT → Nat → R) (y0 y2 : AV) (T1 : HT) (n1 : Nat) : R :=
 ncK 1710035 y0 fun x9_16 =>
 faK 1710036 x9_16 1 fun x10_17 =>
 ldK 1710037 T1 ro x10_17 fun x11_18 =>
 ncK 1710039 y0 fun x13_19 =>
 faK 1710040 x13_19 0 fun x14_20 =>
 ldK 1710041 T1 ro x14_20 fun x15_21 =>
 lenTK 1710042 x15_21 fun x16_22 =>
 ltK Tryz.prog 3 (.tmp 11) (.tmp 16) 1710043 x11_18 x16_22 fun x17_23 =>
 condK 1710045 x17_23
 (
  ncK 1710047 y0 fun x20_24 =>
  faK 1710048 x20_24 0 fun x21_25 =>
  ldK 1710049 T1 ro x21_25 fun x22_26 =>
  ncK 1710051 y0 fun x24_27 =>
  faK 1710052 x24_27 1 fun x25_28 =>
  ldK 1710053 T1 ro x25_28 fun x26_29 =>
  ixK 1710054 x22_26 x26_29 fun x27_30 =>
  callQ 1710055 (g104 (T1 :: ro) x27_30 .nil n1) fun x28_31 =>
  condK 1710057 x28_31
  (
   g171_k2 ro lp1 y0 y2 (.lit (.bool true)) T1 n1
  )
  (
   ncK 1710061 y0 fun x31_32 =>
   faK 1710062 x31_32 0 fun x32_33 =>
   ldK 1710063 T1 ro x32_33 fun x33_34 =>
   ncK 1710065 y0 fun x35_35 =>
   faK 1710066 x35_35 1 fun x36_36 =>
   ldK 1710067 T1 ro x36_36 fun x37_37 =>
   ixK 1710068 x33_34 x37_37 fun x38_38 =>
   callQ 1710069 (g105 (T1 :: ro) x38_38 .nil n1) fun x39_39 =>
   g171_k2 ro lp1 y0 y2 x39_39 T1 n1
  )
 )
 (
  g171_k2 ro lp1 y0 y2 (.lit (.bool false)) T1 n1
 )
noncomputable def g171 (ro : List HT) (a0 : AV) (T : HT) (nx : Nat) : R :=
 fldK 1710002 T ro a0 1 fun x7_1 =>
 lpf2 1710004 (g171_b1 ro) 100000 a0 x7_1 T nx
theorem g171_ok (ro : List HT) (a0 : AV) (T : HT) (nx : Nat) : GOk Tryz.prog envE 171 [a0] ro T nx (g171 ro a0 T nx) := by
 refine GOk.of_body Tryz.func171 rfl Tryz.ntmps171 (by kernel_rfl) rfl fun r T' n' h1 w0 base ρ0 its hS hP => ?_
 have X : CtxW envE ρ0 ro r T' n' := trivial
 unfold g171 at h1
 refine sr ?_
 refine mv ?_
 refine fl hS h1 Spf.fo168_1 Spf.one3 fun x7_1 h2 => ?_
 refine as_ ?_
 refine dn ?_
 refine CV.seq ?_
 refine CV.block ?_
 refine cl2 X 0 2 [] hS h2 ⟨rfl, rfl, trivial⟩ ?_
 intro f1 y0 y2 T1 n1 ρ its hS h3
 unfold g171_b1 at h3
 clear h1 h2
 refine CV.seq ?_
 refine cs3 X 0 2 41 [] (g171_k2 ro (lpf2 1710004 (g171_b1 ro) f1)) ?_ ?_
 ·
  refine CV.regionM [(0, .anywhere), (1, .anywhere), (2, .anywhere), (3, .held), (4, .anywhere), (5, .anywhere), (6, .anywhere), (7, .held), (8, .held), (9, .held), (10, .held), (11, .held), (12, .held), (13, .held), (14, .held), (15, .anywhere), (16, .anywhere), (17, .anywhere), (18, .held), (19, .held), (20, .alone), (21, .anywhere), (22, .anywhere), (23, .anywhere), (24, .anywhere), (25, .held), (26, .anywhere), (27, .anywhere), (28, .anywhere), (29, .held), (30, .held), (31, .alone), (32, .anywhere), (33, .anywhere)] rfl (fun c a a' w hd hq => PanicOk.root (P := Tryz.prog) (fn := Tryz.f171) (w0 := w0) (base := base) (E := envE) (ro := ro) (r := r) (T' := T') (n' := n') (ρ0 := ρ0) c a a' w hd hq) (by kernel_rfl) ?_
  refine MV.step0 (i := 0) rfl (VAL.move rfl) rfl rfl rfl ?_
  refine MV.lift0 (i := 1) rfl (V.nc h3 rfl) rfl rfl rfl fun x9_16 h22 => ?_
  refine MV.lift0 (i := 2) rfl (V.fa h22 rfl Spf.fo168_1) rfl rfl rfl fun x10_17 h23 => ?_
  refine MV.lift1 (i := 3) rfl (fun _ z => z) (V.ld hS h23 rfl Spf.one3) rfl rfl rfl [] (by kernel_rfl) fun x11_18 h24 => ?_
  refine MV.step0 (i := 4) rfl (VAL.move rfl) rfl rfl rfl ?_
  refine MV.lift0 (i := 5) rfl (V.nc h24 rfl) rfl rfl rfl fun x13_19 h25 => ?_
  refine MV.lift0 (i := 6) rfl (V.fa h25 rfl Spf.fo168_0) rfl rfl rfl fun x14_20 h26 => ?_
  refine MV.lift1 (i := 7) rfl (fun _ z => z) (V.ld hS h26 rfl Spf.one9) rfl rfl rfl [3] (by kernel_rfl) fun x15_21 h27 => ?_
  refine MV.lift1 (i := 8) rfl (fun _ z => z) (V.lenT h27 rfl Spf.ls9) rfl rfl rfl [3] (by kernel_rfl) fun x16_22 h28 => ?_
  refine MV.lift1 (i := 9) rfl (fun _ z => z) (V.lt h28 rfl rfl) rfl rfl rfl [] (by kernel_rfl) fun x17_23 h29 => ?_
  refine MV.step1 (i := 10) rfl (fun _ z => z) (VAL.move rfl) rfl rfl rfl [] (by kernel_rfl) ?_
  rcases condK_inv h29 with ⟨e, h30⟩ | ⟨e, h30⟩
  ·
   clear h3 h22 h23 h24 h25 h26 h27 h28 h29
   subst e
   refine MV.step1 (i := 11) rfl (fun _ z => z) (VAL.move rfl) rfl rfl rfl [] (by kernel_rfl) ?_
   refine MV.lift1 (i := 12) rfl (fun _ z => z) (V.nc h30 rfl) rfl rfl rfl [] (by kernel_rfl) fun x20_24 h31 => ?_
   refine MV.lift1 (i := 13) rfl (fun _ z => z) (V.fa h31 rfl Spf.fo168_0) rfl rfl rfl [] (by kernel_rfl) fun x21_25 h32 => ?_
   refine MV.lift1 (i := 14) rfl (fun _ z => z) (V.ld hS h32 rfl Spf.one9) rfl rfl rfl [] (by kernel_rfl) fun x22_26 h33 => ?_
   refine MV.step0 (i := 15) rfl (VAL.move rfl) rfl rfl rfl ?_
   refine MV.lift0 (i := 16) rfl (V.nc h33 rfl) rfl rfl rfl fun x24_27 h34 => ?_
   refine MV.lift0 (i := 17) rfl (V.fa h34 rfl Spf.fo168_1) rfl rfl rfl fun x25_28 h35 => ?_
   refine MV.lift1 (i := 18) rfl (fun _ z => z) (V.ld hS h35 rfl Spf.one3) rfl rfl rfl [14] (by kernel_rfl) fun x26_29 h36 => ?_
   refine MV.lift1 (i := 19) rfl (fun _ z => z) (V.ix h36 rfl rfl Spf.st9) rfl rfl rfl [] (by kernel_rfl) fun x27_30 h37 => ?_
   refine MV.force (i := 20) rfl ?_
   refine LV.callQ hS h37 (g104_ok _ _ _ _ ) rfl rfl rfl rfl fun x28_31 h38 => ?_
   refine LV.nextM [] (by kernel_rfl) (fun z => absurd rfl z) ?_
   refine MV.step0 (i := 21) rfl (VAL.move rfl) rfl rfl rfl ?_
   rcases condK_inv h38 with ⟨e, h39⟩ | ⟨e, h39⟩
   ·
    clear h30 h31 h32 h33 h34 h35 h36 h37 h38
    subst e
    refine MV.skip0 (i := 22) rfl rfl rfl rfl ?_
    refine MV.skip0 (i := 23) rfl rfl rfl rfl ?_
    refine MV.skip0 (i := 24) rfl rfl rfl rfl ?_
    refine MV.skip1 (i := 25) rfl (fun _ z => z) rfl rfl rfl [] (by kernel_rfl) ?_
    refine MV.skip0 (i := 26) rfl rfl rfl rfl ?_
    refine MV.skip0 (i := 27) rfl rfl rfl rfl ?_
    refine MV.skip0 (i := 28) rfl rfl rfl rfl ?_
    refine MV.skip1 (i := 29) rfl (fun _ z => z) rfl rfl rfl [25] (by kernel_rfl) ?_
    refine MV.skip1 (i := 30) rfl (fun _ z => z) rfl rfl rfl [] (by kernel_rfl) ?_
    refine MV.force (i := 31) rfl ?_
    refine sk ?_
    refine LV.nextM [] (by kernel_rfl) (fun z => absurd rfl z) ?_
    refine MV.step0 (i := 32) rfl (VAL.pure rfl) rfl rfl rfl ?_
    refine MV.step0 (i := 33) rfl (VAL.pure rfl) rfl rfl rfl ?_
    refine MV.done ?_
    exact pa3 hS h39 ⟨rfl, rfl, rfl, trivial⟩
   ·
    clear h30 h31 h32 h33 h34 h35 h36 h37 h38
    subst e
    refine MV.step0 (i := 22) rfl (VAL.move rfl) rfl rfl rfl ?_
    refine MV.lift0 (i := 23) rfl (V.nc h39 rfl) rfl rfl rfl fun x31_32 h40 => ?_
    refine MV.lift0 (i := 24) rfl (V.fa h40 rfl Spf.fo168_0) rfl rfl rfl fun x32_33 h41 => ?_
    refine MV.lift1 (i := 25) rfl (fun _ z => z) (V.ld hS h41 rfl Spf.one9) rfl rfl rfl [] (by kernel_rfl) fun x33_34 h42 => ?_
    refine MV.step0 (i := 26) rfl (VAL.move rfl) rfl rfl rfl ?_
    refine MV.lift0 (i := 27) rfl (V.nc h42 rfl) rfl rfl rfl fun x35_35 h43 => ?_
    refine MV.lift0 (i := 28) rfl (V.fa h43 rfl Spf.fo168_1) rfl rfl rfl fun x36_36 h44 => ?_
    refine MV.lift1 (i := 29) rfl (fun _ z => z) (V.ld hS h44 rfl Spf.one3) rfl rfl rfl [25] (by kernel_rfl) fun x37_37 h45 => ?_
    refine MV.lift1 (i := 30) rfl (fun _ z => z) (V.ix h45 rfl rfl Spf.st9) rfl rfl rfl [] (by kernel_rfl) fun x38_38 h46 => ?_
    refine MV.force (i := 31) rfl ?_
    refine LV.callQ hS h46 (g105_ok _ _ _ _ ) rfl rfl rfl rfl fun x39_39 h47 => ?_
    refine LV.nextM [] (by kernel_rfl) (fun z => absurd rfl z) ?_
    refine MV.step0 (i := 32) rfl (VAL.pure rfl) rfl rfl rfl ?_
    refine MV.step0 (i := 33) rfl (VAL.pure rfl) rfl rfl rfl ?_
    refine MV.done ?_
    exact pa3 hS h47 ⟨rfl, rfl, rfl, trivial⟩
  ·
   clear h3 h22 h23 h24 h25 h26 h27 h28 h29
   subst e
   refine MV.skip1 (i := 11) rfl (fun _ z => z) rfl rfl rfl [] (by kernel_rfl) ?_
   refine MV.skip1 (i := 12) rfl (fun _ z => z) rfl rfl rfl [] (by kernel_rfl) ?_
   refine MV.skip1 (i := 13) rfl (fun _ z => z) rfl rfl rfl [] (by kernel_rfl) ?_
   refine MV.skip1 (i := 14) rfl (fun _ z => z) rfl rfl rfl [] (by kernel_rfl) ?_
   refine MV.skip0 (i := 15) rfl rfl rfl rfl ?_
   refine MV.skip0 (i := 16) rfl rfl rfl rfl ?_
   refine MV.skip0 (i := 17) rfl rfl rfl rfl ?_
   refine MV.skip1 (i := 18) rfl (fun _ z => z) rfl rfl rfl [14] (by kernel_rfl) ?_
   refine MV.skip1 (i := 19) rfl (fun _ z => z) rfl rfl rfl [] (by kernel_rfl) ?_
   refine MV.force (i := 20) rfl ?_
   refine sk ?_
   refine LV.nextM [] (by kernel_rfl) (fun z => absurd rfl z) ?_
   refine MV.skip0 (i := 21) rfl rfl rfl rfl ?_
   refine MV.skip0 (i := 22) rfl rfl rfl rfl ?_
   refine MV.skip0 (i := 23) rfl rfl rfl rfl ?_
   refine MV.skip0 (i := 24) rfl rfl rfl rfl ?_
   refine MV.skip1 (i := 25) rfl (fun _ z => z) rfl rfl rfl [] (by kernel_rfl) ?_
   refine MV.skip0 (i := 26) rfl rfl rfl rfl ?_
   refine MV.skip0 (i := 27) rfl rfl rfl rfl ?_
   refine MV.skip0 (i := 28) rfl rfl rfl rfl ?_
   refine MV.skip1 (i := 29) rfl (fun _ z => z) rfl rfl rfl [25] (by kernel_rfl) ?_
   refine MV.skip1 (i := 30) rfl (fun _ z => z) rfl rfl rfl [] (by kernel_rfl) ?_
   refine MV.force (i := 31) rfl ?_
   refine sk ?_
   refine LV.nextM [] (by kernel_rfl) (fun z => absurd rfl z) ?_
   refine MV.skip0 (i := 32) rfl rfl rfl rfl ?_
   refine MV.step0 (i := 33) rfl (VAL.pure rfl) rfl rfl rfl ?_
   refine MV.done ?_
   exact pa3 hS h30 ⟨rfl, rfl, rfl, trivial⟩
 ·
  intro y0 y2 y41 T2 n2 ρ its hS h4
  unfold g171_k2 at h4
  clear h3
  refine CV.cond h4 rfl (fun e h5 => ?_) (fun e h5 => ?_)
  ·
   clear h4
   subst e
   refine CV.skip ?_
   refine PV.thenN ?_
   refine CV.block ?_
   refine CV.region ?_
   refine mv ?_
   refine fl hS h5 Spf.fo168_1 Spf.one3 fun x45_2 h6 => ?_
   refine vy (V.add h6 rfl rfl) fun x46_3 h7 => ?_
   refine fa2 h7 Spf.fo168_1 fun x48_4 h8 => ?_
   refine LV.st hS h8 rfl rfl rfl Spf.siz3 rfl rfl fun T3 its h9 hS => ?_
   refine LV.done ?_
   refine PV.blockN ?_
   exact pb2 hS h9 ⟨rfl, rfl, trivial⟩
  ·
   clear h4
   subst e
   refine CV.exit ?_
   refine PV.thenE ?_
   refine PV.thenE ?_
   refine PV.blockE ?_
   refine PV.thenN ?_
   refine CV.seq ?_
   refine CV.regionM [(0, .anywhere), (1, .anywhere), (2, .anywhere), (3, .held), (4, .anywhere), (5, .anywhere), (6, .anywhere), (7, .anywhere), (8, .held), (9, .held), (10, .held)] rfl (fun c a a' w hd hq => PanicOk.root (P := Tryz.prog) (fn := Tryz.f171) (w0 := w0) (base := base) (E := envE) (ro := ro) (r := r) (T' := T') (n' := n') (ρ0 := ρ0) c a a' w hd hq) (by kernel_rfl) ?_
   refine MV.step0 (i := 0) rfl (VAL.move rfl) rfl rfl rfl ?_
   refine MV.lift0 (i := 1) rfl (V.nc h5 rfl) rfl rfl rfl fun x50_5 h10 => ?_
   refine MV.lift0 (i := 2) rfl (V.fa h10 rfl Spf.fo168_0) rfl rfl rfl fun x51_6 h11 => ?_
   refine MV.lift1 (i := 3) rfl (fun _ z => z) (V.ld hS h11 rfl Spf.one9) rfl rfl rfl [] (by kernel_rfl) fun x52_7 h12 => ?_
   refine MV.step0 (i := 4) rfl (VAL.move rfl) rfl rfl rfl ?_
   refine MV.step0 (i := 5) rfl (VAL.move rfl) rfl rfl rfl ?_
   refine MV.lift0 (i := 6) rfl (V.nc h12 rfl) rfl rfl rfl fun x55_8 h13 => ?_
   refine MV.lift0 (i := 7) rfl (V.fa h13 rfl Spf.fo168_1) rfl rfl rfl fun x56_9 h14 => ?_
   refine MV.lift1 (i := 8) rfl (fun _ z => z) (V.ld hS h14 rfl Spf.one3) rfl rfl rfl [3] (by kernel_rfl) fun x57_10 h15 => ?_
   refine MV.lift1 (i := 9) rfl (fun _ z => z) (V.slBo (sliceF_ok h15) rfl rfl rfl Spf.st9) rfl rfl rfl [] (by kernel_rfl) fun x58_11 h16 => ?_
   refine MV.step1 (i := 10) rfl (fun _ z => z) (VAL.assign rfl) rfl rfl rfl [] (by kernel_rfl) ?_
   refine mdn ?_
   refine CV.seq ?_
   refine sr ?_
   refine LV.call hS h16 (g106_ok _ _ _ ) hP rfl rfl rfl rfl fun x59_12 T4 n4 h17 ρ its hS => ?_
   refine mv ?_
   refine LV.call hS h17 (g87_ok _ _ _ _ _ ) hP rfl rfl rfl rfl fun x61_13 T5 n5 h18 ρ its hS => ?_
   refine dn ?_
   refine CV.cond h18 rfl (fun e h19 => ?_) (fun e h19 => ?_)
   ·
    clear h5 h10 h11 h12 h13 h14 h15 h16 h17 h18
    subst e
    refine sr ?_
    refine mv ?_
    refine mv ?_
    refine mv ?_
    refine LV.call hS h19 (g98_ok _ _ _ _ _ _ _ ) hP rfl rfl rfl rfl fun x65_14 T6 n6 h20 ρ its hS => ?_
    refine dn ?_
    refine CV.ret ?_
    refine PV.thenR ?_
    cases h20
    exact PV.ret (by simp) Tryz.results171 hS RS.nil rfl
   ·
    clear h5 h10 h11 h12 h13 h14 h15 h16 h17 h18
    subst e
    refine CV.skip ?_
    refine PV.thenN ?_
    refine CV.region ?_
    refine mv ?_
    refine mv ?_
    refine mv ?_
    refine LV.call hS h19 (g98_ok _ _ _ _ _ _ _ ) hP rfl rfl rfl rfl fun x69_15 T7 n7 h21 ρ its hS => ?_
    refine LV.done ?_
    cases h21
    exact PV.ret (by simp) Tryz.results171 hS RS.nil rfl
noncomputable def g229 (ro : List HT) (a0 a1 : AV) (T : HT) (nx : Nat) : R :=
 ibsK 2290004 a0 a1 fun x7_1 =>
 .ok (.val x7_1) T nx
theorem g229_ok (ro : List HT) (a0 a1 : AV) (T : HT) (nx : Nat) : GOk Tryz.prog envE 229 [a0, a1] ro T nx (g229 ro a0 a1 T nx) := by
 refine GOk.of_body Tryz.func229 rfl Tryz.ntmps229 (by kernel_rfl) rfl fun r T' n' h1 w0 base ρ0 its hS hP => ?_
 have X : CtxW envE ρ0 ro r T' n' := trivial
 unfold g229 at h1
 refine sr ?_
 refine as_ ?_
 refine dn ?_
 refine sr ?_
 refine mv ?_
 refine mv ?_
 refine vy (Spf.ibf234 h1 rfl rfl) fun x7_1 h2 => ?_
 refine as_ ?_
 refine dn ?_
 refine CV.ret ?_
 cases h2
 exact PV.ret (by simp) Tryz.results229 hS (RS.tmp rfl RS.nil) rfl
noncomputable def g214 (ro : List HT) (a0 a1 : AV) (T : HT) (nx : Nat) : R :=
 callK (g229 ro a0 a1 T nx) fun x7_1 T1 n1 =>
 .ok (.val x7_1) T1 n1
theorem g214_ok (ro : List HT) (a0 a1 : AV) (T : HT) (nx : Nat) : GOk Tryz.prog envE 214 [a0, a1] ro T nx (g214 ro a0 a1 T nx) := by
 refine GOk.of_body Tryz.func214 rfl Tryz.ntmps214 (by kernel_rfl) rfl fun r T' n' h1 w0 base ρ0 its hS hP => ?_
 have X : CtxW envE ρ0 ro r T' n' := trivial
 unfold g214 at h1
 refine sr ?_
 refine as_ ?_
 refine dn ?_
 refine sr ?_
 refine mv ?_
 refine mv ?_
 refine LV.call hS h1 (g229_ok _ _ _ _ _ ) hP rfl rfl rfl rfl fun x7_1 T1 n1 h2 ρ its hS => ?_
 refine as_ ?_
 refine dn ?_
 refine CV.ret ?_
 cases h2
 exact PV.ret (by simp) Tryz.results214 hS (RS.tmp rfl RS.nil) rfl
noncomputable def g174_k2 (ro : List HT) (y0 y2 y3 : AV) (T3 : HT) (n3 : Nat) : R :=
 fldK 1740012 T3 ro y0 1 fun x85_3 =>
 callK (g98 ro y0 (.lit (.int .i64 (.ofNat 4))) y3 x85_3 T3 n3) fun x86_4 T4 n4 =>
 fldK 1740015 T4 ro y0 1 fun x90_5 =>
 lenTK 1740017 y3 fun x92_6 =>
 addK Tryz.prog 3 (.tmp 90) (.tmp 92) 1740018 x90_5 x92_6 fun x93_7 =>
 faK 1740019 y0 1 fun x95_8 =>
 stK 1740020 T4 x95_8 x93_7 fun T5 =>
 .ok (.val (.lit (.nilIface))) T5 n4
noncomputable def g174_k3 (ro : List HT) (y0 y2 y3 y5 y65 : AV) (T7 : HT) (n7 : Nat) : R :=
 condK 1740032 y65
 (
  .bad 1740033
 )
 (
  fldK 1740036 T7 ro y0 4 fun x75_15 =>
  cutHiK 1740038 T7 ro x75_15 y5 fun x77_16 =>
  faK 1740039 y0 4 fun x79_17 =>
  stK 1740040 T7 x79_17 x77_16 fun T8 =>
  g174_k2 ro y0 y2 y3 T8 n7
 )
noncomputable def g174_k1 (ro : List HT) (y0 y2 y3 : AV) (T2 : HT) (n2 : Nat) : R :=
 ixK 1740023 y3 (.lit (.int .i64 (.ofNat 0))) fun x43_9 =>
 callK (g214 ro (.lit (.string ⟨⟨[41, 93, 125]⟩⟩)) x43_9 T2 n2) fun x44_10 T6 n6 =>
 geK Tryz.prog 3 (.tmp 44) (.const (.int .i64 (.ofNat 0))) 1740025 x44_10 (.lit (.int .i64 (.ofNat 0))) fun x45_11 =>
 condK 1740026 x45_11
 (
  fldK 1740028 T6 ro y0 4 fun x49_12 =>
  lenSK 1740029 x49_12 fun x50_13 =>
  subK Tryz.prog 3 (.tmp 50) (.const (.int .i64 (.ofNat 1))) 1740030 x50_13 (.lit (.int .i64 (.ofNat 1))) fun x51_14 =>
  ltK Tryz.prog 3 (.tmp 52) (.const (.int .i64 (.ofNat 0))) 1740042 x51_14 (.lit (.int .i64 (.ofNat 0))) fun x53_18 =>
  condK 1740044 x53_18
  (
   g174_k3 ro y0 y2 y3 x51_14 (.lit (.bool true)) T6 n6
  )
  (
   ncK 1740047 y0 fun x56_19 =>
   faK 1740048 x56_19 4 fun x57_20 =>
   ldK 1740049 T6 ro x57_20 fun x58_21 =>
   iaK 1740051 x58_21 x51_14 1 fun x60_22 =>
   ldK 1740052 T6 ro x60_22 fun x61_23 =>
   ixK 1740054 y3 (.lit (.int .i64 (.ofNat 0))) fun x63_24 =>
   neK Tryz.prog 5 (.tmp 61) (.tmp 63) 1740055 x61_23 x63_24 fun x64_25 =>
   g174_k3 ro y0 y2 y3 x51_14 x64_25 T6 n6
  )
 )
 (
  g174_k2 ro y0 y2 y3 T6 n6
 )
noncomputable def g174 (ro : List HT) (a0 : AV) (T : HT) (nx : Nat) : R :=
 callK (g213 ro a0 T nx) fun x7_1 T1 n1 =>
 eqSK Tryz.prog 9 (.tmp 8) (.const (.string ⟨⟨[]⟩⟩)) 1740006 x7_1 (.lit (.string ⟨⟨[]⟩⟩)) fun x9_2 =>
 condK 1740007 x9_2
 (
  .bad 1740008
 )
 (
  ixK 1740058 x7_1 (.lit (.int .i64 (.ofNat 0))) fun x16_26 =>
  callK (g214 ro (.lit (.string ⟨⟨[40, 91, 123]⟩⟩)) x16_26 T1 n1) fun x17_27 T9 n9 =>
  geK Tryz.prog 3 (.tmp 18) (.const (.int .i64 (.ofNat 0))) 1740062 x17_27 (.lit (.int .i64 (.ofNat 0))) fun x19_28 =>
  condK 1740063 x19_28
  (
   fldK 1740065 T9 ro a0 4 fun x23_29 =>
   lenSK 1740066 x23_29 fun x24_30 =>
   geK Tryz.prog 3 (.tmp 24) (.const (.int .i64 (.ofNat 60))) 1740067 x24_30 (.lit (.int .i64 (.ofNat 60))) fun x25_31 =>
   condK 1740068 x25_31
   (
    .bad 1740069
   )
   (
    ncK 1740072 a0 fun x33_32 =>
    faK 1740073 x33_32 4 fun x34_33 =>
    ldK 1740074 T9 ro x34_33 fun x35_34 =>
    ixK 1740076 (.lit (.string ⟨⟨[41, 93, 125]⟩⟩)) x17_27 fun x37_35 =>
    bsK 1740077 T9 n9 1 5 1 [(0, x37_35)] fun x38_36 T10 n10 =>
    shrK 1740079 T10 x35_34 fun T11 =>
    appK 1740078 T11 ro n10 5 1 1 x35_34 x38_36 fun x39_37 T12 n12 =>
    ncK 1740080 a0 fun x40_38 =>
    faK 1740081 x40_38 4 fun x41_39 =>
    stK 1740082 T12 x41_39 x39_37 fun T13 =>
    g174_k1 ro a0 (.lit (.nilIface)) x7_1 T13 n12
   )
  )
  (
   g174_k1 ro a0 (.lit (.nilIface)) x7_1 T9 n9
  )
 )
theorem g174_ok (ro : List HT) (a0 : AV) (T : HT) (nx : Nat) : GOk Tryz.prog envE 174 [a0] ro T nx (g174 ro a0 T nx) := by
 refine GOk.of_body Tryz.func174 rfl Tryz.ntmps174 (by kernel_rfl) rfl fun r T' n' h1 w0 base ρ0 its hS hP => ?_
 have X : CtxW envE ρ0 ro r T' n' := trivial
 unfold g174 at h1
 refine sr ?_
 refine as_ ?_
 refine dn ?_
 refine sr ?_
 refine mv ?_
 refine LV.call hS h1 (g213_ok _ _ _ _ ) hP rfl rfl rfl rfl fun x7_1 T1 n1 h2 ρ its hS => ?_
 refine as_ ?_
 refine dn ?_
 refine CV.seq ?_
 refine sr ?_
 refine mv ?_
 refine vy (V.eqS h2 rfl rfl) fun x9_2 h3 => ?_
 refine dn ?_
 refine CV.cond h3 rfl (fun e h4 => ?_) (fun e h4 => ?_)
 ·
  clear h1 h2 h3
  subst e
  cases h4
 ·
  clear h1 h2 h3
  subst e
  refine CV.skip ?_
  refine PV.thenN ?_
  refine cs3 X 0 2 3 [] (g174_k1 ro) ?_ ?_
  ·
   refine sr ?_
   refine mv ?_
   refine vy (V.ix h4 rfl rfl Spf.st9) fun x16_26 h36 => ?_
   refine LV.call hS h36 (g214_ok _ _ _ _ _ ) hP rfl rfl rfl rfl fun x17_27 T9 n9 h37 ρ its hS => ?_
   refine as_ ?_
   refine dn ?_
   refine sr ?_
   refine mv ?_
   refine vy (V.ge h37 rfl rfl) fun x19_28 h38 => ?_
   refine dn ?_
   refine CV.cond h38 rfl (fun e h39 => ?_) (fun e h39 => ?_)
   ·
    clear h4 h36 h37 h38
    subst e
    refine CV.seq ?_
    refine sr ?_
    refine mv ?_
    refine fl hS h39 Spf.fo168_4 Spf.one88 fun x23_29 h40 => ?_
    refine vy (V.lenS h40 rfl Spf.ls88) fun x24_30 h41 => ?_
    refine vy (V.ge h41 rfl rfl) fun x25_31 h42 => ?_
    refine dn ?_
    refine CV.cond h42 rfl (fun e h43 => ?_) (fun e h43 => ?_)
    ·
     clear h39 h40 h41 h42
     subst e
     cases h43
    ·
     clear h39 h40 h41 h42
     subst e
     refine CV.skip ?_
     refine PV.thenN ?_
     refine CV.regionM [(0, .anywhere), (1, .anywhere), (2, .anywhere), (3, .anywhere), (4, .held), (5, .anywhere), (6, .anywhere), (7, .alone), (8, .alone), (9, .alone), (10, .alone), (11, .alone)] rfl (fun c a a' w hd hq => PanicOk.root (P := Tryz.prog) (fn := Tryz.f174) (w0 := w0) (base := base) (E := envE) (ro := ro) (r := r) (T' := T') (n' := n') (ρ0 := ρ0) c a a' w hd hq) (by kernel_rfl) ?_
     refine MV.step0 (i := 0) rfl (VAL.move rfl) rfl rfl rfl ?_
     refine MV.step0 (i := 1) rfl (VAL.move rfl) rfl rfl rfl ?_
     refine MV.lift0 (i := 2) rfl (V.nc h43 rfl) rfl rfl rfl fun x33_32 h44 => ?_
     refine MV.lift0 (i := 3) rfl (V.fa h44 rfl Spf.fo168_4) rfl rfl rfl fun x34_33 h45 => ?_
     refine MV.lift1 (i := 4) rfl (fun _ z => z) (V.ld hS h45 rfl Spf.one88) rfl rfl rfl [] (by kernel_rfl) fun x35_34 h46 => ?_
     refine MV.step0 (i := 5) rfl (VAL.move rfl) rfl rfl rfl ?_
     refine MV.lift0 (i := 6) rfl (V.ix h46 rfl rfl Spf.st9) rfl rfl rfl fun x37_35 h47 => ?_
     refine MV.force (i := 7) rfl ?_
     refine LV.bslice hS h47 rfl rfl Spf.el88 rfl rfl rfl rfl fun x38_36 T10 n10 h48 ρ its hS hdr => ?_
     refine LV.nextM [4] (by kernel_rfl) (fun _ => hdr) ?_
     refine MV.force (i := 8) rfl ?_
     obtain ⟨T11, its1, h49, hS, hW⟩ := shrK_inv hS h48
     refine LV.world hW ?_
     refine LV.app hS h49 rfl rfl rfl rfl Spf.el88 rfl rfl rfl fun x39_37 T12 n12 h50 ρ its hS => ?_
     refine LV.nextM [] (by kernel_rfl) (fun z => absurd rfl z) ?_
     refine MV.force (i := 9) rfl ?_
     refine vy (V.nc h50 rfl) fun x40_38 h51 => ?_
     refine LV.nextM [] (by kernel_rfl) (fun z => absurd rfl z) ?_
     refine MV.force (i := 10) rfl ?_
     refine vy (V.fa h51 rfl Spf.fo168_4) fun x41_39 h52 => ?_
     refine LV.nextM [] (by kernel_rfl) (fun z => absurd rfl z) ?_
     refine MV.force (i := 11) rfl ?_
     refine LV.st hS h52 rfl rfl rfl Spf.siz88 rfl rfl fun T13 its h53 hS => ?_
     refine LV.nextM [] (by kernel_rfl) (fun z => absurd rfl z) ?_
     refine MV.done ?_
     exact pa3 hS h53 ⟨rfl, rfl, rfl, trivial⟩
   ·
    clear h4 h36 h37 h38
    subst e
    refine CV.skip ?_
    exact pa3 hS h39 ⟨rfl, rfl, rfl, trivial⟩
  ·
   intro y0 y2 y3 T2 n2 ρ its hS h5
   unfold g174_k1 at h5
   clear h4
   refine cs3 X 0 2 3 [] (g174_k2 ro) ?_ ?_
   ·
    refine sr ?_
    refine mv ?_
    refine vy (V.ix h5 rfl rfl Spf.st9) fun x43_9 h14 => ?_
    refine LV.call hS h14 (g214_ok _ _ _ _ _ ) hP rfl rfl rfl rfl fun x44_10 T6 n6 h15 ρ its hS => ?_
    refine vy (V.ge h15 rfl rfl) fun x45_11 h16 => ?_
    refine dn ?_
    refine CV.cond h16 rfl (fun e h17 => ?_) (fun e h17 => ?_)
    ·
     clear h5 h14 h15 h16
     subst e
     refine sr ?_
     refine mv ?_
     refine fl hS h17 Spf.fo168_4 Spf.one88 fun x49_12 h18 => ?_
     refine vy (V.lenS h18 rfl Spf.ls88) fun x50_13 h19 => ?_
     refine vy (V.sub h19 rfl rfl) fun x51_14 h20 => ?_
     refine as_ ?_
     refine dn ?_
     refine CV.seq ?_
     refine cs5 X 0 2 3 5 65 [] (g174_k3 ro) ?_ ?_
     ·
      refine CV.regionM [(0, .anywhere), (1, .anywhere), (2, .anywhere), (3, .anywhere), (4, .anywhere), (5, .anywhere), (6, .held), (7, .anywhere), (8, .held), (9, .held), (10, .anywhere), (11, .anywhere), (12, .held), (13, .held)] rfl (fun c a a' w hd hq => PanicOk.root (P := Tryz.prog) (fn := Tryz.f174) (w0 := w0) (base := base) (E := envE) (ro := ro) (r := r) (T' := T') (n' := n') (ρ0 := ρ0) c a a' w hd hq) (by kernel_rfl) ?_
      refine MV.step0 (i := 0) rfl (VAL.move rfl) rfl rfl rfl ?_
      refine MV.lift0 (i := 1) rfl (V.lt h20 rfl rfl) rfl rfl rfl fun x53_18 h27 => ?_
      refine MV.step0 (i := 2) rfl (VAL.move rfl) rfl rfl rfl ?_
      rcases condK_inv h27 with ⟨e, h28⟩ | ⟨e, h28⟩
      ·
       clear h17 h18 h19 h20 h27
       subst e
       refine MV.skip0 (i := 3) rfl rfl rfl rfl ?_
       refine MV.skip0 (i := 4) rfl rfl rfl rfl ?_
       refine MV.skip0 (i := 5) rfl rfl rfl rfl ?_
       refine MV.skip1 (i := 6) rfl (fun _ z => z) rfl rfl rfl [] (by kernel_rfl) ?_
       refine MV.skip0 (i := 7) rfl rfl rfl rfl ?_
       refine MV.skip1 (i := 8) rfl (fun _ z => z) rfl rfl rfl [] (by kernel_rfl) ?_
       refine MV.skip1 (i := 9) rfl (fun _ z => z) rfl rfl rfl [] (by kernel_rfl) ?_
       refine MV.skip0 (i := 10) rfl rfl rfl rfl ?_
       refine MV.skip0 (i := 11) rfl rfl rfl rfl ?_
       refine MV.skip1 (i := 12) rfl (fun _ z => z) rfl rfl rfl [] (by kernel_rfl) ?_
       refine MV.step1 (i := 13) rfl (fun _ z => z) (VAL.pure rfl) rfl rfl rfl [] (by kernel_rfl) ?_
       refine MV.done ?_
       exact pa5 hS h28 ⟨rfl, rfl, rfl, rfl, rfl, trivial⟩
      ·
       clear h17 h18 h19 h20 h27
       subst e
       refine MV.step0 (i := 3) rfl (VAL.move rfl) rfl rfl rfl ?_
       refine MV.lift0 (i := 4) rfl (V.nc h28 rfl) rfl rfl rfl fun x56_19 h29 => ?_
       refine MV.lift0 (i := 5) rfl (V.fa h29 rfl Spf.fo168_4) rfl rfl rfl fun x57_20 h30 => ?_
       refine MV.lift1 (i := 6) rfl (fun _ z => z) (V.ld hS h30 rfl Spf.one88) rfl rfl rfl [] (by kernel_rfl) fun x58_21 h31 => ?_
       refine MV.step0 (i := 7) rfl (VAL.move rfl) rfl rfl rfl ?_
       refine MV.lift1 (i := 8) rfl (fun _ z => z) (V.ia h31 rfl rfl Spf.el88) rfl rfl rfl [] (by kernel_rfl) fun x60_22 h32 => ?_
       refine MV.lift1 (i := 9) rfl (fun _ z => z) (V.ld hS h32 rfl Spf.one5) rfl rfl rfl [] (by kernel_rfl) fun x61_23 h33 => ?_
       refine MV.step0 (i := 10) rfl (VAL.move rfl) rfl rfl rfl ?_
       refine MV.lift0 (i := 11) rfl (V.ix h33 rfl rfl Spf.st9) rfl rfl rfl fun x63_24 h34 => ?_
       refine MV.lift1 (i := 12) rfl (fun _ z => z) (V.ne h34 rfl rfl) rfl rfl rfl [] (by kernel_rfl) fun x64_25 h35 => ?_
       refine MV.step1 (i := 13) rfl (fun _ z => z) (VAL.pure rfl) rfl rfl rfl [] (by kernel_rfl) ?_
       refine MV.done ?_
       exact pa5 hS h35 ⟨rfl, rfl, rfl, rfl, rfl, trivial⟩
     ·
      intro y0 y2 y3 y5 y65 T7 n7 ρ its hS h21
      unfold g174_k3 at h21
      clear h17 h18 h19 h20
      refine CV.cond h21 rfl (fun e h22 => ?_) (fun e h22 => ?_)
      ·
       clear h21
       subst e
       cases h22
      ·
       clear h21
       subst e
       refine CV.skip ?_
       refine PV.thenN ?_
       refine CV.region ?_
       refine mv ?_
       refine mv ?_
       refine fl hS h22 Spf.fo168_4 Spf.one88 fun x75_15 h23 => ?_
       refine mv ?_
       refine vy (V.cutHi hS h23 rfl rfl Spf.el88) fun x77_16 h24 => ?_
       refine fa2 h24 Spf.fo168_4 fun x79_17 h25 => ?_
       refine LV.st hS h25 rfl rfl rfl Spf.siz88 rfl rfl fun T8 its h26 hS => ?_
       refine LV.done ?_
       exact pa3 hS h26 ⟨rfl, rfl, rfl, trivial⟩
    ·
     clear h5 h14 h15 h16
     subst e
     refine CV.skip ?_
     exact pa3 hS h17 ⟨rfl, rfl, rfl, trivial⟩
   ·
    intro y0 y2 y3 T3 n3 ρ its hS h6
    unfold g174_k2 at h6
    clear h5
    refine sr ?_
    refine mv ?_
    refine mv ?_
    refine mv ?_
    refine fl hS h6 Spf.fo168_1 Spf.one3 fun x85_3 h7 => ?_
    refine LV.call hS h7 (g98_ok _ _ _ _ _ _ _ ) hP rfl rfl rfl rfl fun x86_4 T4 n4 h8 ρ its hS => ?_
    refine dn ?_
    refine sr ?_
    refine mv ?_
    refine fl hS h8 Spf.fo168_1 Spf.one3 fun x90_5 h9 => ?_
    refine mv ?_
    refine vy (V.lenT h9 rfl Spf.ls9) fun x92_6 h10 => ?_
    refine vy (V.add h10 rfl rfl) fun x93_7 h11 => ?_
    refine fa2 h11 Spf.fo168_1 fun x95_8 h12 => ?_
    refine LV.st hS h12 rfl rfl rfl Spf.siz3 rfl rfl fun T5 its h13 hS => ?_
    refine dn ?_
    refine sr ?_
    refine as_ ?_
    refine dn ?_
    refine CV.ret ?_
    cases h13
    exact PV.ret (by simp) Tryz.results174 hS (RS.tmp rfl RS.nil) rfl
noncomputable def g95_k2 (ro : List HT) (y0 y2 y73 : AV) (T6 : HT) (n6 : Nat) : R :=
 condK 950048 y73
 (
  .bad 950049
 )
 (
  callK (g174 ro y0 T6 n6) fun x78_18 T7 n7 =>
  .ok (.val x78_18) T7 n7
 )
noncomputable def g95_k1 (ro : List HT) (y0 y2 y3 : AV) (T2 : HT) (n2 : Nat) : R :=
 callK (g104 ro y3 T2 n2) fun x59_14 T3 n3 =>
 condK 950035 x59_14
 (
  callK (g171 ro y0 T3 n3) fun x61_15 T4 n4 =>
  .ok (.val (.lit (.nilIface))) T4 n4
 )
 (
  callK (g105 ro y3 T3 n3) fun x64_16 T5 n5 =>
  condK 950042 x64_16
  (
   .bad 950043
  )
  (
   eqK Tryz.prog 5 (.tmp 68) (.const (.int .u8 (.ofNat 34))) 950045 y3 (.lit (.int .u8 (.ofNat 34))) fun x69_17 =>
   condK 950053 x69_17
   (
    g95_k2 ro y0 y2 (.lit (.bool true)) T5 n5
   )
   (
    eqK Tryz.prog 5 (.tmp 71) (.const (.int .u8 (.ofNat 39))) 950056 y3 (.lit (.int .u8 (.ofNat 39))) fun x72_19 =>
    g95_k2 ro y0 y2 x72_19 T5 n5
   )
  )
 )
noncomputable def g95 (ro : List HT) (a0 : AV) (T : HT) (nx : Nat) : R :=
 ncK 950003 a0 fun x6_1 =>
 faK 950004 x6_1 0 fun x7_2 =>
 ldK 950005 T ro x7_2 fun x8_3 =>
 ncK 950007 a0 fun x10_4 =>
 faK 950008 x10_4 1 fun x11_5 =>
 ldK 950009 T ro x11_5 fun x12_6 =>
 ixK 950010 x8_3 x12_6 fun x13_7 =>
 eqK Tryz.prog 5 (.tmp 15) (.const (.int .u8 (.ofNat 10))) 950013 x13_7 (.lit (.int .u8 (.ofNat 10))) fun x16_8 =>
 condK 950015 x16_8
 (
  .bad 950016
 )
 (
  eqK Tryz.prog 5 (.tmp 33) (.const (.int .u8 (.ofNat 32))) 950018 x13_7 (.lit (.int .u8 (.ofNat 32))) fun x34_9 =>
  condK 950020 x34_9
  (
   fldK 950022 T ro a0 1 fun x38_10 =>
   addK Tryz.prog 3 (.tmp 38) (.const (.int .i64 (.ofNat 1))) 950023 x38_10 (.lit (.int .i64 (.ofNat 1))) fun x39_11 =>
   faK 950024 a0 1 fun x41_12 =>
   stK 950025 T x41_12 x39_11 fun T1 =>
   .ok (.val (.lit (.nilIface))) T1 nx
  )
  (
   eqK Tryz.prog 5 (.tmp 43) (.const (.int .u8 (.ofNat 35))) 950028 x13_7 (.lit (.int .u8 (.ofNat 35))) fun x44_13 =>
   condK 950030 x44_13
   (
    .bad 950031
   )
   (
    fldK 950059 T ro a0 5 fun x50_20 =>
    notK 950060 x50_20 fun x51_21 =>
    condK 950061 x51_21
    (
     callK (g170 ro a0 T nx) fun x53_22 T8 n8 =>
     bin0 Tryz.prog .neq 25 (.tmp 54) (.const (.nilIface)) 950066 x53_22 (.lit (.nilIface)) fun x55_23 =>
     condK 950067 x55_23
     (
      .bad 950068
     )
     (
      g95_k1 ro a0 (.lit (.nilIface)) x13_7 T8 n8
     )
    )
    (
     g95_k1 ro a0 (.lit (.nilIface)) x13_7 T nx
    )
   )
  )
 )
theorem g95_ok (ro : List HT) (a0 : AV) (T : HT) (nx : Nat) : GOk Tryz.prog envE 95 [a0] ro T nx (g95 ro a0 T nx) := by
 refine GOk.of_body Tryz.func95 rfl Tryz.ntmps95 (by kernel_rfl) rfl fun r T' n' h1 w0 base ρ0 its hS hP => ?_
 have X : CtxW envE ρ0 ro r T' n' := trivial
 unfold g95 at h1
 refine sr ?_
 refine as_ ?_
 refine dn ?_
 refine CV.seq ?_
 refine CV.regionM [(0, .anywhere), (1, .anywhere), (2, .anywhere), (3, .held), (4, .anywhere), (5, .anywhere), (6, .anywhere), (7, .held), (8, .held), (9, .held)] rfl (fun c a a' w hd hq => PanicOk.root (P := Tryz.prog) (fn := Tryz.f95) (w0 := w0) (base := base) (E := envE) (ro := ro) (r := r) (T' := T') (n' := n') (ρ0 := ρ0) c a a' w hd hq) (by kernel_rfl) ?_
 refine MV.step0 (i := 0) rfl (VAL.move rfl) rfl rfl rfl ?_
 refine MV.lift0 (i := 1) rfl (V.nc h1 rfl) rfl rfl rfl fun x6_1 h2 => ?_
 refine MV.lift0 (i := 2) rfl (V.fa h2 rfl Spf.fo168_0) rfl rfl rfl fun x7_2 h3 => ?_
 refine MV.lift1 (i := 3) rfl (fun _ z => z) (V.ld hS h3 rfl Spf.one9) rfl rfl rfl [] (by kernel_rfl) fun x8_3 h4 => ?_
 refine MV.step0 (i := 4) rfl (VAL.move rfl) rfl rfl rfl ?_
 refine MV.lift0 (i := 5) rfl (V.nc h4 rfl) rfl rfl rfl fun x10_4 h5 => ?_
 refine MV.lift0 (i := 6) rfl (V.fa h5 rfl Spf.fo168_1) rfl rfl rfl fun x11_5 h6 => ?_
 refine MV.lift1 (i := 7) rfl (fun _ z => z) (V.ld hS h6 rfl Spf.one3) rfl rfl rfl [3] (by kernel_rfl) fun x12_6 h7 => ?_
 refine MV.lift1 (i := 8) rfl (fun _ z => z) (V.ix h7 rfl rfl Spf.st9) rfl rfl rfl [] (by kernel_rfl) fun x13_7 h8 => ?_
 refine MV.step1 (i := 9) rfl (fun _ z => z) (VAL.assign rfl) rfl rfl rfl [] (by kernel_rfl) ?_
 refine mdn ?_
 refine CV.seq ?_
 refine CV.block ?_
 refine sr ?_
 refine mv ?_
 refine vy (V.eq h8 rfl rfl) fun x16_8 h9 => ?_
 refine as_ ?_
 refine dn ?_
 refine CV.cond h9 rfl (fun e h10 => ?_) (fun e h10 => ?_)
 ·
  clear h1 h2 h3 h4 h5 h6 h7 h8 h9
  subst e
  cases h10
 ·
  clear h1 h2 h3 h4 h5 h6 h7 h8 h9
  subst e
  refine sr ?_
  refine mv ?_
  refine vy (V.eq h10 rfl rfl) fun x34_9 h11 => ?_
  refine as_ ?_
  refine dn ?_
  refine CV.cond h11 rfl (fun e h12 => ?_) (fun e h12 => ?_)
  ·
   clear h10 h11
   subst e
   refine sr ?_
   refine mv ?_
   refine fl hS h12 Spf.fo168_1 Spf.one3 fun x38_10 h13 => ?_
   refine vy (V.add h13 rfl rfl) fun x39_11 h14 => ?_
   refine fa2 h14 Spf.fo168_1 fun x41_12 h15 => ?_
   refine LV.st hS h15 rfl rfl rfl Spf.siz3 rfl rfl fun T1 its h16 hS => ?_
   refine dn ?_
   refine sr ?_
   refine as_ ?_
   refine dn ?_
   refine CV.ret ?_
   refine PV.blockR ?_
   refine PV.thenR ?_
   cases h16
   exact PV.ret (by simp) Tryz.results95 hS (RS.tmp rfl RS.nil) rfl
  ·
   clear h10 h11
   subst e
   refine sr ?_
   refine mv ?_
   refine vy (V.eq h12 rfl rfl) fun x44_13 h17 => ?_
   refine as_ ?_
   refine dn ?_
   refine CV.cond h17 rfl (fun e h18 => ?_) (fun e h18 => ?_)
   ·
    clear h12 h17
    subst e
    cases h18
   ·
    clear h12 h17
    subst e
    refine CV.skip ?_
    refine PV.blockN ?_
    refine PV.thenN ?_
    refine cs3 X 0 2 3 [] (g95_k1 ro) ?_ ?_
    ·
     refine sr ?_
     refine mv ?_
     refine fl hS h18 Spf.fo168_5 Spf.one4 fun x50_20 h31 => ?_
     refine vy (V.not h31 rfl) fun x51_21 h32 => ?_
     refine dn ?_
     refine CV.cond h32 rfl (fun e h33 => ?_) (fun e h33 => ?_)
     ·
      clear h18 h31 h32
      subst e
      refine sr ?_
      refine mv ?_
      refine LV.call hS h33 (g170_ok _ _ _ _ ) hP rfl rfl rfl rfl fun x53_22 T8 n8 h34 ρ its hS => ?_
      refine as_ ?_
      refine dn ?_
      refine sr ?_
      refine mv ?_
      refine vy (V.bin0 h34 rfl rfl) fun x55_23 h35 => ?_
      refine dn ?_
      refine CV.cond h35 rfl (fun e h36 => ?_) (fun e h36 => ?_)
      ·
       clear h33 h34 h35
       subst e
       cases h36
      ·
       clear h33 h34 h35
       subst e
       refine CV.skip ?_
       exact pa3 hS h36 ⟨rfl, rfl, rfl, trivial⟩
     ·
      clear h18 h31 h32
      subst e
      refine CV.skip ?_
      exact pa3 hS h33 ⟨rfl, rfl, rfl, trivial⟩
    ·
     intro y0 y2 y3 T2 n2 ρ its hS h19
     unfold g95_k1 at h19
     clear h18
     refine CV.seq ?_
     refine CV.block ?_
     refine sr ?_
     refine mv ?_
     refine LV.call hS h19 (g104_ok _ _ _ _ ) hP rfl rfl rfl rfl fun x59_14 T3 n3 h20 ρ its hS => ?_
     refine as_ ?_
     refine dn ?_
     refine CV.cond h20 rfl (fun e h21 => ?_) (fun e h21 => ?_)
     ·
      clear h19 h20
      subst e
      refine sr ?_
      refine mv ?_
      refine LV.call hS h21 (g171_ok _ _ _ _ ) hP rfl rfl rfl rfl fun x61_15 T4 n4 h22 ρ its hS => ?_
      refine dn ?_
      refine sr ?_
      refine as_ ?_
      refine dn ?_
      refine CV.ret ?_
      refine PV.blockR ?_
      refine PV.thenR ?_
      cases h22
      exact PV.ret (by simp) Tryz.results95 hS (RS.tmp rfl RS.nil) rfl
     ·
      clear h19 h20
      subst e
      refine sr ?_
      refine mv ?_
      refine LV.call hS h21 (g105_ok _ _ _ _ ) hP rfl rfl rfl rfl fun x64_16 T5 n5 h23 ρ its hS => ?_
      refine as_ ?_
      refine dn ?_
      refine CV.cond h23 rfl (fun e h24 => ?_) (fun e h24 => ?_)
      ·
       clear h21 h23
       subst e
       cases h24
      ·
       clear h21 h23
       subst e
       refine sr ?_
       refine mv ?_
       refine vy (V.eq h24 rfl rfl) fun x69_17 h25 => ?_
       refine mv ?_
       refine ls3 X 0 2 73 [] (g95_k2 ro) 3 ?_ ?_
       ·
        rcases condK_inv h25 with ⟨e, h29⟩ | ⟨e, h29⟩
        ·
         clear h24 h25
         subst e
         refine sk ?_
         refine sk ?_
         refine pu ?_
         exact la3 hS h29 ⟨rfl, rfl, rfl, trivial⟩
        ·
         clear h24 h25
         subst e
         refine mv ?_
         refine vy (V.eq h29 rfl rfl) fun x72_19 h30 => ?_
         refine pu ?_
         exact la3 hS h30 ⟨rfl, rfl, rfl, trivial⟩
       ·
        intro y0 y2 y73 T6 n6 ρ its hS h26
        unfold g95_k2 at h26
        clear h24 h25
        refine as_ ?_
        refine dn ?_
        refine CV.cond h26 rfl (fun e h27 => ?_) (fun e h27 => ?_)
        ·
         clear h26
         subst e
         cases h27
        ·
         clear h26
         subst e
         refine CV.skip ?_
         refine PV.blockN ?_
         refine PV.thenN ?_
         refine sr ?_
         refine mv ?_
         refine LV.call hS h27 (g174_ok _ _ _ _ ) hP rfl rfl rfl rfl fun x78_18 T7 n7 h28 ρ its hS => ?_
         refine as_ ?_
         refine dn ?_
         refine CV.ret ?_
         cases h28
         exact PV.ret (by simp) Tryz.results95 hS (RS.tmp rfl RS.nil) rfl
noncomputable def g97_k1 (ro : List HT) (y0 : AV) (T1 : HT) (n1 : Nat) : R :=
 faK 970002 y0 5 fun x14_1 =>
 stK 970003 T1 x14_1 (.lit (.bool false)) fun T2 =>
 .ok (.val (.tup [])) T2 n1
noncomputable def g97 (ro : List HT) (a0 : AV) (T : HT) (nx : Nat) : R :=
 fldK 970005 T ro a0 5 fun x5_2 =>
 condK 970006 x5_2
 (
  fldK 970009 T ro a0 1 fun x10_3 =>
  callK (g98 ro a0 (.lit (.int .i64 (.ofNat 5))) (.lit (.string ⟨⟨[]⟩⟩)) x10_3 T nx) fun x11_4 T3 n3 =>
  g97_k1 ro a0 T3 n3
 )
 (
  g97_k1 ro a0 T nx
 )
theorem g97_ok (ro : List HT) (a0 : AV) (T : HT) (nx : Nat) : GOk Tryz.prog envE 97 [a0] ro T nx (g97 ro a0 T nx) := by
 refine GOk.of_body Tryz.func97 rfl Tryz.ntmps97 (by kernel_rfl) rfl fun r T' n' h1 w0 base ρ0 its hS hP => ?_
 have X : CtxW envE ρ0 ro r T' n' := trivial
 unfold g97 at h1
 refine cs1 X 0 [] (g97_k1 ro) ?_ ?_
 ·
  refine sr ?_
  refine mv ?_
  refine fl hS h1 Spf.fo168_5 Spf.one4 fun x5_2 h5 => ?_
  refine dn ?_
  refine CV.cond h5 rfl (fun e h6 => ?_) (fun e h6 => ?_)
  ·
   clear h1 h5
   subst e
   refine CV.region ?_
   refine mv ?_
   refine mv ?_
   refine fl hS h6 Spf.fo168_1 Spf.one3 fun x10_3 h7 => ?_
   refine LV.call hS h7 (g98_ok _ _ _ _ _ _ _ ) hP rfl rfl rfl rfl fun x11_4 T3 n3 h8 ρ its hS => ?_
   refine LV.done ?_
   exact pa1 hS h8 ⟨rfl, trivial⟩
  ·
   clear h1 h5
   subst e
   refine CV.skip ?_
   exact pa1 hS h6 ⟨rfl, trivial⟩
 ·
  intro y0 T1 n1 ρ its hS h2
  unfold g97_k1 at h2
  clear h1
  refine CV.region ?_
  refine mv ?_
  refine fa2 h2 Spf.fo168_5 fun x14_1 h3 => ?_
  refine LV.st hS h3 rfl rfl rfl Spf.siz4 rfl rfl fun T2 its h4 hS => ?_
  refine LV.done ?_
  cases h4
  exact PV.ret (by simp) Tryz.results97 hS RS.nil rfl
noncomputable def g62_b2 (ro : List HT) (lp2 : AV → AV → AV → AV → AV → HT → Nat → R) (y2 y3 y4 y48 y49 : AV) (T6 : HT) (n6 : Nat) : R :=
 ltK Tryz.prog 3 (.tmp 49) (.tmp 48) 620045 y49 y48 fun x50_22 =>
 condK 620046 x50_22
 (
  fldK 620049 T6 ro y4 0 fun x55_23 =>
  lenTK 620050 x55_23 fun x56_24 =>
  callK (g98 ro y4 (.lit (.int .i64 (.ofNat 7))) (.lit (.string ⟨⟨[]⟩⟩)) x56_24 T6 n6) fun x57_25 T7 n7 =>
  addK Tryz.prog 3 (.tmp 49) (.const (.int .i64 (.ofNat 1))) 620052 y49 (.lit (.int .i64 (.ofNat 1))) fun x58_26 =>
  lp2 y2 y3 y4 y48 x58_26 T7 n7
 )
 (
  fldK 620056 T6 ro y4 0 fun x63_27 =>
  lenTK 620057 x63_27 fun x64_28 =>
  callK (g98 ro y4 (.lit (.int .i64 (.ofNat 8))) (.lit (.string ⟨⟨[]⟩⟩)) x64_28 T6 n6) fun x65_29 T8 n8 =>
  fldK 620060 T8 ro y4 2 fun x69_30 =>
  .ok (.val (.tup [x69_30, (.lit (.nilIface))])) T8 n8
 )
noncomputable def g62_b1 (ro : List HT) (lp1 : AV → AV → AV → HT → Nat → R) (y2 y3 y4 : AV) (T3 : HT) (n3 : Nat) : R :=
 ncK 620015 y4 fun x15_6 =>
 faK 620016 x15_6 1 fun x16_7 =>
 ldK 620017 T3 ro x16_7 fun x17_8 =>
 ncK 620019 y4 fun x19_9 =>
 faK 620020 x19_9 0 fun x20_10 =>
 ldK 620021 T3 ro x20_10 fun x21_11 =>
 lenTK 620022 x21_11 fun x22_12 =>
 ltK Tryz.prog 3 (.tmp 17) (.tmp 22) 620023 x17_8 x22_12 fun x23_13 =>
 condK 620024 x23_13
 (
  callK (g95 ro y4 T3 n3) fun x25_14 T4 n4 =>
  bin0 Tryz.prog .neq 25 (.tmp 26) (.const (.nilIface)) 620029 x25_14 (.lit (.nilIface)) fun x27_15 =>
  condK 620030 x27_15
  (
   .bad 620031
  )
  (
   lp1 y2 y3 y4 T4 n4
  )
 )
 (
  fldK 620033 T3 ro y4 4 fun x32_16 =>
  lenSK 620034 x32_16 fun x33_17 =>
  gtK Tryz.prog 3 (.tmp 33) (.const (.int .i64 (.ofNat 0))) 620035 x33_17 (.lit (.int .i64 (.ofNat 0))) fun x34_18 =>
  condK 620036 x34_18
  (
   .bad 620037
  )
  (
   callK (g97 ro y4 T3 n3) fun x42_19 T5 n5 =>
   fldK 620041 T5 ro y4 3 fun x46_20 =>
   cutLenK 620042 T5 ro x46_20 (.lit (.int .i64 (.ofNat 1))) fun x48_21 =>
   lpf5 620044 (g62_b2 ro) 100000 y2 y3 y4 x48_21 (.lit (.int .i64 (.ofNat 0))) T5 n5
  )
 )
noncomputable def g62 (ro : List HT) (a0 : AV) (T : HT) (nx : Nat) : R :=
 lenTK 620004 a0 fun x7_1 =>
 gtK Tryz.prog 3 (.tmp 7) (.const (.int .i64 (.ofNat 65536))) 620005 x7_1 (.lit (.int .i64 (.ofNat 65536))) fun x8_2 =>
 condK 620006 x8_2
 (
  .bad 620007
 )
 (
  bsK 620009 T nx 1 3 1 [(0, (.lit (.int .i64 (.ofNat 0))))] fun x11_3 T1 n1 =>
  optK 620010 (bld168 [(0, a0), (3, x11_3)]) fun x12_4 =>
  boxK 620011 T1 n1 x12_4 168 fun x13_5 T2 n2 =>
  lpf3 620013 (g62_b1 ro) 100000 (.lit (.slice none 0 0)) (.lit (.nilIface)) x13_5 T2 n2
 )
theorem g62_ok (ro : List HT) (a0 : AV) (T : HT) (nx : Nat) : GOk Tryz.prog envE 62 [a0] ro T nx (g62 ro a0 T nx) := by
 refine GOk.of_body Tryz.func62 rfl Tryz.ntmps62 (by kernel_rfl) rfl fun r T' n' h1 w0 base ρ0 its hS hP => ?_
 have X : CtxW envE ρ0 ro r T' n' := trivial
 unfold g62 at h1
 refine sr ?_
 refine as_ ?_
 refine as_ ?_
 refine dn ?_
 refine CV.seq ?_
 refine sr ?_
 refine mv ?_
 refine vy (V.lenT h1 rfl Spf.ls9) fun x7_1 h2 => ?_
 refine vy (V.gt h2 rfl rfl) fun x8_2 h3 => ?_
 refine dn ?_
 refine CV.cond h3 rfl (fun e h4 => ?_) (fun e h4 => ?_)
 ·
  clear h1 h2 h3
  subst e
  cases h4
 ·
  clear h1 h2 h3
  subst e
  refine CV.skip ?_
  refine PV.thenN ?_
  refine sr ?_
  refine mv ?_
  refine LV.bslice hS h4 rfl rfl Spf.el30 rfl rfl rfl rfl fun x11_3 T1 n1 h5 ρ its hS hdr => ?_
  refine vy (V.bld h5 rfl) fun x12_4 h6 => ?_
  refine LV.box hS h6 rfl rfl rfl rfl rfl fun x13_5 T2 n2 h7 ρ its hS hdr => ?_
  refine as_ ?_
  refine dn ?_
  refine CV.seq ?_
  refine CV.block ?_
  refine cl3 X 2 3 4 [] hS h7 ⟨rfl, rfl, rfl, trivial⟩ ?_
  intro f1 y2 y3 y4 T3 n3 ρ its hS h8
  unfold g62_b1 at h8
  clear h4 h5 h6 h7
  refine CV.seq ?_
  refine CV.seq ?_
  refine CV.regionM [(0, .anywhere), (1, .anywhere), (2, .anywhere), (3, .held), (4, .anywhere), (5, .anywhere), (6, .anywhere), (7, .held), (8, .held), (9, .held)] rfl (fun c a a' w hd hq => PanicOk.root (P := Tryz.prog) (fn := Tryz.f62) (w0 := w0) (base := base) (E := envE) (ro := ro) (r := r) (T' := T') (n' := n') (ρ0 := ρ0) c a a' w hd hq) (by kernel_rfl) ?_
  refine MV.step0 (i := 0) rfl (VAL.move rfl) rfl rfl rfl ?_
  refine MV.lift0 (i := 1) rfl (V.nc h8 rfl) rfl rfl rfl fun x15_6 h9 => ?_
  refine MV.lift0 (i := 2) rfl (V.fa h9 rfl Spf.fo168_1) rfl rfl rfl fun x16_7 h10 => ?_
  refine MV.lift1 (i := 3) rfl (fun _ z => z) (V.ld hS h10 rfl Spf.one3) rfl rfl rfl [] (by kernel_rfl) fun x17_8 h11 => ?_
  refine MV.step0 (i := 4) rfl (VAL.move rfl) rfl rfl rfl ?_
  refine MV.lift0 (i := 5) rfl (V.nc h11 rfl) rfl rfl rfl fun x19_9 h12 => ?_
  refine MV.lift0 (i := 6) rfl (V.fa h12 rfl Spf.fo168_0) rfl rfl rfl fun x20_10 h13 => ?_
  refine MV.lift1 (i := 7) rfl (fun _ z => z) (V.ld hS h13 rfl Spf.one9) rfl rfl rfl [3] (by kernel_rfl) fun x21_11 h14 => ?_
  refine MV.lift1 (i := 8) rfl (fun _ z => z) (V.lenT h14 rfl Spf.ls9) rfl rfl rfl [3] (by kernel_rfl) fun x22_12 h15 => ?_
  refine MV.lift1 (i := 9) rfl (fun _ z => z) (V.lt h15 rfl rfl) rfl rfl rfl [] (by kernel_rfl) fun x23_13 h16 => ?_
  refine mdn ?_
  refine CV.cond h16 rfl (fun e h17 => ?_) (fun e h17 => ?_)
  ·
   clear h8 h9 h10 h11 h12 h13 h14 h15 h16
   subst e
   refine CV.skip ?_
   refine PV.thenN ?_
   refine CV.block ?_
   refine sr ?_
   refine mv ?_
   refine LV.call hS h17 (g95_ok _ _ _ _ ) hP rfl rfl rfl rfl fun x25_14 T4 n4 h18 ρ its hS => ?_
   refine as_ ?_
   refine dn ?_
   refine sr ?_
   refine mv ?_
   refine vy (V.bin0 h18 rfl rfl) fun x27_15 h19 => ?_
   refine dn ?_
   refine CV.cond h19 rfl (fun e h20 => ?_) (fun e h20 => ?_)
   ·
    clear h17 h18 h19
    subst e
    cases h20
   ·
    clear h17 h18 h19
    subst e
    refine CV.skip ?_
    refine PV.blockN ?_
    exact pb3 hS h20 ⟨rfl, rfl, rfl, trivial⟩
  ·
   clear h8 h9 h10 h11 h12 h13 h14 h15 h16
   subst e
   refine CV.exit ?_
   refine PV.thenE ?_
   refine PV.thenE ?_
   refine PV.blockE ?_
   refine PV.thenN ?_
   refine CV.seq ?_
   refine sr ?_
   refine mv ?_
   refine fl hS h17 Spf.fo168_4 Spf.one88 fun x32_16 h21 => ?_
   refine vy (V.lenS h21 rfl Spf.ls88) fun x33_17 h22 => ?_
   refine vy (V.gt h22 rfl rfl) fun x34_18 h23 => ?_
   refine dn ?_
   refine CV.cond h23 rfl (fun e h24 => ?_) (fun e h24 => ?_)
   ·
    clear h17 h21 h22 h23
    subst e
    cases h24
   ·
    clear h17 h21 h22 h23
    subst e
    refine CV.skip ?_
    refine PV.thenN ?_
    refine sr ?_
    refine mv ?_
    refine LV.call hS h24 (g97_ok _ _ _ _ ) hP rfl rfl rfl rfl fun x42_19 T5 n5 h25 ρ its hS => ?_
    refine dn ?_
    refine CV.seq ?_
    refine sr ?_
    refine mv ?_
    refine fl hS h25 Spf.fo168_3 Spf.one30 fun x46_20 h26 => ?_
    refine LV.cutLen hS h26 rfl rfl rfl Spf.el30 rfl rfl rfl rfl rfl Spf.ls30 rfl rfl rfl fun x48_21 h27 => ?_
    refine mv ?_
    refine dn ?_
    refine CV.block ?_
    refine cl5 X 2 3 4 48 49 [] hS h27 ⟨rfl, rfl, rfl, rfl, rfl, trivial⟩ ?_
    intro f2 y2 y3 y4 y48 y49 T6 n6 ρ its hS h28
    unfold g62_b2 at h28
    clear h24 h25 h26 h27
    refine sr ?_
    refine vy (V.lt h28 rfl rfl) fun x50_22 h29 => ?_
    refine dn ?_
    refine CV.seq ?_
    refine CV.cond h29 rfl (fun e h30 => ?_) (fun e h30 => ?_)
    ·
     clear h28 h29
     subst e
     refine CV.skip ?_
     refine PV.thenN ?_
     refine CV.seq ?_
     refine CV.block ?_
     refine CV.region ?_
     refine mv ?_
     refine mv ?_
     refine fl hS h30 Spf.fo168_0 Spf.one9 fun x55_23 h31 => ?_
     refine vy (V.lenT h31 rfl Spf.ls9) fun x56_24 h32 => ?_
     refine LV.call hS h32 (g98_ok _ _ _ _ _ _ _ ) hP rfl rfl rfl rfl fun x57_25 T7 n7 h33 ρ its hS => ?_
     refine LV.done ?_
     refine PV.blockN ?_
     refine PV.thenN ?_
     refine CV.region ?_
     refine vy (V.add h33 rfl rfl) fun x58_26 h34 => ?_
     refine mv ?_
     refine LV.done ?_
     exact pb5 hS h34 ⟨rfl, rfl, rfl, rfl, rfl, trivial⟩
    ·
     clear h28 h29
     subst e
     refine CV.exit ?_
     refine PV.thenE ?_
     refine PV.thenE ?_
     refine PV.blockE ?_
     refine PV.thenN ?_
     refine sr ?_
     refine mv ?_
     refine mv ?_
     refine fl hS h30 Spf.fo168_0 Spf.one9 fun x63_27 h35 => ?_
     refine vy (V.lenT h35 rfl Spf.ls9) fun x64_28 h36 => ?_
     refine LV.call hS h36 (g98_ok _ _ _ _ _ _ _ ) hP rfl rfl rfl rfl fun x65_29 T8 n8 h37 ρ its hS => ?_
     refine dn ?_
     refine sr ?_
     refine mv ?_
     refine fl hS h37 Spf.fo168_2 Spf.one96 fun x69_30 h38 => ?_
     refine as_ ?_
     refine as_ ?_
     refine dn ?_
     refine CV.ret ?_
     cases h38
     exact PV.ret (by simp) Tryz.results62 hS (RS.tmp rfl (RS.tmp rfl RS.nil)) rfl
noncomputable def g63_k1 (ro : List HT) (y4 y16 : AV) (T3 : HT) (n3 : Nat) : R :=
 condK 630012 y16
 (
  .bad 630013
 )
 (
  condK 630015 y4
  (
   .bad 630016
  )
  (
   .ok (.val (.lit undef)) T3 n3
  )
 )
noncomputable def gd63 (ro : List HT) (pv : AV) (a0 a1 : AV) (T : HT) (nx : Nat) : R :=
 asK 630002 pv 123 (.tup [.lit (.agg #[.pointer none]), .lit (.bool false)]) fun x8_1 =>
 exK 630004 x8_1 0 fun x9_2 =>
 exK 630005 x8_1 1 fun x10_3 =>
 newK T nx (.obj [.lit (.pointer none)] 123) fun x3_4 T1 n1 =>
 stAK 630007 T1 x3_4 x9_2 1 fun T2 =>
 bin0 Tryz.prog .neq 20 (.tmp 11) (.const (.nilIface)) 630010 pv (.lit (.nilIface)) fun x12_5 =>
 condK 630017 x12_5
 (
  notK 630019 x10_3 fun x15_6 =>
  g63_k1 ro x10_3 x15_6 T2 n1
 )
 (
  g63_k1 ro x10_3 (.lit (.bool false)) T2 n1
 )
theorem gd63_ok (ro : List HT) (pv : AV) (a0 a1 : AV) (T : HT) (nx : Nat) : GDk Tryz.prog envE 63 [a0, a1] ro T nx pv (gd63 ro pv a0 a1 T nx) := by
 refine GDk.of_body Tryz.func63 rfl Tryz.ntmps63 Tryz.results63 rfl rfl rfl rfl fun r T' n' h1 w0 base ρ0 its hS hP => ?_
 have X : CtxW envE ρ0 ro (.val r) T' n' := trivial
 unfold gd63 at h1
 refine sr ?_
 refine mv ?_
 refine vy (V.as h1 rfl Spf.ni123 Spf.za123) fun x8_1 h2 => ?_
 refine mv ?_
 refine vy (V.ex h2 rfl) fun x9_2 h3 => ?_
 refine vy (V.ex h3 rfl) fun x10_3 h4 => ?_
 refine LV.alloc hS h4 rfl Spf.zr123 rfl rfl rfl fun x3_4 T1 n1 h5 ρ its hS hdr => ?_
 refine LV.stA hS h5 rfl rfl rfl Spf.agg123 rfl rfl rfl fun T2 its h6 hS => ?_
 refine as_ ?_
 refine dn ?_
 refine CV.seq ?_
 refine sr ?_
 refine mv ?_
 refine vy (V.bin0 h6 rfl rfl) fun x12_5 h7 => ?_
 refine mv ?_
 refine ls2 X 4 16 [] (g63_k1 ro) 3 ?_ ?_
 ·
  rcases condK_inv h7 with ⟨e, h11⟩ | ⟨e, h11⟩
  ·
   clear h1 h2 h3 h4 h5 h6 h7
   subst e
   refine mv ?_
   refine vy (V.not h11 rfl) fun x15_6 h12 => ?_
   refine pu ?_
   exact la2 hS h12 ⟨rfl, rfl, trivial⟩
  ·
   clear h1 h2 h3 h4 h5 h6 h7
   subst e
   refine sk ?_
   refine sk ?_
   refine pu ?_
   exact la2 hS h11 ⟨rfl, rfl, trivial⟩
 ·
  intro y4 y16 T3 n3 ρ its hS h8
  unfold g63_k1 at h8
  clear h1 h2 h3 h4 h5 h6 h7
  refine dn ?_
  refine CV.cond h8 rfl (fun e h9 => ?_) (fun e h9 => ?_)
  ·
   clear h8
   subst e
   cases h9
  ·
   clear h8
   subst e
   refine CV.skip ?_
   refine PV.thenN ?_
   refine sr ?_
   refine mv ?_
   refine dn ?_
   refine CV.cond h9 rfl (fun e h10 => ?_) (fun e h10 => ?_)
   ·
    clear h9
    subst e
    cases h10
   ·
    clear h9
    subst e
    refine CV.skip ?_
    cases h10
    exact PV.dend hS
noncomputable def g33 (ro : List HT) (a0 a1 : AV) (T : HT) (nx : Nat) : R :=
 newK T nx (.obj [.lit (.slice none 0 0)] 23) fun x4_1 T1 n1 =>
 newK T1 n1 (.obj [.lit (.nilIface)] 25) fun x5_2 T2 n2 =>
 callK (g62 ro a0 T2 n2) fun x10_3 T3 n3 =>
 exK 330006 x10_3 0 fun x11_4 =>
 exK 330007 x10_3 1 fun x12_5 =>
 stK 330009 T3 x5_2 x12_5 fun T4 =>
 ldK 330010 T4 ro x5_2 fun x13_6 =>
 bin0 Tryz.prog .neq 25 (.tmp 13) (.const (.nilIface)) 330011 x13_6 (.lit (.nilIface)) fun x14_7 =>
 condK 330012 x14_7
 (
  .bad 330013
 )
 (
  optK 330015 (bld98 [(0, x11_4)]) fun x17_8 =>
  boxK 330016 T4 n3 x17_8 98 fun x18_9 T5 n5 =>
  dynK 330022 a1 fun f p q => callPK 330022 (scc1 4000 f ro (p ++ ([x18_9] ++ q)) T5 n5) (fun pv t m => leaveK 330022 (gd63 ro pv x4_1 x5_2 t m) fun T6 n6 =>
   ldK 330023 T6 ro x4_1 fun x4_10 =>
   ldK 330024 T6 ro x5_2 fun x5_11 =>
   .ok (.val (.tup [x4_10, x5_11])) T6 n6
  ) fun x22_12 T7 n7 =>
  fldK 330026 T7 ro x18_9 2 fun x26_13 =>
  stK 330027 T7 x4_1 x26_13 fun T8 =>
  stK 330028 T8 x5_2 (.lit (.nilIface)) fun T9 =>
  leaveK 330029 (gd63 ro (.lit .nilIface) x4_1 x5_2 T9 n7) fun T10 n10 =>
  ldK 330030 T10 ro x4_1 fun x4_14 =>
  ldK 330031 T10 ro x5_2 fun x5_15 =>
  .ok (.val (.tup [x4_14, x5_15])) T10 n10
 )
theorem g33_ok (ro : List HT) (a0 a1 : AV) (T : HT) (nx : Nat) : GOk Tryz.prog envE 33 [a0, a1] ro T nx (g33 ro a0 a1 T nx) := by
 refine GOk.of_bodyD Tryz.func33 rfl Tryz.ntmps33 (by kernel_rfl) rfl fun r T' n' h1 w0 base ρ0 its hS hP => ?_
 have X : CtxW envE ρ0 ro r T' n' := trivial
 unfold g33 at h1
 refine sr ?_
 refine LV.alloc hS h1 rfl Spf.zr23 rfl rfl rfl fun x4_1 T1 n1 h2 ρ its hS hdr => ?_
 refine LV.alloc hS h2 rfl Spf.zr25 rfl rfl rfl fun x5_2 T2 n2 h3 ρ its hS hdr => ?_
 refine dn ?_
 refine sr ?_
 refine mv ?_
 refine LV.call hS h3 (g62_ok _ _ _ _ ) hP rfl rfl rfl rfl fun x10_3 T3 n3 h4 ρ its hS => ?_
 refine mv ?_
 refine vy (V.ex h4 rfl) fun x11_4 h5 => ?_
 refine vy (V.ex h5 rfl) fun x12_5 h6 => ?_
 refine as_ ?_
 refine LV.st hS h6 rfl rfl rfl Spf.siz25 rfl rfl fun T4 its h7 hS => ?_
 refine dn ?_
 refine CV.seq ?_
 refine sr ?_
 refine vy (V.ld hS h7 rfl Spf.one25) fun x13_6 h8 => ?_
 refine vy (V.bin0 h8 rfl rfl) fun x14_7 h9 => ?_
 refine dn ?_
 refine CV.cond h9 rfl (fun e h10 => ?_) (fun e h10 => ?_)
 ·
  clear h1 h2 h3 h4 h5 h6 h7 h8 h9
  subst e
  cases h10
 ·
  clear h1 h2 h3 h4 h5 h6 h7 h8 h9
  subst e
  refine CV.skip ?_
  refine PV.thenN ?_
  refine sr ?_
  refine mv ?_
  refine vy (V.bld h10 rfl) fun x17_8 h11 => ?_
  refine LV.box hS h11 rfl rfl rfl rfl rfl fun x18_9 T5 n5 h12 ρ its hS hdr => ?_
  refine as_ ?_
  refine dn ?_
  refine sr ?_
  refine pu ?_
  refine LV.defer rfl rfl rfl rfl rfl rfl fun us hys => ?_
  refine dn ?_
  refine sr ?_
  refine mv ?_
  refine mv ?_
  refine LV.callDP (fn := Tryz.f33) (kf := 63) (Xp := fun pv t m => gd63 ro pv x4_1 x5_2 t m) (G := fun f gs => scc1 4000 f ro gs T5 n5) (qs := [x18_9]) hS h12 (fun f gs => scc1_ok _ _ _ _ _ _) (fun pv t m => gd63_ok _ _ _ _ _ _ ) Spf.en63 hys (fun ch a w z => z) rfl rfl rfl rfl rfl rfl rfl (fun T6 n6 h13 ρ its hS => ?_) (fun x22_12 T7 n7 h16 ρ its hE hS => ?_)
  ·
   refine PV.ld (x := .tmp 4) (t := 23) hS h13 rfl Spf.one23 fun x4_10 h14 hVx4_10 => ?_
   refine PV.ld (x := .tmp 5) (t := 25) hS h14 rfl Spf.one25 fun x5_11 h15 hVx5_11 => ?_
   cases h15
   exact PV.ret (by simp) Tryz.results33 hS (RS.cell hVx4_10 (RS.cell hVx5_11 RS.nil)) rfl
  have hys := instL_ext hE _ _ hys
  refine dn ?_
  refine sr ?_
  refine mv ?_
  refine fl hS h16 Spf.fo98_2 Spf.one23 fun x26_13 h17 => ?_
  refine LV.st hS h17 rfl rfl rfl Spf.siz23 rfl rfl fun T8 its h18 hS => ?_
  refine LV.st hS h18 rfl rfl rfl Spf.siz25 rfl rfl fun T9 its h19 hS => ?_
  refine dn ?_
  refine CV.ret ?_
  refine PV.leaveR (by simp) hS hys h19 (gd63_ok _ _ _ _ _ _ ) Spf.en63 fun T10 n10 h20 ρ its hS => ?_
  refine PV.ld (x := .tmp 4) (t := 23) hS h20 rfl Spf.one23 fun x4_14 h21 hVx4_14 => ?_
  refine PV.ld (x := .tmp 5) (t := 25) hS h21 rfl Spf.one25 fun x5_15 h22 hVx5_15 => ?_
  cases h22
  exact PV.ret (by simp) Tryz.results33 hS (RS.cell hVx4_14 (RS.cell hVx5_15 RS.nil)) rfl
noncomputable def g20 (ro : List HT) (a0 : AV) (T : HT) (nx : Nat) : R :=
 callK (g33 ro a0 (.lit (.func (.func 48) #[] #[])) T nx) fun x5_1 T1 n1 =>
 exK 200005 x5_1 0 fun x6_2 =>
 exK 200006 x5_1 1 fun x7_3 =>
 .ok (.val (.tup [x6_2, x7_3])) T1 n1
theorem g20_ok (ro : List HT) (a0 : AV) (T : HT) (nx : Nat) : GOk Tryz.prog envE 20 [a0] ro T nx (g20 ro a0 T nx) := by
 refine GOk.of_body Tryz.func20 rfl Tryz.ntmps20 (by kernel_rfl) rfl fun r T' n' h1 w0 base ρ0 its hS hP => ?_
 have X : CtxW envE ρ0 ro r T' n' := trivial
 unfold g20 at h1
 refine sr ?_
 refine as_ ?_
 refine as_ ?_
 refine dn ?_
 refine sr ?_
 refine mv ?_
 refine LV.call hS h1 (g33_ok _ _ _ _ _ ) hP rfl rfl rfl rfl fun x5_1 T1 n1 h2 ρ its hS => ?_
 refine vy (V.ex h2 rfl) fun x6_2 h3 => ?_
 refine vy (V.ex h3 rfl) fun x7_3 h4 => ?_
 refine as_ ?_
 refine as_ ?_
 refine dn ?_
 refine CV.ret ?_
 cases h4
 exact PV.ret (by simp) Tryz.results20 hS (RS.tmp rfl (RS.tmp rfl RS.nil)) rfl
noncomputable def g18_k5 (ro : List HT) (y48 : AV) (T9 : HT) (n9 : Nat) : R :=
 .ok (.val y48) T9 n9
noncomputable def g18_k4 (ro : List HT) (y7 y44 : AV) (T8 : HT) (n8 : Nat) : R :=
 condK 180036 y44
 (
  eqSK Tryz.prog 9 (.tmp 46) (.const (.string ⟨⟨[97, 32, 45, 32, 40, 98, 32, 45, 32, 99, 41]⟩⟩)) 180038 y7 (.lit (.string ⟨⟨[97, 32, 45, 32, 40, 98, 32, 45, 32, 99, 41]⟩⟩)) fun x47_14 =>
  g18_k5 ro x47_14 T8 n8
 )
 (
  g18_k5 ro (.lit (.bool false)) T8 n8
 )
noncomputable def g18_k3 (ro : List HT) (y5 y7 y40 : AV) (T7 : HT) (n7 : Nat) : R :=
 condK 180041 y40
 (
  eqSK Tryz.prog 9 (.tmp 42) (.const (.string ⟨⟨[97, 32, 45, 32, 98, 32, 45, 32, 99]⟩⟩)) 180043 y5 (.lit (.string ⟨⟨[97, 32, 45, 32, 98, 32, 45, 32, 99]⟩⟩)) fun x43_15 =>
  g18_k4 ro y7 x43_15 T7 n7
 )
 (
  g18_k4 ro y7 (.lit (.bool false)) T7 n7
 )
noncomputable def g18_k2 (ro : List HT) (y5 y7 y8 y36 : AV) (T6 : HT) (n6 : Nat) : R :=
 condK 180046 y36
 (
  bin0 Tryz.prog .eql 25 (.tmp 38) (.const (.nilIface)) 180048 y8 (.lit (.nilIface)) fun x39_16 =>
  g18_k3 ro y5 y7 x39_16 T6 n6
 )
 (
  g18_k3 ro y5 y7 (.lit (.bool false)) T6 n6
 )
noncomputable def g18_k1 (ro : List HT) (y5 y6 y7 y8 y32 : AV) (T5 : HT) (n5 : Nat) : R :=
 condK 180051 y32
 (
  bin0 Tryz.prog .eql 25 (.tmp 34) (.const (.nilIface)) 180053 y6 (.lit (.nilIface)) fun x35_17 =>
  g18_k2 ro y5 y7 y8 x35_17 T5 n5
 )
 (
  g18_k2 ro y5 y7 y8 (.lit (.bool false)) T5 n5
 )
noncomputable def g18 (ro : List HT) (T : HT) (nx : Nat) : R :=
 callK (g20 ro (.lit (.string ⟨⟨[40, 97, 32, 45, 32, 98, 41, 32, 45, 32, 99]⟩⟩)) T nx) fun x10_1 T1 n1 =>
 exK 180004 x10_1 0 fun x11_2 =>
 exK 180005 x10_1 1 fun x12_3 =>
 callK (g20 ro (.lit (.string ⟨⟨[97, 32, 45, 32, 40, 98, 32, 45, 32, 99, 41]⟩⟩)) T1 n1) fun x14_4 T2 n2 =>
 exK 180010 x14_4 0 fun x15_5 =>
 exK 180011 x14_4 1 fun x16_6 =>
 callK (g19 ro x11_2 T2 n2) fun x19_7 T3 n3 =>
 exK 180017 x19_7 0 fun x20_8 =>
 exK 180018 x19_7 1 fun x21_9 =>
 callK (g19 ro x15_5 T3 n3) fun x24_10 T4 n4 =>
 exK 180024 x24_10 0 fun x25_11 =>
 exK 180025 x24_10 1 fun x26_12 =>
 bin0 Tryz.prog .eql 25 (.tmp 27) (.const (.nilIface)) 180029 x12_3 (.lit (.nilIface)) fun x28_13 =>
 condK 180056 x28_13
 (
  bin0 Tryz.prog .eql 25 (.tmp 30) (.const (.nilIface)) 180058 x16_6 (.lit (.nilIface)) fun x31_18 =>
  g18_k1 ro x20_8 x21_9 x25_11 x26_12 x31_18 T4 n4
 )
 (
  g18_k1 ro x20_8 x21_9 x25_11 x26_12 (.lit (.bool false)) T4 n4
 )
theorem g18_ok (ro : List HT) (T : HT) (nx : Nat) : GOk Tryz.prog envE 18 [] ro T nx (g18 ro T nx) := by
 refine GOk.of_body Tryz.func18 rfl Tryz.ntmps18 (by kernel_rfl) rfl fun r T' n' h1 w0 base ρ0 its hS hP => ?_
 have X : CtxW envE ρ0 ro r T' n' := trivial
 unfold g18 at h1
 refine sr ?_
 refine as_ ?_
 refine dn ?_
 refine sr ?_
 refine LV.call hS h1 (g20_ok _ _ _ _ ) hP rfl rfl rfl rfl fun x10_1 T1 n1 h2 ρ its hS => ?_
 refine mv ?_
 refine vy (V.ex h2 rfl) fun x11_2 h3 => ?_
 refine vy (V.ex h3 rfl) fun x12_3 h4 => ?_
 refine as_ ?_
 refine as_ ?_
 refine dn ?_
 refine sr ?_
 refine LV.call hS h4 (g20_ok _ _ _ _ ) hP rfl rfl rfl rfl fun x14_4 T2 n2 h5 ρ its hS => ?_
 refine mv ?_
 refine vy (V.ex h5 rfl) fun x15_5 h6 => ?_
 refine vy (V.ex h6 rfl) fun x16_6 h7 => ?_
 refine as_ ?_
 refine as_ ?_
 refine dn ?_
 refine sr ?_
 refine mv ?_
 refine LV.call hS h7 (g19_ok _ _ _ _ ) hP rfl rfl rfl rfl fun x19_7 T3 n3 h8 ρ its hS => ?_
 refine mv ?_
 refine vy (V.ex h8 rfl) fun x20_8 h9 => ?_
 refine vy (V.ex h9 rfl) fun x21_9 h10 => ?_
 refine as_ ?_
 refine as_ ?_
 refine dn ?_
 refine sr ?_
 refine mv ?_
 refine LV.call hS h10 (g19_ok _ _ _ _ ) hP rfl rfl rfl rfl fun x24_10 T4 n4 h11 ρ its hS => ?_
 refine mv ?_
 refine vy (V.ex h11 rfl) fun x25_11 h12 => ?_
 refine vy (V.ex h12 rfl) fun x26_12 h13 => ?_
 refine as_ ?_
 refine as_ ?_
 refine dn ?_
 refine sr ?_
 refine mv ?_
 refine vy (V.bin0 h13 rfl rfl) fun x28_13 h14 => ?_
 refine mv ?_
 refine ls5 X 5 6 7 8 32 [(0, (.lit (.bool false)))] (g18_k1 ro) 3 ?_ ?_
 ·
  rcases condK_inv h14 with ⟨e, h28⟩ | ⟨e, h28⟩
  ·
   clear h1 h2 h3 h4 h5 h6 h7 h8 h9 h10 h11 h12 h13 h14
   subst e
   refine mv ?_
   refine vy (V.bin0 h28 rfl rfl) fun x31_18 h29 => ?_
   refine pu ?_
   exact la5 hS h29 ⟨rfl, rfl, rfl, rfl, rfl, rfl, trivial⟩
  ·
   clear h1 h2 h3 h4 h5 h6 h7 h8 h9 h10 h11 h12 h13 h14
   subst e
   refine sk ?_
   refine sk ?_
   refine pu ?_
   exact la5 hS h28 ⟨rfl, rfl, rfl, rfl, rfl, rfl, trivial⟩
 ·
  intro y5 y6 y7 y8 y32 T5 n5 ρ its hS h15
  unfold g18_k1 at h15
  clear h1 h2 h3 h4 h5 h6 h7 h8 h9 h10 h11 h12 h13 h14
  refine mv ?_
  refine ls4 X 5 7 8 36 [(0, (.lit (.bool false)))] (g18_k2 ro) 3 ?_ ?_
  ·
   rcases condK_inv h15 with ⟨e, h26⟩ | ⟨e, h26⟩
   ·
    clear h15
    subst e
    refine mv ?_
    refine vy (V.bin0 h26 rfl rfl) fun x35_17 h27 => ?_
    refine pu ?_
    exact la4 hS h27 ⟨rfl, rfl, rfl, rfl, rfl, trivial⟩
   ·
    clear h15
    subst e
    refine sk ?_
    refine sk ?_
    refine pu ?_
    exact la4 hS h26 ⟨rfl, rfl, rfl, rfl, rfl, trivial⟩
  ·
   intro y5 y7 y8 y36 T6 n6 ρ its hS h16
   unfold g18_k2 at h16
   clear h15
   refine mv ?_
   refine ls3 X 5 7 40 [(0, (.lit (.bool false)))] (g18_k3 ro) 3 ?_ ?_
   ·
    rcases condK_inv h16 with ⟨e, h24⟩ | ⟨e, h24⟩
    ·
     clear h16
     subst e
     refine mv ?_
     refine vy (V.bin0 h24 rfl rfl) fun x39_16 h25 => ?_
     refine pu ?_
     exact la3 hS h25 ⟨rfl, rfl, rfl, rfl, trivial⟩
    ·
     clear h16
     subst e
     refine sk ?_
     refine sk ?_
     refine pu ?_
     exact la3 hS h24 ⟨rfl, rfl, rfl, rfl, trivial⟩
   ·
    intro y5 y7 y40 T7 n7 ρ its hS h17
    unfold g18_k3 at h17
    clear h16
    refine mv ?_
    refine ls2 X 7 44 [(0, (.lit (.bool false)))] (g18_k4 ro) 3 ?_ ?_
    ·
     rcases condK_inv h17 with ⟨e, h22⟩ | ⟨e, h22⟩
     ·
      clear h17
      subst e
      refine mv ?_
      refine vy (V.eqS h22 rfl rfl) fun x43_15 h23 => ?_
      refine pu ?_
      exact la2 hS h23 ⟨rfl, rfl, rfl, trivial⟩
     ·
      clear h17
      subst e
      refine sk ?_
      refine sk ?_
      refine pu ?_
      exact la2 hS h22 ⟨rfl, rfl, rfl, trivial⟩
    ·
     intro y7 y44 T8 n8 ρ its hS h18
     unfold g18_k4 at h18
     clear h17
     refine mv ?_
     refine ls1 X 48 [(0, (.lit (.bool false)))] (g18_k5 ro) 3 ?_ ?_
     ·
      rcases condK_inv h18 with ⟨e, h20⟩ | ⟨e, h20⟩
      ·
       clear h18
       subst e
       refine mv ?_
       refine vy (V.eqS h20 rfl rfl) fun x47_14 h21 => ?_
       refine pu ?_
       exact la1 hS h21 ⟨rfl, rfl, trivial⟩
      ·
       clear h18
       subst e
       refine sk ?_
       refine sk ?_
       refine pu ?_
       exact la1 hS h20 ⟨rfl, rfl, trivial⟩
     ·
      intro y48 T9 n9 ρ its hS h19
      unfold g18_k5 at h19
      clear h18
      refine as_ ?_
      refine dn ?_
      refine CV.ret ?_
      cases h19
      exact PV.ret (by simp) Tryz.results18 hS (RS.tmp rfl RS.nil) rfl
noncomputable def g52_k2 (ro : List HT) (y2 y34 : AV) (T6 : HT) (n6 : Nat) : R :=
 .ok (.val y34) T6 n6
noncomputable def g52_b1 (ro : List HT) (lp1 : AV → AV → AV → AV → AV → AV → HT → Nat → R) (y0 y2 y3 y9 y10 y11 : AV) (T2 : HT) (n2 : Nat) : R :=
 ltK Tryz.prog 3 (.tmp 11) (.tmp 10) 520010 y11 y10 fun x12_4 =>
 condK 520011 x12_4
 (
  iaK 520013 y9 y11 5 fun x14_5 =>
  ldAK 520014 T2 ro x14_5 5 fun x15_6 =>
  newK T2 n2 (.obj [.lit (.int .i64 0), .lit (.int .i64 0), .lit (.int .i64 0), .lit (.string ⟨#[]⟩), .lit (.slice none 0 0)] 32) fun x5_7 T3 n3 =>
  stAK 520017 T3 x5_7 x15_6 5 fun T4 =>
  faK 520018 x5_7 4 fun x16_8 =>
  ldK 520019 T4 ro x16_8 fun x17_9 =>
  callK (g36 ro x17_9 y11 y3 T4 n3) fun x20_10 T5 n5 =>
  notK 520023 x20_10 fun x21_11 =>
  condK 520024 x21_11
  (
   .bad 520025
  )
  (
   addK Tryz.prog 3 (.tmp 11) (.const (.int .i64 (.ofNat 1))) 520026 y11 (.lit (.int .i64 (.ofNat 1))) fun x22_12 =>
   lp1 y0 y2 y3 y9 y10 x22_12 T5 n5
  )
 )
 (
  lenSK 520029 y0 fun x24_13 =>
  gtK Tryz.prog 3 (.tmp 24) (.const (.int .i64 (.ofNat 0))) 520030 x24_13 (.lit (.int .i64 (.ofNat 0))) fun x25_14 =>
  condK 520033 x25_14
  (
   lenSK 520036 y0 fun x29_15 =>
   subK Tryz.prog 3 (.tmp 29) (.const (.int .i64 (.ofNat 1))) 520037 x29_15 (.lit (.int .i64 (.ofNat 1))) fun x30_16 =>
   cutHiK 520038 T2 ro y3 x30_16 fun x31_17 =>
   callK (g38 ro x31_17 (.lit (.bool false)) T2 n2) fun x32_18 T7 n7 =>
   notK 520040 x32_18 fun x33_19 =>
   g52_k2 ro y2 x33_19 T7 n7
  )
  (
   g52_k2 ro y2 (.lit (.bool false)) T2 n2
  )
 )
noncomputable def g52 (ro : List HT) (a0 : AV) (T : HT) (nx : Nat) : R :=
 lenSK 520003 a0 fun x7_1 =>
 mkK 520004 T nx 4 1 (.lit (.bool false)) x7_1 fun x8_2 T1 n1 =>
 lenSK 520007 a0 fun x10_3 =>
 lpf6 520009 (g52_b1 ro) 100000 a0 (.lit (.bool false)) x8_2 a0 x10_3 (.lit (.int .i64 (.ofNat 0))) T1 n1
theorem g52_ok (ro : List HT) (a0 : AV) (T : HT) (nx : Nat) : GOk Tryz.prog envE 52 [a0] ro T nx (g52 ro a0 T nx) := by
 refine GOk.of_body Tryz.func52 rfl Tryz.ntmps52 (by kernel_rfl) rfl fun r T' n' h1 w0 base ρ0 its hS hP => ?_
 have X : CtxW envE ρ0 ro r T' n' := trivial
 unfold g52 at h1
 refine sr ?_
 refine as_ ?_
 refine dn ?_
 refine sr ?_
 refine mv ?_
 refine vy (V.lenS h1 rfl Spf.ls23) fun x7_1 h2 => ?_
 refine LV.mk hS h2 rfl rfl rfl Spf.el67 rfl rfl rfl rfl fun x8_2 T1 n1 h3 ρ its hS hdr => ?_
 refine as_ ?_
 refine dn ?_
 refine CV.seq ?_
 refine sr ?_
 refine mv ?_
 refine vy (V.lenS h3 rfl Spf.ls23) fun x10_3 h4 => ?_
 refine mv ?_
 refine dn ?_
 refine CV.block ?_
 refine cl6 X 0 2 3 9 10 11 [] hS h4 ⟨rfl, rfl, rfl, rfl, rfl, rfl, trivial⟩ ?_
 intro f1 y0 y2 y3 y9 y10 y11 T2 n2 ρ its hS h5
 unfold g52_b1 at h5
 clear h1 h2 h3 h4
 refine sr ?_
 refine vy (V.lt h5 rfl rfl) fun x12_4 h6 => ?_
 refine dn ?_
 refine CV.seq ?_
 refine CV.cond h6 rfl (fun e h7 => ?_) (fun e h7 => ?_)
 ·
  clear h5 h6
  subst e
  refine CV.skip ?_
  refine PV.thenN ?_
  refine CV.seq ?_
  refine CV.block ?_
  refine sr ?_
  refine mv ?_
  refine vy (V.ia h7 rfl rfl Spf.el23) fun x14_5 h8 => ?_
  refine vy (V.ldA hS h8 rfl Spf.agg32) fun x15_6 h9 => ?_
  refine LV.alloc hS h9 rfl Spf.zr32 rfl rfl rfl fun x5_7 T3 n3 h10 ρ its hS hdr => ?_
  refine as_ ?_
  refine LV.stA hS h10 rfl rfl rfl Spf.agg32 rfl rfl rfl fun T4 its h11 hS => ?_
  refine dn ?_
  refine sr ?_
  refine vy (V.fa h11 rfl Spf.fo32_4) fun x16_8 h12 => ?_
  refine vy (V.ld hS h12 rfl Spf.one30) fun x17_9 h13 => ?_
  refine mv ?_
  refine mv ?_
  refine LV.call hS h13 (g36_ok _ _ _ _ _ _ ) hP rfl rfl rfl rfl fun x20_10 T5 n5 h14 ρ its hS => ?_
  refine vy (V.not h14 rfl) fun x21_11 h15 => ?_
  refine dn ?_
  refine CV.cond h15 rfl (fun e h16 => ?_) (fun e h16 => ?_)
  ·
   clear h7 h8 h9 h10 h11 h12 h13 h14 h15
   subst e
   cases h16
  ·
   clear h7 h8 h9 h10 h11 h12 h13 h14 h15
   subst e
   refine CV.skip ?_
   refine PV.blockN ?_
   refine PV.thenN ?_
   refine CV.region ?_
   refine vy (V.add h16 rfl rfl) fun x22_12 h17 => ?_
   refine mv ?_
   refine LV.done ?_
   exact pb6 hS h17 ⟨rfl, rfl, rfl, rfl, rfl, rfl, trivial⟩
 ·
  clear h5 h6
  subst e
  refine CV.exit ?_
  refine PV.thenE ?_
  refine PV.thenE ?_
  refine PV.blockE ?_
  refine PV.thenN ?_
  refine sr ?_
  refine mv ?_
  refine vy (V.lenS h7 rfl Spf.ls23) fun x24_13 h18 => ?_
  refine vy (V.gt h18 rfl rfl) fun x25_14 h19 => ?_
  refine mv ?_
  refine ls2 X 2 34 [] (g52_k2 ro) 8 ?_ ?_
  ·
   rcases condK_inv h19 with ⟨e, h21⟩ | ⟨e, h21⟩
   ·
    clear h7 h18 h19
    subst e
    refine mv ?_
    refine mv ?_
    refine vy (V.lenS h21 rfl Spf.ls23) fun x29_15 h22 => ?_
    refine vy (V.sub h22 rfl rfl) fun x30_16 h23 => ?_
    refine vy (V.cutHi hS h23 rfl rfl Spf.el67) fun x31_17 h24 => ?_
    refine LV.call hS h24 (g38_ok _ _ _ _ _ ) hP rfl rfl rfl rfl fun x32_18 T7 n7 h25 ρ its hS => ?_
    refine vy (V.not h25 rfl) fun x33_19 h26 => ?_
    refine pu ?_
    exact la2 hS h26 ⟨rfl, rfl, trivial⟩
   ·
    clear h7 h18 h19
    subst e
    refine sk ?_
    refine sk ?_
    refine sk ?_
    refine sk ?_
    refine sk ?_
    refine sk ?_
    refine sk ?_
    refine pu ?_
    exact la2 hS h21 ⟨rfl, rfl, trivial⟩
  ·
   intro y2 y34 T6 n6 ρ its hS h20
   unfold g52_k2 at h20
   clear h7 h18 h19
   refine as_ ?_
   refine dn ?_
   refine CV.ret ?_
   cases h20
   exact PV.ret (by simp) Tryz.results52 hS (RS.tmp rfl RS.nil) rfl
noncomputable def g21_b7 (ro : List HT) (lp3 : AV → AV → AV → AV → HT → Nat → R) (lp7 : AV → AV → AV → AV → AV → AV → AV → AV → HT → Nat → R) (y0 y1 y4 y5 y7 y8 y87 y88 : AV) (T15 : HT) (n15 : Nat) : R :=
 ltK Tryz.prog 3 (.tmp 88) (.tmp 87) 210065 y88 y87 fun x89_37 =>
 condK 210066 x89_37
 (
  faK 210070 y7 4 fun x92_38 =>
  ldK 210071 T15 ro x92_38 fun x93_39 =>
  iaK 210073 x93_39 y88 1 fun x95_40 =>
  ldK 210074 T15 ro x95_40 fun x96_41 =>
  faK 210075 y8 4 fun x97_42 =>
  ldK 210076 T15 ro x97_42 fun x98_43 =>
  iaK 210078 x98_43 y88 1 fun x100_44 =>
  ldK 210079 T15 ro x100_44 fun x101_45 =>
  optK 210080 (bld102 [(0, x96_41), (1, x101_45)]) fun x102_46 =>
  bsK 210081 T15 n15 1 102 2 [(0, x102_46)] fun x103_47 T16 n16 =>
  shrK 210083 T16 y5 fun T17 =>
  appK 210082 T17 ro n16 102 2 16 y5 x103_47 fun x104_48 T18 n18 =>
  addK Tryz.prog 3 (.tmp 88) (.const (.int .i64 (.ofNat 1))) 210085 y88 (.lit (.int .i64 (.ofNat 1))) fun x105_49 =>
  lp7 y0 y1 y4 x104_48 y7 y8 y87 x105_49 T18 n18
 )
 (
  lp3 y0 y1 y4 y5 T15 n15
 )
noncomputable def g21_k6 (ro : List HT) (lp3 : AV → AV → AV → AV → HT → Nat → R) (y0 y1 y4 y5 y7 y8 y84 : AV) (T14 : HT) (n14 : Nat) : R :=
 condK 210058 y84
 (
  .bad 210059
 )
 (
  faK 210060 y7 4 fun x85_34 =>
  ldK 210061 T14 ro x85_34 fun x86_35 =>
  lenSK 210062 x86_35 fun x87_36 =>
  lpf8 210064 (g21_b7 ro lp3) 100000 y0 y1 y4 y5 y7 y8 x87_36 (.lit (.int .i64 (.ofNat 0))) T14 n14
 )
noncomputable def g21_k5 (ro : List HT) (lp3 : AV → AV → AV → AV → HT → Nat → R) (y0 y1 y4 y5 y7 y8 y75 : AV) (T13 : HT) (n13 : Nat) : R :=
 condK 210087 y75
 (
  g21_k6 ro lp3 y0 y1 y4 y5 y7 y8 (.lit (.bool true)) T13 n13
 )
 (
  faK 210089 y7 4 fun x77_50 =>
  ldK 210090 T13 ro x77_50 fun x78_51 =>
  lenSK 210091 x78_51 fun x79_52 =>
  faK 210092 y8 4 fun x80_53 =>
  ldK 210093 T13 ro x80_53 fun x81_54 =>
  lenSK 210094 x81_54 fun x82_55 =>
  neK Tryz.prog 3 (.tmp 79) (.tmp 82) 210095 x79_52 x82_55 fun x83_56 =>
  g21_k6 ro lp3 y0 y1 y4 y5 y7 y8 x83_56 T13 n13
 )
noncomputable def g21_k4 (ro : List HT) (lp3 : AV → AV → AV → AV → HT → Nat → R) (y0 y1 y4 y5 y7 y8 y68 : AV) (T12 : HT) (n12 : Nat) : R :=
 condK 210097 y68
 (
  g21_k5 ro lp3 y0 y1 y4 y5 y7 y8 (.lit (.bool true)) T12 n12
 )
 (
  faK 210099 y7 3 fun x70_57 =>
  ldK 210100 T12 ro x70_57 fun x71_58 =>
  faK 210101 y8 3 fun x72_59 =>
  ldK 210102 T12 ro x72_59 fun x73_60 =>
  neSK Tryz.prog 9 (.tmp 71) (.tmp 73) 210103 x71_58 x73_60 fun x74_61 =>
  g21_k5 ro lp3 y0 y1 y4 y5 y7 y8 x74_61 T12 n12
 )
noncomputable def g21_b3 (ro : List HT) (lp3 : AV → AV → AV → AV → HT → Nat → R) (y0 y1 y4 y5 : AV) (T5 : HT) (n5 : Nat) : R :=
 lenSK 210020 y5 fun x34_9 =>
 gtK Tryz.prog 3 (.tmp 34) (.const (.int .i64 (.ofNat 0))) 210021 x34_9 (.lit (.int .i64 (.ofNat 0))) fun x35_10 =>
 condK 210022 x35_10
 (
  lenSK 210025 y5 fun x38_11 =>
  subK Tryz.prog 3 (.tmp 38) (.const (.int .i64 (.ofNat 1))) 210026 x38_11 (.lit (.int .i64 (.ofNat 1))) fun x39_12 =>
  iaK 210027 y5 x39_12 2 fun x40_13 =>
  ldAK 210028 T5 ro x40_13 2 fun x41_14 =>
  newK T5 n5 (.obj [.lit (.int .i64 0), .lit (.int .i64 0)] 102) fun x6_15 T6 n6 =>
  stAK 210030 T6 x6_15 x41_14 2 fun T7 =>
  lenSK 210033 y5 fun x44_16 =>
  subK Tryz.prog 3 (.tmp 44) (.const (.int .i64 (.ofNat 1))) 210034 x44_16 (.lit (.int .i64 (.ofNat 1))) fun x45_17 =>
  cutHiK 210035 T7 ro y5 x45_17 fun x46_18 =>
  faK 210038 x6_15 0 fun x48_19 =>
  ldQK 210039 T7 ro [x6_15, y0, y1] x48_19 fun x49_20 =>
  iaK 210040 y0 x49_20 5 fun x50_21 =>
  ldAQK 210041 T7 ro [x6_15, y0, y1] x50_21 5 fun x51_22 =>
  faK 210043 x6_15 1 fun x53_23 =>
  ldQK 210044 T7 ro [x6_15, y0, y1] x53_23 fun x54_24 =>
  iaK 210045 y1 x54_24 5 fun x55_25 =>
  ldAQK 210046 T7 ro [x6_15, y0, y1] x55_25 5 fun x56_26 =>
  newK T7 n6 (.obj [.lit (.int .i64 0), .lit (.int .i64 0), .lit (.int .i64 0), .lit (.string ⟨#[]⟩), .lit (.slice none 0 0)] 32) fun x7_27 T8 n8 =>
  newK T8 n8 (.obj [.lit (.int .i64 0), .lit (.int .i64 0), .lit (.int .i64 0), .lit (.string ⟨#[]⟩), .lit (.slice none 0 0)] 32) fun x8_28 T9 n9 =>
  stAK 210047 T9 x7_27 x51_22 5 fun T10 =>
  keepK 210048 T7 T10 [x6_15, y0, y1] <|
  stAK 210049 T10 x8_28 x56_26 5 fun T11 =>
  faK 210050 x7_27 0 fun x57_29 =>
  ldK 210051 T11 ro x57_29 fun x58_30 =>
  faK 210052 x8_28 0 fun x59_31 =>
  ldK 210053 T11 ro x59_31 fun x60_32 =>
  neK Tryz.prog 3 (.tmp 58) (.tmp 60) 210054 x58_30 x60_32 fun x61_33 =>
  condK 210105 x61_33
  (
   g21_k4 ro lp3 y0 y1 y4 x46_18 x7_27 x8_28 (.lit (.bool true)) T11 n9
  )
  (
   faK 210107 x7_27 1 fun x63_62 =>
   ldK 210108 T11 ro x63_62 fun x64_63 =>
   faK 210109 x8_28 1 fun x65_64 =>
   ldK 210110 T11 ro x65_64 fun x66_65 =>
   neK Tryz.prog 3 (.tmp 64) (.tmp 66) 210111 x64_63 x66_65 fun x67_66 =>
   g21_k4 ro lp3 y0 y1 y4 x46_18 x7_27 x8_28 x67_66 T11 n9
  )
 )
 (
  .ok (.val (.lit (.bool true))) T5 n5
 )
noncomputable def g21_k2 (ro : List HT) (y0 y1 y24 : AV) (T3 : HT) (n3 : Nat) : R :=
 condK 210007 y24
 (
  .bad 210008
 )
 (
  lenSK 210010 y0 fun x26_3 =>
  subK Tryz.prog 3 (.tmp 26) (.const (.int .i64 (.ofNat 1))) 210011 x26_3 (.lit (.int .i64 (.ofNat 1))) fun x27_4 =>
  lenSK 210013 y1 fun x29_5 =>
  subK Tryz.prog 3 (.tmp 29) (.const (.int .i64 (.ofNat 1))) 210014 x29_5 (.lit (.int .i64 (.ofNat 1))) fun x30_6 =>
  optK 210015 (bld102 [(0, x27_4), (1, x30_6)]) fun x31_7 =>
  bsK 210016 T3 n3 1 102 2 [(0, x31_7)] fun x32_8 T4 n4 =>
  lpf4 210018 (g21_b3 ro) 100000 y0 y1 (.lit (.bool false)) x32_8 T4 n4
 )
noncomputable def g21_k1 (ro : List HT) (y0 y1 y17 : AV) (T2 : HT) (n2 : Nat) : R :=
 condK 210114 y17
 (
  g21_k2 ro y0 y1 (.lit (.bool true)) T2 n2
 )
 (
  lenSK 210117 y0 fun x20_67 =>
  lenSK 210119 y1 fun x22_68 =>
  neK Tryz.prog 3 (.tmp 20) (.tmp 22) 210120 x20_67 x22_68 fun x23_69 =>
  g21_k2 ro y0 y1 x23_69 T2 n2
 )
noncomputable def g21 (ro : List HT) (a0 a1 : AV) (T : HT) (nx : Nat) : R :=
 callK (g52 ro a0 T nx) fun x11_1 T1 n1 =>
 notK 210004 x11_1 fun x12_2 =>
 condK 210122 x12_2
 (
  g21_k1 ro a0 a1 (.lit (.bool true)) T1 n1
 )
 (
  callK (g52 ro a1 T1 n1) fun x15_70 T19 n19 =>
  notK 210126 x15_70 fun x16_71 =>
  g21_k1 ro a0 a1 x16_71 T19 n19
 )
theorem g21_ok (ro : List HT) (a0 a1 : AV) (T : HT) (nx : Nat) : GOk Tryz.prog envE 21 [a0, a1] ro T nx (g21 ro a0 a1 T nx) := by
 refine GOk.of_body Tryz.func21 rfl Tryz.ntmps21 (by kernel_rfl) rfl fun r T' n' h1 w0 base ρ0 its hS hP => ?_
 have X : CtxW envE ρ0 ro r T' n' := trivial
 unfold g21 at h1
 refine sr ?_
 refine as_ ?_
 refine dn ?_
 refine CV.seq ?_
 refine sr ?_
 refine mv ?_
 refine LV.call hS h1 (g52_ok _ _ _ _ ) hP rfl rfl rfl rfl fun x11_1 T1 n1 h2 ρ its hS => ?_
 refine vy (V.not h2 rfl) fun x12_2 h3 => ?_
 refine mv ?_
 refine ls3 X 0 1 17 [(4, (.lit (.bool false)))] (g21_k1 ro) 4 ?_ ?_
 ·
  rcases condK_inv h3 with ⟨e, h90⟩ | ⟨e, h90⟩
  ·
   clear h1 h2 h3
   subst e
   refine sk ?_
   refine sk ?_
   refine sk ?_
   refine pu ?_
   exact la3 hS h90 ⟨rfl, rfl, rfl, rfl, trivial⟩
  ·
   clear h1 h2 h3
   subst e
   refine mv ?_
   refine LV.call hS h90 (g52_ok _ _ _ _ ) hP rfl rfl rfl rfl fun x15_70 T19 n19 h91 ρ its hS => ?_
   refine vy (V.not h91 rfl) fun x16_71 h92 => ?_
   refine pu ?_
   exact la3 hS h92 ⟨rfl, rfl, rfl, rfl, trivial⟩
 ·
  intro y0 y1 y17 T2 n2 ρ its hS h4
  unfold g21_k1 at h4
  clear h1 h2 h3
  refine mv ?_
  refine ls3 X 0 1 24 [(4, (.lit (.bool false)))] (g21_k2 ro) 6 ?_ ?_
  ·
   rcases condK_inv h4 with ⟨e, h86⟩ | ⟨e, h86⟩
   ·
    clear h4
    subst e
    refine sk ?_
    refine sk ?_
    refine sk ?_
    refine sk ?_
    refine sk ?_
    refine pu ?_
    exact la3 hS h86 ⟨rfl, rfl, rfl, rfl, trivial⟩
   ·
    clear h4
    subst e
    refine mv ?_
    refine vy (V.lenS h86 rfl Spf.ls23) fun x20_67 h87 => ?_
    refine mv ?_
    refine vy (V.lenS h87 rfl Spf.ls23) fun x22_68 h88 => ?_
    refine vy (V.ne h88 rfl rfl) fun x23_69 h89 => ?_
    refine pu ?_
    exact la3 hS h89 ⟨rfl, rfl, rfl, rfl, trivial⟩
  ·
   intro y0 y1 y24 T3 n3 ρ its hS h5
   unfold g21_k2 at h5
   clear h4
   refine dn ?_
   refine CV.cond h5 rfl (fun e h6 => ?_) (fun e h6 => ?_)
   ·
    clear h5
    subst e
    cases h6
   ·
    clear h5
    subst e
    refine CV.skip ?_
    refine PV.thenN ?_
    refine sr ?_
    refine mv ?_
    refine vy (V.lenS h6 rfl Spf.ls23) fun x26_3 h7 => ?_
    refine vy (V.sub h7 rfl rfl) fun x27_4 h8 => ?_
    refine mv ?_
    refine vy (V.lenS h8 rfl Spf.ls23) fun x29_5 h9 => ?_
    refine vy (V.sub h9 rfl rfl) fun x30_6 h10 => ?_
    refine vy (V.bld h10 rfl) fun x31_7 h11 => ?_
    refine LV.bslice hS h11 rfl rfl Spf.el103 rfl rfl rfl rfl fun x32_8 T4 n4 h12 ρ its hS hdr => ?_
    refine as_ ?_
    refine dn ?_
    refine CV.seq ?_
    refine CV.block ?_
    refine cl4 X 0 1 4 5 [] hS h12 ⟨rfl, rfl, rfl, rfl, trivial⟩ ?_
    intro f3 y0 y1 y4 y5 T5 n5 ρ its hS h13
    unfold g21_b3 at h13
    clear h6 h7 h8 h9 h10 h11 h12
    refine CV.seq ?_
    refine sr ?_
    refine mv ?_
    refine vy (V.lenS h13 rfl Spf.ls103) fun x34_9 h14 => ?_
    refine vy (V.gt h14 rfl rfl) fun x35_10 h15 => ?_
    refine dn ?_
    refine CV.cond h15 rfl (fun e h16 => ?_) (fun e h16 => ?_)
    ·
     clear h13 h14 h15
     subst e
     refine CV.skip ?_
     refine PV.thenN ?_
     refine CV.block ?_
     refine sr ?_
     refine mv ?_
     refine mv ?_
     refine vy (V.lenS h16 rfl Spf.ls103) fun x38_11 h17 => ?_
     refine vy (V.sub h17 rfl rfl) fun x39_12 h18 => ?_
     refine vy (V.ia h18 rfl rfl Spf.el103) fun x40_13 h19 => ?_
     refine vy (V.ldA hS h19 rfl Spf.agg102) fun x41_14 h20 => ?_
     refine LV.alloc hS h20 rfl Spf.zr102 rfl rfl rfl fun x6_15 T6 n6 h21 ρ its hS hdr => ?_
     refine LV.stA hS h21 rfl rfl rfl Spf.agg102 rfl rfl rfl fun T7 its h22 hS => ?_
     refine dn ?_
     refine sr ?_
     refine mv ?_
     refine mv ?_
     refine vy (V.lenS h22 rfl Spf.ls103) fun x44_16 h23 => ?_
     refine vy (V.sub h23 rfl rfl) fun x45_17 h24 => ?_
     refine vy (V.cutHi hS h24 rfl rfl Spf.el103) fun x46_18 h25 => ?_
     refine as_ ?_
     refine dn ?_
     refine CV.seq ?_
     refine CV.region2K hS [x6_15, y0, y1] 10 11 [(0, .anywhere), (1, .anywhere), (2, .held), (3, .held), (4, .held), (5, .anywhere), (6, .anywhere), (7, .held), (8, .held), (9, .held)] [(12, .alone), (13, .alone)] [9, 4] rfl (fun c a a' w hd hq => PanicOk.root (P := Tryz.prog) (fn := Tryz.f21) (w0 := w0) (base := base) (E := envE) (ro := ro) (r := r) (T' := T') (n' := n') (ρ0 := ρ0) c a a' w hd hq) (by kernel_rfl) (by kernel_rfl) ?_
     have hK := KeepS.start [x6_15, y0, y1] hS
     have hR := hS
     have hP0 := hP
     replace hP := PK.up hR hP
     replace hS := hR.root
     refine MV.step0 (i := 0) rfl (VAL.move rfl) rfl rfl rfl ?_
     refine MV.lift0 (i := 1) rfl (V.fa h25 rfl Spf.fo102_0) rfl rfl rfl fun x48_19 h26 => ?_
     refine MV.lift1 (i := 2) rfl hK (V.ldQ hS h26 rfl Spf.one3) rfl rfl rfl [] (by kernel_rfl) fun x49_20 h27 => ?_
     refine MV.lift1 (i := 3) rfl hK (V.ia h27 rfl rfl Spf.el23) rfl rfl rfl [] (by kernel_rfl) fun x50_21 h28 => ?_
     refine MV.lift1 (i := 4) rfl hK (V.ldAQ hS h28 rfl Spf.agg32) rfl rfl rfl [] (by kernel_rfl) fun x51_22 h29 => ?_
     refine MV.step0 (i := 5) rfl (VAL.move rfl) rfl rfl rfl ?_
     refine MV.lift0 (i := 6) rfl (V.fa h29 rfl Spf.fo102_1) rfl rfl rfl fun x53_23 h30 => ?_
     refine MV.lift1 (i := 7) rfl hK (V.ldQ hS h30 rfl Spf.one3) rfl rfl rfl [4] (by kernel_rfl) fun x54_24 h31 => ?_
     refine MV.lift1 (i := 8) rfl hK (V.ia h31 rfl rfl Spf.el23) rfl rfl rfl [4] (by kernel_rfl) fun x55_25 h32 => ?_
     refine MV.lift1 (i := 9) rfl hK (V.ldAQ hS h32 rfl Spf.agg32) rfl rfl rfl [4] (by kernel_rfl) fun x56_26 h33 => ?_
     refine MV.done ?_
     refine PV.two hS h33 rfl rfl rfl rfl Spf.zr32 Spf.zr32 rfl rfl rfl rfl rfl rfl rfl hK [9, 4] (by kernel_rfl) fun x7_27 x8_28 T9 n9 h34 ρ its hS hdr => ?_
     replace hK := fun w hw => hK w (hdr w hw)
     refine MV.force (i := 12) rfl ?_
     refine LV.stA hS h34 rfl rfl rfl Spf.agg32 rfl rfl rfl fun T10 its h35 hS => ?_
     obtain ⟨hK, h36⟩ := KeepS.step hR hS h35
     refine LV.nextM [9] (by kernel_rfl) (fun _ => hK) ?_
     refine MV.force (i := 13) rfl ?_
     refine LV.stA hS h36 rfl rfl rfl Spf.agg32 rfl rfl rfl fun T11 its h37 hS => ?_
     refine LV.nextM [] (by kernel_rfl) (fun z => absurd rfl z) ?_
     replace hS := hR.up hS
     replace hP := hP0
     refine mdn ?_
     refine CV.seq ?_
     refine sr ?_
     refine vy (V.fa h37 rfl Spf.fo32_0) fun x57_29 h38 => ?_
     refine vy (V.ld hS h38 rfl Spf.one3) fun x58_30 h39 => ?_
     refine vy (V.fa h39 rfl Spf.fo32_0) fun x59_31 h40 => ?_
     refine vy (V.ld hS h40 rfl Spf.one3) fun x60_32 h41 => ?_
     refine vy (V.ne h41 rfl rfl) fun x61_33 h42 => ?_
     refine mv ?_
     refine ls7 X 0 1 4 5 7 8 68 [] (g21_k4 ro (lpf4 210018 (g21_b3 ro) f3)) 6 ?_ ?_
     ·
      rcases condK_inv h42 with ⟨e, h80⟩ | ⟨e, h80⟩
      ·
       clear h16 h17 h18 h19 h20 h21 h22 h23 h24 h25 h26 h27 h28 h29 h30 h31 h32 h33 h34 h35 h36 h37 h38 h39 h40 h41 h42
       subst e
       refine sk ?_
       refine sk ?_
       refine sk ?_
       refine sk ?_
       refine sk ?_
       refine pu ?_
       exact la7 hS h80 ⟨rfl, rfl, rfl, rfl, rfl, rfl, rfl, trivial⟩
      ·
       clear h16 h17 h18 h19 h20 h21 h22 h23 h24 h25 h26 h27 h28 h29 h30 h31 h32 h33 h34 h35 h36 h37 h38 h39 h40 h41 h42
       subst e
       refine vy (V.fa h80 rfl Spf.fo32_1) fun x63_62 h81 => ?_
       refine vy (V.ld hS h81 rfl Spf.one3) fun x64_63 h82 => ?_
       refine vy (V.fa h82 rfl Spf.fo32_1) fun x65_64 h83 => ?_
       refine vy (V.ld hS h83 rfl Spf.one3) fun x66_65 h84 => ?_
       refine vy (V.ne h84 rfl rfl) fun x67_66 h85 => ?_
       refine pu ?_
       exact la7 hS h85 ⟨rfl, rfl, rfl, rfl, rfl, rfl, rfl, trivial⟩
     ·
      intro y0 y1 y4 y5 y7 y8 y68 T12 n12 ρ its hS h43
      unfold g21_k4 at h43
      clear h16 h17 h18 h19 h20 h21 h22 h23 h24 h25 h26 h27 h28 h29 h30 h31 h32 h33 h34 h35 h36 h37 h38 h39 h40 h41 h42
      refine mv ?_
      refine ls7 X 0 1 4 5 7 8 75 [] (g21_k5 ro (lpf4 210018 (g21_b3 ro) f3)) 6 ?_ ?_
      ·
       rcases condK_inv h43 with ⟨e, h74⟩ | ⟨e, h74⟩
       ·
        clear h43
        subst e
        refine sk ?_
        refine sk ?_
        refine sk ?_
        refine sk ?_
        refine sk ?_
        refine pu ?_
        exact la7 hS h74 ⟨rfl, rfl, rfl, rfl, rfl, rfl, rfl, trivial⟩
       ·
        clear h43
        subst e
        refine vy (V.fa h74 rfl Spf.fo32_3) fun x70_57 h75 => ?_
        refine vy (V.ld hS h75 rfl Spf.one9) fun x71_58 h76 => ?_
        refine vy (V.fa h76 rfl Spf.fo32_3) fun x72_59 h77 => ?_
        refine vy (V.ld hS h77 rfl Spf.one9) fun x73_60 h78 => ?_
        refine vy (V.neS h78 rfl rfl) fun x74_61 h79 => ?_
        refine pu ?_
        exact la7 hS h79 ⟨rfl, rfl, rfl, rfl, rfl, rfl, rfl, trivial⟩
      ·
       intro y0 y1 y4 y5 y7 y8 y75 T13 n13 ρ its hS h44
       unfold g21_k5 at h44
       clear h43
       refine mv ?_
       refine ls7 X 0 1 4 5 7 8 84 [] (g21_k6 ro (lpf4 210018 (g21_b3 ro) f3)) 8 ?_ ?_
       ·
        rcases condK_inv h44 with ⟨e, h66⟩ | ⟨e, h66⟩
        ·
         clear h44
         subst e
         refine sk ?_
         refine sk ?_
         refine sk ?_
         refine sk ?_
         refine sk ?_
         refine sk ?_
         refine sk ?_
         refine pu ?_
         exact la7 hS h66 ⟨rfl, rfl, rfl, rfl, rfl, rfl, rfl, trivial⟩
        ·
         clear h44
         subst e
         refine vy (V.fa h66 rfl Spf.fo32_4) fun x77_50 h67 => ?_
         refine vy (V.ld hS h67 rfl Spf.one30) fun x78_51 h68 => ?_
         refine vy (V.lenS h68 rfl Spf.ls30) fun x79_52 h69 => ?_
         refine vy (V.fa h69 rfl Spf.fo32_4) fun x80_53 h70 => ?_
         refine vy (V.ld hS h70 rfl Spf.one30) fun x81_54 h71 => ?_
         refine vy (V.lenS h71 rfl Spf.ls30) fun x82_55 h72 => ?_
         refine vy (V.ne h72 rfl rfl) fun x83_56 h73 => ?_
         refine pu ?_
         exact la7 hS h73 ⟨rfl, rfl, rfl, rfl, rfl, rfl, rfl, trivial⟩
       ·
        intro y0 y1 y4 y5 y7 y8 y84 T14 n14 ρ its hS h45
        unfold g21_k6 at h45
        clear h44
        refine dn ?_
        refine CV.cond h45 rfl (fun e h46 => ?_) (fun e h46 => ?_)
        ·
         clear h45
         subst e
         cases h46
        ·
         clear h45
         subst e
         refine CV.skip ?_
         refine PV.thenN ?_
         refine sr ?_
         refine vy (V.fa h46 rfl Spf.fo32_4) fun x85_34 h47 => ?_
         refine vy (V.ld hS h47 rfl Spf.one30) fun x86_35 h48 => ?_
         refine vy (V.lenS h48 rfl Spf.ls30) fun x87_36 h49 => ?_
         refine mv ?_
         refine dn ?_
         refine CV.block ?_
         refine cl8 X 0 1 4 5 7 8 87 88 [] hS h49 ⟨rfl, rfl, rfl, rfl, rfl, rfl, rfl, rfl, trivial⟩ ?_
         intro f7 y0 y1 y4 y5 y7 y8 y87 y88 T15 n15 ρ its hS h50
         unfold g21_b7 at h50
         clear h46 h47 h48 h49
         refine sr ?_
         refine vy (V.lt h50 rfl rfl) fun x89_37 h51 => ?_
         refine dn ?_
         refine CV.seq ?_
         refine CV.cond h51 rfl (fun e h52 => ?_) (fun e h52 => ?_)
         ·
          clear h50 h51
          subst e
          refine CV.skip ?_
          refine PV.thenN ?_
          refine CV.seq ?_
          refine CV.block ?_
          refine sr ?_
          refine mv ?_
          refine as_ ?_
          refine dn ?_
          refine CV.regionM [(0, .anywhere), (1, .anywhere), (2, .held), (3, .anywhere), (4, .held), (5, .held), (6, .anywhere), (7, .held), (8, .anywhere), (9, .held), (10, .held), (11, .held), (12, .alone), (13, .alone), (14, .alone)] rfl (fun c a a' w hd hq => PanicOk.root (P := Tryz.prog) (fn := Tryz.f21) (w0 := w0) (base := base) (E := envE) (ro := ro) (r := r) (T' := T') (n' := n') (ρ0 := ρ0) c a a' w hd hq) (by kernel_rfl) ?_
          refine MV.step0 (i := 0) rfl (VAL.move rfl) rfl rfl rfl ?_
          refine MV.lift0 (i := 1) rfl (V.fa h52 rfl Spf.fo32_4) rfl rfl rfl fun x92_38 h53 => ?_
          refine MV.lift1 (i := 2) rfl (fun _ z => z) (V.ld hS h53 rfl Spf.one30) rfl rfl rfl [] (by kernel_rfl) fun x93_39 h54 => ?_
          refine MV.step0 (i := 3) rfl (VAL.move rfl) rfl rfl rfl ?_
          refine MV.lift1 (i := 4) rfl (fun _ z => z) (V.ia h54 rfl rfl Spf.el30) rfl rfl rfl [] (by kernel_rfl) fun x95_40 h55 => ?_
          refine MV.lift1 (i := 5) rfl (fun _ z => z) (V.ld hS h55 rfl Spf.one3) rfl rfl rfl [] (by kernel_rfl) fun x96_41 h56 => ?_
          refine MV.lift0 (i := 6) rfl (V.fa h56 rfl Spf.fo32_4) rfl rfl rfl fun x97_42 h57 => ?_
          refine MV.lift1 (i := 7) rfl (fun _ z => z) (V.ld hS h57 rfl Spf.one30) rfl rfl rfl [5] (by kernel_rfl) fun x98_43 h58 => ?_
          refine MV.step0 (i := 8) rfl (VAL.move rfl) rfl rfl rfl ?_
          refine MV.lift1 (i := 9) rfl (fun _ z => z) (V.ia h58 rfl rfl Spf.el30) rfl rfl rfl [5] (by kernel_rfl) fun x100_44 h59 => ?_
          refine MV.lift1 (i := 10) rfl (fun _ z => z) (V.ld hS h59 rfl Spf.one3) rfl rfl rfl [5] (by kernel_rfl) fun x101_45 h60 => ?_
          refine MV.lift1 (i := 11) rfl (fun _ z => z) (V.bld h60 rfl) rfl rfl rfl [] (by kernel_rfl) fun x102_46 h61 => ?_
          refine MV.force (i := 12) rfl ?_
          refine LV.bslice hS h61 rfl rfl Spf.el103 rfl rfl rfl rfl fun x103_47 T16 n16 h62 ρ its hS hdr => ?_
          refine LV.nextM [] (by kernel_rfl) (fun z => absurd rfl z) ?_
          refine MV.force (i := 13) rfl ?_
          obtain ⟨T17, its1, h63, hS, hW⟩ := shrK_inv hS h62
          refine LV.world hW ?_
          refine LV.app hS h63 rfl rfl rfl rfl Spf.el103 rfl rfl rfl fun x104_48 T18 n18 h64 ρ its hS => ?_
          refine LV.nextM [] (by kernel_rfl) (fun z => absurd rfl z) ?_
          refine MV.force (i := 14) rfl ?_
          refine as_ ?_
          refine LV.nextM [] (by kernel_rfl) (fun z => absurd rfl z) ?_
          refine MV.done ?_
          refine PV.blockN ?_
          refine PV.thenN ?_
          refine CV.region ?_
          refine vy (V.add h64 rfl rfl) fun x105_49 h65 => ?_
          refine mv ?_
          refine LV.done ?_
          exact pb8 hS h65 ⟨rfl, rfl, rfl, rfl, rfl, rfl, rfl, rfl, trivial⟩
         ·
          clear h50 h51
          subst e
          refine CV.exit ?_
          refine PV.thenE ?_
          refine PV.thenE ?_
          refine PV.blockE ?_
          refine PV.blockN ?_
          exact pb4 hS h52 ⟨rfl, rfl, rfl, rfl, trivial⟩
    ·
     clear h13 h14 h15
     subst e
     refine CV.exit ?_
     refine PV.thenE ?_
     refine PV.thenE ?_
     refine PV.blockE ?_
     refine PV.thenN ?_
     refine sr ?_
     refine as_ ?_
     refine dn ?_
     refine CV.ret ?_
     cases h16
     exact PV.ret (by simp) Tryz.results21 hS (RS.tmp rfl RS.nil) rfl
noncomputable def g42 (ro : List HT) (T : HT) (nx : Nat) : R :=
 newK T nx (.obj [.lit (.int .i64 0), .lit (.bool false), .lit (.int .i64 0), .lit (.bool false), .lit (.string ⟨#[]⟩)] 36) fun x0_1 T1 n1 =>
 optK 420002 (bld36 []) fun x1_2 =>
 stAK 420003 T1 x0_1 x1_2 5 fun T2 =>
 ldAK 420004 T2 ro x0_1 5 fun x0_3 =>
 .ok (.val x0_3) T2 n1
theorem g42_ok (ro : List HT) (T : HT) (nx : Nat) : GOk Tryz.prog envE 42 [] ro T nx (g42 ro T nx) := by
 refine GOk.of_body Tryz.func42 rfl Tryz.ntmps42 (by kernel_rfl) rfl fun r T' n' h1 w0 base ρ0 its hS hP => ?_
 have X : CtxW envE ρ0 ro r T' n' := trivial
 unfold g42 at h1
 refine sr ?_
 refine LV.alloc hS h1 rfl Spf.zr36 rfl rfl rfl fun x0_1 T1 n1 h2 ρ its hS hdr => ?_
 refine dn ?_
 refine sr ?_
 refine vy (V.bld h2 rfl) fun x1_2 h3 => ?_
 refine LV.stA hS h3 rfl rfl rfl Spf.agg36 rfl rfl rfl fun T2 its h4 hS => ?_
 refine dn ?_
 refine CV.ret ?_
 refine PV.ldA (x := .tmp 0) (t := 36) hS h4 rfl Spf.agg36 fun x0_3 h5 hVx0_3 => ?_
 cases h5
 exact PV.ret (by simp) Tryz.results42 hS (RS.cell hVx0_3 RS.nil) rfl
noncomputable def g17 (ro : List HT) (a0 a1 : AV) (T : HT) (nx : Nat) : R :=
 newK T nx (.obj [.lit (.int .i64 0), .lit (.bool false), .lit (.int .i64 0), .lit (.bool false), .lit (.string ⟨#[]⟩)] 36) fun x4_1 T1 n1 =>
 eqK Tryz.prog 3 (.tmp 5) (.const (.int .i64 (.ofNat 0))) 170003 a0 (.lit (.int .i64 (.ofNat 0))) fun x6_2 =>
 condK 170004 x6_2
 (
  .bad 170005
 )
 (
  optK 170008 (bld36 [(0, a0), (1, (.lit (.bool true))), (2, a1)]) fun x10_3 =>
  stAK 170009 T1 x4_1 x10_3 5 fun T2 =>
  ldAK 170010 T2 ro x4_1 5 fun x4_4 =>
  .ok (.val x4_4) T2 n1
 )
theorem g17_ok (ro : List HT) (a0 a1 : AV) (T : HT) (nx : Nat) : GOk Tryz.prog envE 17 [a0, a1] ro T nx (g17 ro a0 a1 T nx) := by
 refine GOk.of_body Tryz.func17 rfl Tryz.ntmps17 (by kernel_rfl) rfl fun r T' n' h1 w0 base ρ0 its hS hP => ?_
 have X : CtxW envE ρ0 ro r T' n' := trivial
 unfold g17 at h1
 refine sr ?_
 refine LV.alloc hS h1 rfl Spf.zr36 rfl rfl rfl fun x4_1 T1 n1 h2 ρ its hS hdr => ?_
 refine dn ?_
 refine CV.seq ?_
 refine sr ?_
 refine mv ?_
 refine vy (V.eq h2 rfl rfl) fun x6_2 h3 => ?_
 refine dn ?_
 refine CV.cond h3 rfl (fun e h4 => ?_) (fun e h4 => ?_)
 ·
  clear h1 h2 h3
  subst e
  cases h4
 ·
  clear h1 h2 h3
  subst e
  refine CV.skip ?_
  refine PV.thenN ?_
  refine sr ?_
  refine mv ?_
  refine mv ?_
  refine vy (V.bld h4 rfl) fun x10_3 h5 => ?_
  refine LV.stA hS h5 rfl rfl rfl Spf.agg36 rfl rfl rfl fun T2 its h6 hS => ?_
  refine dn ?_
  refine CV.ret ?_
  refine PV.ldA (x := .tmp 4) (t := 36) hS h6 rfl Spf.agg36 fun x4_4 h7 hVx4_4 => ?_
  cases h7
  exact PV.ret (by simp) Tryz.results17 hS (RS.cell hVx4_4 RS.nil) rfl
noncomputable def g119 (ro : List HT) (T : HT) (nx : Nat) : R :=
 bsK 1190019 T nx 17 25 1 [(0, (.iface 253 (.opq 0))), (1, (.iface 253 (.opq 1))), (2, (.iface 253 (.opq 2))), (3, (.iface 253 (.opq 3))), (4, (.iface 253 (.opq 4))), (5, (.iface 253 (.opq 5))), (6, (.iface 253 (.opq 6))), (7, (.iface 253 (.opq 7))), (8, (.iface 253 (.opq 8))), (9, (.iface 253 (.opq 9))), (10, (.iface 253 (.opq 10))), (11, (.iface 253 (.opq 11))), (12, (.iface 253 (.opq 12))), (13, (.iface 253 (.opq 13))), (14, (.iface 253 (.opq 14))), (15, (.iface 253 (.opq 15))), (16, (.iface 253 (.opq 16)))] fun x18_1 T1 n1 =>
 .ok (.val x18_1) T1 n1
theorem g119_ok (ro : List HT) (T : HT) (nx : Nat) : GOk Tryz.prog envE 119 [] ro T nx (g119 ro T nx) := by
 refine GOk.of_body Tryz.func119 rfl Tryz.ntmps119 (by kernel_rfl) rfl fun r T' n' h1 w0 base ρ0 its hS hP => ?_
 have X : CtxW envE ρ0 ro r T' n' := trivial
 unfold g119 at h1
 refine sr ?_
 refine as_ ?_
 refine dn ?_
 refine sr ?_
 refine sv (VAL.ldG hS (by rfl) Spf.one25) ?_
 refine sv (VAL.ldG hS (by rfl) Spf.one25) ?_
 refine sv (VAL.ldG hS (by rfl) Spf.one25) ?_
 refine sv (VAL.ldG hS (by rfl) Spf.one25) ?_
 refine sv (VAL.ldG hS (by rfl) Spf.one25) ?_
 refine sv (VAL.ldG hS (by rfl) Spf.one25) ?_
 refine sv (VAL.ldG hS (by rfl) Spf.one25) ?_
 refine sv (VAL.ldG hS (by rfl) Spf.one25) ?_
 refine sv (VAL.ldG hS (by rfl) Spf.one25) ?_
 refine sv (VAL.ldG hS (by rfl) Spf.one25) ?_
 refine sv (VAL.ldG hS (by rfl) Spf.one25) ?_
 refine sv (VAL.ldG hS (by rfl) Spf.one25) ?_
 refine sv (VAL.ldG hS (by rfl) Spf.one25) ?_
 refine sv (VAL.ldG hS (by rfl) Spf.one25) ?_
 refine sv (VAL.ldG hS (by rfl) Spf.one25) ?_
 refine sv (VAL.ldG hS (by rfl) Spf.one25) ?_
 refine sv (VAL.ldG hS (by rfl) Spf.one25) ?_
 refine LV.bslice hS h1 rfl rfl Spf.el179 rfl rfl rfl rfl fun x18_1 T1 n1 h2 ρ its hS hdr => ?_
 refine as_ ?_
 refine dn ?_
 refine CV.ret ?_
 cases h2
 exact PV.ret (by simp) Tryz.results119 hS (RS.tmp rfl RS.nil) rfl
noncomputable def g120_k1 (ro : List HT) (y0 y1 y10 : AV) (T1 : HT) (n1 : Nat) : R :=
 condK 1200005 y10
 (
  .bad 1200006
 )
 (
  eeK Tryz.prog 253 25 (.tmp 17) (.tmp 18) 1200009 y0 y1 fun x19_2 =>
  .ok (.val x19_2) T1 n1
 )
noncomputable def g120 (ro : List HT) (a0 a1 : AV) (T : HT) (nx : Nat) : R :=
 bin0 Tryz.prog .eql 25 (.tmp 5) (.const (.nilIface)) 1200003 a0 (.lit (.nilIface)) fun x6_1 =>
 condK 1200011 x6_1
 (
  g120_k1 ro a0 a1 (.lit (.bool true)) T nx
 )
 (
  bin0 Tryz.prog .eql 25 (.tmp 8) (.const (.nilIface)) 1200014 a1 (.lit (.nilIface)) fun x9_3 =>
  g120_k1 ro a0 a1 x9_3 T nx
 )
theorem g120_ok (ro : List HT) (a0 a1 : AV) (T : HT) (nx : Nat) : GOk Tryz.prog envE 120 [a0, a1] ro T nx (g120 ro a0 a1 T nx) := by
 refine GOk.of_body Tryz.func120 rfl Tryz.ntmps120 (by kernel_rfl) rfl fun r T' n' h1 w0 base ρ0 its hS hP => ?_
 have X : CtxW envE ρ0 ro r T' n' := trivial
 unfold g120 at h1
 refine sr ?_
 refine as_ ?_
 refine dn ?_
 refine CV.seq ?_
 refine sr ?_
 refine mv ?_
 refine vy (V.bin0 h1 rfl rfl) fun x6_1 h2 => ?_
 refine mv ?_
 refine ls3 X 0 1 10 [(4, (.lit (.bool false)))] (g120_k1 ro) 3 ?_ ?_
 ·
  rcases condK_inv h2 with ⟨e, h6⟩ | ⟨e, h6⟩
  ·
   clear h1 h2
   subst e
   refine sk ?_
   refine sk ?_
   refine pu ?_
   exact la3 hS h6 ⟨rfl, rfl, rfl, rfl, trivial⟩
  ·
   clear h1 h2
   subst e
   refine mv ?_
   refine vy (V.bin0 h6 rfl rfl) fun x9_3 h7 => ?_
   refine pu ?_
   exact la3 hS h7 ⟨rfl, rfl, rfl, rfl, trivial⟩
 ·
  intro y0 y1 y10 T1 n1 ρ its hS h3
  unfold g120_k1 at h3
  clear h1 h2
  refine dn ?_
  refine CV.cond h3 rfl (fun e h4 => ?_) (fun e h4 => ?_)
  ·
   clear h3
   subst e
   cases h4
  ·
   clear h3
   subst e
   refine CV.skip ?_
   refine PV.thenN ?_
   refine sr ?_
   refine mv ?_
   refine mv ?_
   refine vy (V.ee hS h4 rfl rfl Spf.ii25 Spf.cp253) fun x19_2 h5 => ?_
   refine as_ ?_
   refine dn ?_
   refine CV.ret ?_
   cases h5
   exact PV.ret (by simp) Tryz.results120 hS (RS.tmp rfl RS.nil) rfl
noncomputable def g73_b1 (ro : List HT) (lp1 : AV → AV → AV → AV → HT → Nat → R) (y0 y2 y3 y4 : AV) (T2 : HT) (n2 : Nat) : R :=
 lenSK 730008 y3 fun x8_2 =>
 ltK Tryz.prog 3 (.tmp 6) (.tmp 8) 730009 y4 x8_2 fun x9_3 =>
 condK 730010 x9_3
 (
  iaK 730014 y3 y4 1 fun x15_4 =>
  ldK 730015 T2 ro x15_4 fun x16_5 =>
  callK (g120 ro y0 x16_5 T2 n2) fun x17_6 T3 n3 =>
  condK 730017 x17_6
  (
   .bad 730018
  )
  (
   addK Tryz.prog 3 (.tmp 10) (.const (.int .i64 (.ofNat 1))) 730020 y4 (.lit (.int .i64 (.ofNat 1))) fun x11_7 =>
   lp1 y0 y2 y3 x11_7 T3 n3
  )
 )
 (
  .ok (.val (.lit (.int .i64 (.negSucc 0)))) T2 n2
 )
noncomputable def g73 (ro : List HT) (a0 : AV) (T : HT) (nx : Nat) : R :=
 callK (g119 ro T nx) fun x5_1 T1 n1 =>
 lpf4 730005 (g73_b1 ro) 100000 a0 (.lit (.int .i64 (.ofNat 0))) x5_1 (.lit (.int .i64 (.ofNat 0))) T1 n1
theorem g73_ok (ro : List HT) (a0 : AV) (T : HT) (nx : Nat) : GOk Tryz.prog envE 73 [a0] ro T nx (g73 ro a0 T nx) := by
 refine GOk.of_body Tryz.func73 rfl Tryz.ntmps73 (by kernel_rfl) rfl fun r T' n' h1 w0 base ρ0 its hS hP => ?_
 have X : CtxW envE ρ0 ro r T' n' := trivial
 unfold g73 at h1
 refine sr ?_
 refine as_ ?_
 refine dn ?_
 refine sr ?_
 refine LV.call hS h1 (g119_ok _ _ _ ) hP rfl rfl rfl rfl fun x5_1 T1 n1 h2 ρ its hS => ?_
 refine as_ ?_
 refine dn ?_
 refine CV.seq ?_
 refine sr ?_
 refine as_ ?_
 refine dn ?_
 refine CV.block ?_
 refine cl4 X 0 2 3 4 [] hS h2 ⟨rfl, rfl, rfl, rfl, trivial⟩ ?_
 intro f1 y0 y2 y3 y4 T2 n2 ρ its hS h3
 unfold g73_b1 at h3
 clear h1 h2
 refine CV.seq ?_
 refine sr ?_
 refine mv ?_
 refine mv ?_
 refine vy (V.lenS h3 rfl Spf.ls179) fun x8_2 h4 => ?_
 refine vy (V.lt h4 rfl rfl) fun x9_3 h5 => ?_
 refine dn ?_
 refine CV.cond h5 rfl (fun e h6 => ?_) (fun e h6 => ?_)
 ·
  clear h3 h4 h5
  subst e
  refine CV.skip ?_
  refine PV.thenN ?_
  refine CV.seq ?_
  refine CV.block ?_
  refine sr ?_
  refine mv ?_
  refine mv ?_
  refine mv ?_
  refine vy (V.ia h6 rfl rfl Spf.el179) fun x15_4 h7 => ?_
  refine vy (V.ld hS h7 rfl Spf.one25) fun x16_5 h8 => ?_
  refine LV.call hS h8 (g120_ok _ _ _ _ _ ) hP rfl rfl rfl rfl fun x17_6 T3 n3 h9 ρ its hS => ?_
  refine dn ?_
  refine CV.cond h9 rfl (fun e h10 => ?_) (fun e h10 => ?_)
  ·
   clear h6 h7 h8 h9
   subst e
   cases h10
  ·
   clear h6 h7 h8 h9
   subst e
   refine CV.skip ?_
   refine PV.blockN ?_
   refine PV.thenN ?_
   refine CV.region ?_
   refine mv ?_
   refine vy (V.add h10 rfl rfl) fun x11_7 h11 => ?_
   refine as_ ?_
   refine LV.done ?_
   exact pb4 hS h11 ⟨rfl, rfl, rfl, rfl, trivial⟩
 ·
  clear h3 h4 h5
  subst e
  refine CV.exit ?_
  refine PV.thenE ?_
  refine PV.thenE ?_
  refine PV.blockE ?_
  refine PV.thenN ?_
  refine sr ?_
  refine as_ ?_
  refine dn ?_
  refine CV.ret ?_
  cases h6
  exact PV.ret (by simp) Tryz.results73 hS (RS.tmp rfl RS.nil) rfl
noncomputable def g43_k1 (ro : List HT) (y2 y3 y23 : AV) (T2 : HT) (n2 : Nat) : R :=
 condK 430016 y23
 (
  .bad 430017
 )
 (
  ncK 430019 y3 fun x26_7 =>
  faK 430020 x26_7 1 fun x27_8 =>
  ldQK 430021 T2 ro [y3] x27_8 fun x28_9 =>
  ncK 430023 y3 fun x31_10 =>
  faK 430024 x31_10 0 fun x32_11 =>
  ldQK 430025 T2 ro [y3] x32_11 fun x33_12 =>
  callK (g73 ro x28_9 T2 n2) fun x29_13 T3 n3 =>
  keepK 430027 T2 T3 [y3] <|
  callK (g17 ro x29_13 x33_12 T3 n3) fun x34_14 T4 n4 =>
  stAK 430029 T4 y2 x34_14 5 fun T5 =>
  ldAK 430030 T5 ro y2 5 fun x2_15 =>
  .ok (.val x2_15) T5 n4
 )
noncomputable def g43 (ro : List HT) (a0 : AV) (T : HT) (nx : Nat) : R :=
 newK T nx (.obj [.lit (.int .i64 0), .lit (.bool false), .lit (.int .i64 0), .lit (.bool false), .lit (.string ⟨#[]⟩)] 36) fun x2_1 T1 n1 =>
 asK 430003 a0 72 (.tup [.lit (.pointer none), .lit (.bool false)]) fun x7_2 =>
 exK 430005 x7_2 0 fun x8_3 =>
 exK 430006 x7_2 1 fun x9_4 =>
 notK 430010 x9_4 fun x11_5 =>
 condK 430011 x11_5
 (
  .bad 430012
 )
 (
  bin0 Tryz.prog .eql 72 (.tmp 15) (.const (.pointer none)) 430014 x8_3 (.lit (.pointer none)) fun x16_6 =>
  condK 430031 x16_6
  (
   g43_k1 ro x2_1 x8_3 (.lit (.bool true)) T1 n1
  )
  (
   ncK 430034 x8_3 fun x19_16 =>
   faK 430035 x19_16 1 fun x20_17 =>
   ldK 430036 T1 ro x20_17 fun x21_18 =>
   bin0 Tryz.prog .eql 25 (.tmp 21) (.const (.nilIface)) 430037 x21_18 (.lit (.nilIface)) fun x22_19 =>
   g43_k1 ro x2_1 x8_3 x22_19 T1 n1
  )
 )
theorem g43_ok (ro : List HT) (a0 : AV) (T : HT) (nx : Nat) : GOk Tryz.prog envE 43 [a0] ro T nx (g43 ro a0 T nx) := by
 refine GOk.of_body Tryz.func43 rfl Tryz.ntmps43 (by kernel_rfl) rfl fun r T' n' h1 w0 base ρ0 its hS hP => ?_
 have X : CtxW envE ρ0 ro r T' n' := trivial
 unfold g43 at h1
 refine sr ?_
 refine LV.alloc hS h1 rfl Spf.zr36 rfl rfl rfl fun x2_1 T1 n1 h2 ρ its hS hdr => ?_
 refine dn ?_
 refine sr ?_
 refine mv ?_
 refine vy (V.as h2 rfl Spf.ni72 Spf.za72) fun x7_2 h3 => ?_
 refine mv ?_
 refine vy (V.ex h3 rfl) fun x8_3 h4 => ?_
 refine vy (V.ex h4 rfl) fun x9_4 h5 => ?_
 refine as_ ?_
 refine as_ ?_
 refine dn ?_
 refine CV.seq ?_
 refine sr ?_
 refine mv ?_
 refine vy (V.not h5 rfl) fun x11_5 h6 => ?_
 refine dn ?_
 refine CV.cond h6 rfl (fun e h7 => ?_) (fun e h7 => ?_)
 ·
  clear h1 h2 h3 h4 h5 h6
  subst e
  cases h7
 ·
  clear h1 h2 h3 h4 h5 h6
  subst e
  refine CV.skip ?_
  refine PV.thenN ?_
  refine CV.seq ?_
  refine sr ?_
  refine mv ?_
  refine vy (V.bin0 h7 rfl rfl) fun x16_6 h8 => ?_
  refine mv ?_
  refine ls3 X 2 3 23 [] (g43_k1 ro) 6 ?_ ?_
  ·
   rcases condK_inv h8 with ⟨e, h22⟩ | ⟨e, h22⟩
   ·
    clear h7 h8
    subst e
    refine sk ?_
    refine sk ?_
    refine sk ?_
    refine sk ?_
    refine sk ?_
    refine pu ?_
    exact la3 hS h22 ⟨rfl, rfl, rfl, trivial⟩
   ·
    clear h7 h8
    subst e
    refine mv ?_
    refine vy (V.nc h22 rfl) fun x19_16 h23 => ?_
    refine vy (V.fa h23 rfl Spf.fo74_1) fun x20_17 h24 => ?_
    refine vy (V.ld hS h24 rfl Spf.one25) fun x21_18 h25 => ?_
    refine vy (V.bin0 h25 rfl rfl) fun x22_19 h26 => ?_
    refine pu ?_
    exact la3 hS h26 ⟨rfl, rfl, rfl, trivial⟩
  ·
   intro y2 y3 y23 T2 n2 ρ its hS h9
   unfold g43_k1 at h9
   clear h7 h8
   refine dn ?_
   refine CV.cond h9 rfl (fun e h10 => ?_) (fun e h10 => ?_)
   ·
    clear h9
    subst e
    cases h10
   ·
    clear h9
    subst e
    refine CV.skip ?_
    refine PV.thenN ?_
    refine CV.seq ?_
    refine CV.regionMS hS [y3] [(0, .anywhere), (1, .anywhere), (2, .anywhere), (3, .held), (5, .anywhere), (6, .anywhere), (7, .anywhere), (8, .held), (4, .alone), (9, .alone), (10, .alone)] rfl (fun c a a' w hd hq => PanicOk.root (P := Tryz.prog) (fn := Tryz.f43) (w0 := w0) (base := base) (E := envE) (ro := ro) (r := r) (T' := T') (n' := n') (ρ0 := ρ0) c a a' w hd hq) (by kernel_rfl) ?_
    have hK := KeepS.start [y3] hS
    have hR := hS
    have hP0 := hP
    replace hP := PK.up hR hP
    replace hS := hR.root
    refine MV.step0 (i := 0) rfl (VAL.move rfl) rfl rfl rfl ?_
    refine MV.lift0 (i := 1) rfl (V.nc h10 rfl) rfl rfl rfl fun x26_7 h11 => ?_
    refine MV.lift0 (i := 2) rfl (V.fa h11 rfl Spf.fo74_1) rfl rfl rfl fun x27_8 h12 => ?_
    refine MV.lift1 (i := 3) rfl hK (V.ldQ hS h12 rfl Spf.one25) rfl rfl rfl [] (by kernel_rfl) fun x28_9 h13 => ?_
    refine MV.step0 (i := 5) rfl (VAL.move rfl) rfl rfl rfl ?_
    refine MV.lift0 (i := 6) rfl (V.nc h13 rfl) rfl rfl rfl fun x31_10 h14 => ?_
    refine MV.lift0 (i := 7) rfl (V.fa h14 rfl Spf.fo74_0) rfl rfl rfl fun x32_11 h15 => ?_
    refine MV.lift1 (i := 8) rfl hK (V.ldQ hS h15 rfl Spf.one3) rfl rfl rfl [3] (by kernel_rfl) fun x33_12 h16 => ?_
    refine MV.force (i := 4) rfl ?_
    refine LV.call hS h16 (g73_ok _ _ _ _ ) hP rfl rfl rfl rfl fun x29_13 T3 n3 h17 ρ its hS => ?_
    obtain ⟨hK, h18⟩ := KeepS.step hR hS h17
    refine LV.nextM [8] (by kernel_rfl) (fun _ => hK) ?_
    refine MV.force (i := 9) rfl ?_
    refine LV.call hS h18 (g17_ok _ _ _ _ _ ) hP rfl rfl rfl rfl fun x34_14 T4 n4 h19 ρ its hS => ?_
    refine LV.nextM [] (by kernel_rfl) (fun z => absurd rfl z) ?_
    refine MV.force (i := 10) rfl ?_
    refine LV.stA hS h19 rfl rfl rfl Spf.agg36 rfl rfl rfl fun T5 its h20 hS => ?_
    refine LV.nextM [] (by kernel_rfl) (fun z => absurd rfl z) ?_
    replace hS := hR.up hS
    replace hP := hP0
    refine mdn ?_
    refine CV.ret ?_
    refine PV.ldA (x := .tmp 2) (t := 36) hS h20 rfl Spf.agg36 fun x2_15 h21 hVx2_15 => ?_
    cases h21
    exact PV.ret (by simp) Tryz.results43 hS (RS.cell hVx2_15 RS.nil) rfl
noncomputable def g15_k1 (ro : List HT) (y2 y3 y26 : AV) (T4 : HT) (n4 : Nat) : R :=
 condK 150022 y26
 (
  .bad 150023
 )
 (
  fldK 150025 T4 ro y3 1 fun x31_10 =>
  callK (g43 ro x31_10 T4 n4) fun x32_11 T5 n5 =>
  newK T5 n5 (.obj [.lit (.int .i64 0), .lit (.bool false), .lit (.int .i64 0), .lit (.bool false), .lit (.string ⟨#[]⟩)] 36) fun x5_12 T6 n6 =>
  stAK 150028 T6 x5_12 x32_11 5 fun T7 =>
  faK 150029 x5_12 0 fun x33_13 =>
  ldK 150030 T7 ro x33_13 fun x34_14 =>
  faK 150031 x5_12 1 fun x35_15 =>
  ldK 150032 T7 ro x35_15 fun x36_16 =>
  faK 150033 x5_12 2 fun x37_17 =>
  ldK 150034 T7 ro x37_17 fun x38_18 =>
  ncK 150036 y3 fun x40_19 =>
  faK 150037 x40_19 0 fun x41_20 =>
  ldK 150038 T7 ro x41_20 fun x42_21 =>
  optK 150039 (bld36 [(0, x34_14), (1, x36_16), (2, x38_18), (3, (.lit (.bool true))), (4, x42_21)]) fun x43_22 =>
  stAK 150040 T7 y2 x43_22 5 fun T8 =>
  ldAK 150041 T8 ro y2 5 fun x2_23 =>
  .ok (.val x2_23) T8 n6
 )
noncomputable def g15 (ro : List HT) (a0 : AV) (T : HT) (nx : Nat) : R :=
 newK T nx (.obj [.lit (.int .i64 0), .lit (.bool false), .lit (.int .i64 0), .lit (.bool false), .lit (.string ⟨#[]⟩)] 36) fun x2_1 T1 n1 =>
 bin0 Tryz.prog .eql 25 (.tmp 6) (.const (.nilIface)) 150003 a0 (.lit (.nilIface)) fun x7_2 =>
 condK 150004 x7_2
 (
  callK (g42 ro T1 n1) fun x8_3 T2 n2 =>
  stAK 150006 T2 x2_1 x8_3 5 fun T3 =>
  ldAK 150007 T3 ro x2_1 5 fun x2_4 =>
  .ok (.val x2_4) T3 n2
 )
 (
  asK 150009 a0 80 (.tup [.lit (.pointer none), .lit (.bool false)]) fun x11_5 =>
  exK 150011 x11_5 0 fun x12_6 =>
  exK 150012 x11_5 1 fun x13_7 =>
  notK 150016 x13_7 fun x15_8 =>
  condK 150017 x15_8
  (
   .bad 150018
  )
  (
   bin0 Tryz.prog .eql 80 (.tmp 18) (.const (.pointer none)) 150020 x12_6 (.lit (.pointer none)) fun x19_9 =>
   condK 150042 x19_9
   (
    g15_k1 ro x2_1 x12_6 (.lit (.bool true)) T1 n1
   )
   (
    ncK 150045 x12_6 fun x22_24 =>
    faK 150046 x22_24 1 fun x23_25 =>
    ldK 150047 T1 ro x23_25 fun x24_26 =>
    bin0 Tryz.prog .eql 25 (.tmp 24) (.const (.nilIface)) 150048 x24_26 (.lit (.nilIface)) fun x25_27 =>
    g15_k1 ro x2_1 x12_6 x25_27 T1 n1
   )
  )
 )
theorem g15_ok (ro : List HT) (a0 : AV) (T : HT) (nx : Nat) : GOk Tryz.prog envE 15 [a0] ro T nx (g15 ro a0 T nx) := by
 refine GOk.of_body Tryz.func15 rfl Tryz.ntmps15 (by kernel_rfl) rfl fun r T' n' h1 w0 base ρ0 its hS hP => ?_
 have X : CtxW envE ρ0 ro r T' n' := trivial
 unfold g15 at h1
 refine sr ?_
 refine LV.alloc hS h1 rfl Spf.zr36 rfl rfl rfl fun x2_1 T1 n1 h2 ρ its hS hdr => ?_
 refine dn ?_
 refine CV.seq ?_
 refine sr ?_
 refine mv ?_
 refine vy (V.bin0 h2 rfl rfl) fun x7_2 h3 => ?_
 refine dn ?_
 refine CV.cond h3 rfl (fun e h4 => ?_) (fun e h4 => ?_)
 ·
  clear h1 h2 h3
  subst e
  refine sr ?_
  refine LV.call hS h4 (g42_ok _ _ _ ) hP rfl rfl rfl rfl fun x8_3 T2 n2 h5 ρ its hS => ?_
  refine LV.stA hS h5 rfl rfl rfl Spf.agg36 rfl rfl rfl fun T3 its h6 hS => ?_
  refine dn ?_
  refine CV.ret ?_
  refine PV.thenR ?_
  refine PV.ldA (x := .tmp 2) (t := 36) hS h6 rfl Spf.agg36 fun x2_4 h7 hVx2_4 => ?_
  cases h7
  exact PV.ret (by simp) Tryz.results15 hS (RS.cell hVx2_4 RS.nil) rfl
 ·
  clear h1 h2 h3
  subst e
  refine CV.skip ?_
  refine PV.thenN ?_
  refine sr ?_
  refine mv ?_
  refine vy (V.as h4 rfl Spf.ni80 Spf.za80) fun x11_5 h8 => ?_
  refine mv ?_
  refine vy (V.ex h8 rfl) fun x12_6 h9 => ?_
  refine vy (V.ex h9 rfl) fun x13_7 h10 => ?_
  refine as_ ?_
  refine as_ ?_
  refine dn ?_
  refine CV.seq ?_
  refine sr ?_
  refine mv ?_
  refine vy (V.not h10 rfl) fun x15_8 h11 => ?_
  refine dn ?_
  refine CV.cond h11 rfl (fun e h12 => ?_) (fun e h12 => ?_)
  ·
   clear h4 h8 h9 h10 h11
   subst e
   cases h12
  ·
   clear h4 h8 h9 h10 h11
   subst e
   refine CV.skip ?_
   refine PV.thenN ?_
   refine CV.seq ?_
   refine sr ?_
   refine mv ?_
   refine vy (V.bin0 h12 rfl rfl) fun x19_9 h13 => ?_
   refine mv ?_
   refine ls3 X 2 3 26 [] (g15_k1 ro) 6 ?_ ?_
   ·
    rcases condK_inv h13 with ⟨e, h32⟩ | ⟨e, h32⟩
    ·
     clear h12 h13
     subst e
     refine sk ?_
     refine sk ?_
     refine sk ?_
     refine sk ?_
     refine sk ?_
     refine pu ?_
     exact la3 hS h32 ⟨rfl, rfl, rfl, trivial⟩
    ·
     clear h12 h13
     subst e
     refine mv ?_
     refine vy (V.nc h32 rfl) fun x22_24 h33 => ?_
     refine vy (V.fa h33 rfl Spf.fo83_1) fun x23_25 h34 => ?_
     refine vy (V.ld hS h34 rfl Spf.one25) fun x24_26 h35 => ?_
     refine vy (V.bin0 h35 rfl rfl) fun x25_27 h36 => ?_
     refine pu ?_
     exact la3 hS h36 ⟨rfl, rfl, rfl, trivial⟩
   ·
    intro y2 y3 y26 T4 n4 ρ its hS h14
    unfold g15_k1 at h14
    clear h12 h13
    refine dn ?_
    refine CV.cond h14 rfl (fun e h15 => ?_) (fun e h15 => ?_)
    ·
     clear h14
     subst e
     cases h15
    ·
     clear h14
     subst e
     refine CV.skip ?_
     refine PV.thenN ?_
     refine sr ?_
     refine mv ?_
     refine fl hS h15 Spf.fo83_1 Spf.one25 fun x31_10 h16 => ?_
     refine LV.call hS h16 (g43_ok _ _ _ _ ) hP rfl rfl rfl rfl fun x32_11 T5 n5 h17 ρ its hS => ?_
     refine LV.alloc hS h17 rfl Spf.zr36 rfl rfl rfl fun x5_12 T6 n6 h18 ρ its hS hdr => ?_
     refine LV.stA hS h18 rfl rfl rfl Spf.agg36 rfl rfl rfl fun T7 its h19 hS => ?_
     refine dn ?_
     refine CV.seq ?_
     refine CV.regionM [(0, .anywhere), (1, .held), (2, .anywhere), (3, .held), (4, .anywhere), (5, .held), (6, .anywhere), (7, .anywhere), (8, .anywhere), (9, .held), (10, .held), (11, .alone)] rfl (fun c a a' w hd hq => PanicOk.root (P := Tryz.prog) (fn := Tryz.f15) (w0 := w0) (base := base) (E := envE) (ro := ro) (r := r) (T' := T') (n' := n') (ρ0 := ρ0) c a a' w hd hq) (by kernel_rfl) ?_
     refine MV.lift0 (i := 0) rfl (V.fa h19 rfl Spf.fo36_0) rfl rfl rfl fun x33_13 h20 => ?_
     refine MV.lift1 (i := 1) rfl (fun _ z => z) (V.ld hS h20 rfl Spf.one3) rfl rfl rfl [] (by kernel_rfl) fun x34_14 h21 => ?_
     refine MV.lift0 (i := 2) rfl (V.fa h21 rfl Spf.fo36_1) rfl rfl rfl fun x35_15 h22 => ?_
     refine MV.lift1 (i := 3) rfl (fun _ z => z) (V.ld hS h22 rfl Spf.one4) rfl rfl rfl [1] (by kernel_rfl) fun x36_16 h23 => ?_
     refine MV.lift0 (i := 4) rfl (V.fa h23 rfl Spf.fo36_2) rfl rfl rfl fun x37_17 h24 => ?_
     refine MV.lift1 (i := 5) rfl (fun _ z => z) (V.ld hS h24 rfl Spf.one3) rfl rfl rfl [3, 1] (by kernel_rfl) fun x38_18 h25 => ?_
     refine MV.step0 (i := 6) rfl (VAL.move rfl) rfl rfl rfl ?_
     refine MV.lift0 (i := 7) rfl (V.nc h25 rfl) rfl rfl rfl fun x40_19 h26 => ?_
     refine MV.lift0 (i := 8) rfl (V.fa h26 rfl Spf.fo83_0) rfl rfl rfl fun x41_20 h27 => ?_
     refine MV.lift1 (i := 9) rfl (fun _ z => z) (V.ld hS h27 rfl Spf.one9) rfl rfl rfl [5, 3, 1] (by kernel_rfl) fun x42_21 h28 => ?_
     refine MV.lift1 (i := 10) rfl (fun _ z => z) (V.bld h28 rfl) rfl rfl rfl [] (by kernel_rfl) fun x43_22 h29 => ?_
     refine MV.force (i := 11) rfl ?_
     refine LV.stA hS h29 rfl rfl rfl Spf.agg36 rfl rfl rfl fun T8 its h30 hS => ?_
     refine LV.nextM [] (by kernel_rfl) (fun z => absurd rfl z) ?_
     refine mdn ?_
     refine CV.ret ?_
     refine PV.ldA (x := .tmp 2) (t := 36) hS h30 rfl Spf.agg36 fun x2_23 h31 hVx2_23 => ?_
     cases h31
     exact PV.ret (by simp) Tryz.results15 hS (RS.cell hVx2_23 RS.nil) rfl

end Go.Proofs.YtdepmlcnllofiaaGreatDoor.Sp
