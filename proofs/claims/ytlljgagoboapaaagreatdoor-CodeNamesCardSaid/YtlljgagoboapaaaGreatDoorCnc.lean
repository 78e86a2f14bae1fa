/-
  Proved here: plain functions that do what the program's functions do, each with its proof.
-/
import Derived.Test.YtlljgagoboapaaaGreatDoorCnb
namespace Go.Proofs.YtlljgagoboapaaaGreatDoor.Cn
open Go.EY Go.EX Go.SX Go.RowKit
noncomputable def g173_k2 (ro : List HT) (lp1 : AV → AV → HT → Nat → R) (y0 y2 y41 : AV) (T2 : HT) (n2 : Nat) : R :=
 condK 1730005 y41
 (
  fldK 1730007 T2 ro y0 1 fun x45_2 =>
  addK Tryz.prog 3 (.tmp 45) (.const (.int .i64 (.ofNat 1))) 1730008 x45_2 (.lit (.int .i64 (.ofNat 1))) fun x46_3 =>
  faK 1730009 y0 1 fun x48_4 =>
  stK 1730010 T2 x48_4 x46_3 fun T3 =>
  lp1 y0 y2 T3 n2
 )
 (
  ncK 1730012 y0 fun x50_5 =>
  faK 1730013 x50_5 0 fun x51_6 =>
  ldK 1730014 T2 ro x51_6 fun x52_7 =>
  ncK 1730017 y0 fun x55_8 =>
  faK 1730018 x55_8 1 fun x56_9 =>
  ldK 1730019 T2 ro x56_9 fun x57_10 =>
  sliceF 1730020 x52_7 (some y2) (some x57_10) fun x58_11 =>
  callK (g211 ro T2 n2) fun x59_12 T4 n4 =>
  callK (g142 ro x59_12 x58_11 T4 n4) fun x61_13 T5 n5 =>
  condK 1730025 x61_13
  (
   .bad 1730026
  )
  (
   callK (g133 ro y0 (.lit (.int .i64 (.ofNat 1))) x58_11 y2 T5 n5) fun x69_14 T6 n6 =>
   .ok (.val (.tup [])) T6 n6
  )
 )
noncomputable def g173_b1 (ro : List HT) (lp1 : AV → AV → HT → Nat → R) (y0 y2 : AV) (T1 : HT) (n1 : Nat) : R :=
 ncK 1730032 y0 fun x9_15 =>
 faK 1730033 x9_15 1 fun x10_16 =>
 ldK 1730034 T1 ro x10_16 fun x11_17 =>
 ncK 1730036 y0 fun x13_18 =>
 faK 1730037 x13_18 0 fun x14_19 =>
 ldK 1730038 T1 ro x14_19 fun x15_20 =>
 lenTK 1730039 x15_20 fun x16_21 =>
 ltK Tryz.prog 3 (.tmp 11) (.tmp 16) 1730040 x11_17 x16_21 fun x17_22 =>
 condK 1730042 x17_22
 (
  ncK 1730044 y0 fun x20_23 =>
  faK 1730045 x20_23 0 fun x21_24 =>
  ldK 1730046 T1 ro x21_24 fun x22_25 =>
  ncK 1730048 y0 fun x24_26 =>
  faK 1730049 x24_26 1 fun x25_27 =>
  ldK 1730050 T1 ro x25_27 fun x26_28 =>
  ixK 1730051 x22_25 x26_28 fun x27_29 =>
  callQ 1730052 (g172 (T1 :: ro) x27_29 .nil n1) fun x28_30 =>
  condK 1730054 x28_30
  (
   g173_k2 ro lp1 y0 y2 (.lit (.bool true)) T1 n1
  )
  (
   ncK 1730058 y0 fun x31_31 =>
   faK 1730059 x31_31 0 fun x32_32 =>
   ldK 1730060 T1 ro x32_32 fun x33_33 =>
   ncK 1730062 y0 fun x35_34 =>
   faK 1730063 x35_34 1 fun x36_35 =>
   ldK 1730064 T1 ro x36_35 fun x37_36 =>
   ixK 1730065 x33_33 x37_36 fun x38_37 =>
   callQ 1730066 (g174 (T1 :: ro) x38_37 .nil n1) fun x39_38 =>
   g173_k2 ro lp1 y0 y2 x39_38 T1 n1
  )
 )
 (
  g173_k2 ro lp1 y0 y2 (.lit (.bool false)) T1 n1
 )
noncomputable def g173 (ro : List HT) (a0 : AV) (T : HT) (nx : Nat) : R :=
 fldK 1730002 T ro a0 1 fun x7_1 =>
 lpf2 1730004 (g173_b1 ro) 100000 a0 x7_1 T nx
theorem g173_ok (ro : List HT) (a0 : AV) (T : HT) (nx : Nat) : GOk Tryz.prog envE 173 [a0] ro T nx (g173 ro a0 T nx) := by
 refine GOk.of_body Tryz.func173 rfl Tryz.ntmps173 (by kernel_rfl) rfl fun r T' n' h1 w0 base ρ0 its hS hP => ?_
 have X : CtxW envE ρ0 ro r T' n' := trivial
 unfold g173 at h1
 refine sr ?_
 refine mv ?_
 refine fl hS h1 Cnf.fo255_1 Cnf.one3 fun x7_1 h2 => ?_
 refine as_ ?_
 refine dn ?_
 refine CV.seq ?_
 refine CV.block ?_
 refine cl2 X 0 2 [] hS h2 ⟨rfl, rfl, trivial⟩ ?_
 intro f1 y0 y2 T1 n1 ρ its hS h3
 unfold g173_b1 at h3
 clear h1 h2
 refine CV.seq ?_
 refine cs3 X 0 2 41 [] (g173_k2 ro (lpf2 1730004 (g173_b1 ro) f1)) ?_ ?_
 ·
  refine CV.regionM [(0, .anywhere), (1, .anywhere), (2, .anywhere), (3, .held), (4, .anywhere), (5, .anywhere), (6, .anywhere), (7, .held), (8, .held), (9, .held), (10, .held), (11, .held), (12, .held), (13, .held), (14, .held), (15, .anywhere), (16, .anywhere), (17, .anywhere), (18, .held), (19, .held), (20, .alone), (21, .anywhere), (22, .anywhere), (23, .anywhere), (24, .anywhere), (25, .held), (26, .anywhere), (27, .anywhere), (28, .anywhere), (29, .held), (30, .held), (31, .alone), (32, .anywhere), (33, .anywhere)] rfl (fun c a a' w hd hq => PanicOk.root (P := Tryz.prog) (fn := Tryz.f173) (w0 := w0) (base := base) (E := envE) (ro := ro) (r := r) (T' := T') (n' := n') (ρ0 := ρ0) c a a' w hd hq) (by kernel_rfl) ?_
  refine MV.step0 (i := 0) rfl (VAL.move rfl) rfl rfl rfl ?_
  refine MV.lift0 (i := 1) rfl (V.nc h3 rfl) rfl rfl rfl fun x9_15 h21 => ?_
  refine MV.lift0 (i := 2) rfl (V.fa h21 rfl Cnf.fo255_1) rfl rfl rfl fun x10_16 h22 => ?_
  refine MV.lift1 (i := 3) rfl (fun _ z => z) (V.ld hS h22 rfl Cnf.one3) rfl rfl rfl [] (by kernel_rfl) fun x11_17 h23 => ?_
  refine MV.step0 (i := 4) rfl (VAL.move rfl) rfl rfl rfl ?_
  refine MV.lift0 (i := 5) rfl (V.nc h23 rfl) rfl rfl rfl fun x13_18 h24 => ?_
  refine MV.lift0 (i := 6) rfl (V.fa h24 rfl Cnf.fo255_0) rfl rfl rfl fun x14_19 h25 => ?_
  refine MV.lift1 (i := 7) rfl (fun _ z => z) (V.ld hS h25 rfl Cnf.one9) rfl rfl rfl [3] (by kernel_rfl) fun x15_20 h26 => ?_
  refine MV.lift1 (i := 8) rfl (fun _ z => z) (V.lenT h26 rfl Cnf.ls9) rfl rfl rfl [3] (by kernel_rfl) fun x16_21 h27 => ?_
  refine MV.lift1 (i := 9) rfl (fun _ z => z) (V.lt h27 rfl rfl) rfl rfl rfl [] (by kernel_rfl) fun x17_22 h28 => ?_
  refine MV.step1 (i := 10) rfl (fun _ z => z) (VAL.move rfl) rfl rfl rfl [] (by kernel_rfl) ?_
  rcases condK_inv h28 with ⟨e, h29⟩ | ⟨e, h29⟩
  ·
   clear h3 h21 h22 h23 h24 h25 h26 h27 h28
   subst e
   refine MV.step1 (i := 11) rfl (fun _ z => z) (VAL.move rfl) rfl rfl rfl [] (by kernel_rfl) ?_
   refine MV.lift1 (i := 12) rfl (fun _ z => z) (V.nc h29 rfl) rfl rfl rfl [] (by kernel_rfl) fun x20_23 h30 => ?_
   refine MV.lift1 (i := 13) rfl (fun _ z => z) (V.fa h30 rfl Cnf.fo255_0) rfl rfl rfl [] (by kernel_rfl) fun x21_24 h31 => ?_
   refine MV.lift1 (i := 14) rfl (fun _ z => z) (V.ld hS h31 rfl Cnf.one9) rfl rfl rfl [] (by kernel_rfl) fun x22_25 h32 => ?_
   refine MV.step0 (i := 15) rfl (VAL.move rfl) rfl rfl rfl ?_
   refine MV.lift0 (i := 16) rfl (V.nc h32 rfl) rfl rfl rfl fun x24_26 h33 => ?_
   refine MV.lift0 (i := 17) rfl (V.fa h33 rfl Cnf.fo255_1) rfl rfl rfl fun x25_27 h34 => ?_
   refine MV.lift1 (i := 18) rfl (fun _ z => z) (V.ld hS h34 rfl Cnf.one3) rfl rfl rfl [14] (by kernel_rfl) fun x26_28 h35 => ?_
   refine MV.lift1 (i := 19) rfl (fun _ z => z) (V.ix h35 rfl rfl Cnf.st9) rfl rfl rfl [] (by kernel_rfl) fun x27_29 h36 => ?_
   refine MV.force (i := 20) rfl ?_
   refine LV.callQ hS h36 (g172_ok _ _ _ _ ) rfl rfl rfl rfl fun x28_30 h37 => ?_
   refine LV.nextM [] (by kernel_rfl) (fun z => absurd rfl z) ?_
   refine MV.step0 (i := 21) rfl (VAL.move rfl) rfl rfl rfl ?_
   rcases condK_inv h37 with ⟨e, h38⟩ | ⟨e, h38⟩
   ·
    clear h29 h30 h31 h32 h33 h34 h35 h36 h37
    subst e
    refine MV.skip0 (i := 22) rfl rfl rfl rfl ?_
    refine MV.skip0 (i := 23) rfl rfl rfl rfl ?_
    refine MV.skip0 (i := 24) rfl rfl rfl rfl ?_
    refine MV.skip1 (i := 25) rfl (fun _ z => z) rfl rfl rfl [] (by kernel_rfl) ?_
    refine MV.skip0 (i := 26) rfl rfl rfl rfl ?_
    refine MV.skip0 (i := 27) rfl rfl rfl rfl ?_
    refine MV.skip0 (i := 28) rfl rfl rfl rfl ?_
    refine MV.skip1 (i := 29) rfl (fun _ z => z) rfl rfl rfl [25] (by kernel_rfl) ?_
    refine MV.skip1 (i := 30) rfl (fun _ z => z) rfl rfl rfl [] (by kernel_rfl) ?_
    refine MV.force (i := 31) rfl ?_
    refine sk ?_
    refine LV.nextM [] (by kernel_rfl) (fun z => absurd rfl z) ?_
    refine MV.step0 (i := 32) rfl (VAL.pure rfl) rfl rfl rfl ?_
    refine MV.step0 (i := 33) rfl (VAL.pure rfl) rfl rfl rfl ?_
    refine MV.done ?_
    exact pa3 hS h38 ⟨rfl, rfl, rfl, trivial⟩
   ·
    clear h29 h30 h31 h32 h33 h34 h35 h36 h37
    subst e
    refine MV.step0 (i := 22) rfl (VAL.move rfl) rfl rfl rfl ?_
    refine MV.lift0 (i := 23) rfl (V.nc h38 rfl) rfl rfl rfl fun x31_31 h39 => ?_
    refine MV.lift0 (i := 24) rfl (V.fa h39 rfl Cnf.fo255_0) rfl rfl rfl fun x32_32 h40 => ?_
    refine MV.lift1 (i := 25) rfl (fun _ z => z) (V.ld hS h40 rfl Cnf.one9) rfl rfl rfl [] (by kernel_rfl) fun x33_33 h41 => ?_
    refine MV.step0 (i := 26) rfl (VAL.move rfl) rfl rfl rfl ?_
    refine MV.lift0 (i := 27) rfl (V.nc h41 rfl) rfl rfl rfl fun x35_34 h42 => ?_
    refine MV.lift0 (i := 28) rfl (V.fa h42 rfl Cnf.fo255_1) rfl rfl rfl fun x36_35 h43 => ?_
    refine MV.lift1 (i := 29) rfl (fun _ z => z) (V.ld hS h43 rfl Cnf.one3) rfl rfl rfl [25] (by kernel_rfl) fun x37_36 h44 => ?_
    refine MV.lift1 (i := 30) rfl (fun _ z => z) (V.ix h44 rfl rfl Cnf.st9) rfl rfl rfl [] (by kernel_rfl) fun x38_37 h45 => ?_
    refine MV.force (i := 31) rfl ?_
    refine LV.callQ hS h45 (g174_ok _ _ _ _ ) rfl rfl rfl rfl fun x39_38 h46 => ?_
    refine LV.nextM [] (by kernel_rfl) (fun z => absurd rfl z) ?_
    refine MV.step0 (i := 32) rfl (VAL.pure rfl) rfl rfl rfl ?_
    refine MV.step0 (i := 33) rfl (VAL.pure rfl) rfl rfl rfl ?_
    refine MV.done ?_
    exact pa3 hS h46 ⟨rfl, rfl, rfl, trivial⟩
  ·
   clear h3 h21 h22 h23 h24 h25 h26 h27 h28
   subst e
   refine MV.skip1 (i := 11) rfl (fun _ z => z) rfl rfl rfl [] (by kernel_rfl) ?_
   refine MV.skip1 (i := 12) rfl (fun _ z => z) rfl rfl rfl [] (by kernel_rfl) ?_
   refine MV.skip1 (i := 13) rfl (fun _ z => z) rfl rfl rfl [] (by kernel_rfl) ?_
   refine MV.skip1 (i := 14) rfl (fun _ z => z) rfl rfl rfl [] (by kernel_rfl) ?_
   refine MV.skip0 (i := 15) rfl rfl rfl rfl ?_
   refine MV.skip0 (i := 16) rfl rfl rfl rfl ?_
   refine MV.skip0 (i := 17) rfl rfl rfl rfl ?_
   refine MV.skip1 (i := 18) rfl (fun _ z => z) rfl rfl rfl [14] (by kernel_rfl) ?_
   refine MV.skip1 (i := 19) rfl (fun _ z => z) rfl rfl rfl [] (by kernel_rfl) ?_
   refine MV.force (i := 20) rfl ?_
   refine sk ?_
   refine LV.nextM [] (by kernel_rfl) (fun z => absurd rfl z) ?_
   refine MV.skip0 (i := 21) rfl rfl rfl rfl ?_
   refine MV.skip0 (i := 22) rfl rfl rfl rfl ?_
   refine MV.skip0 (i := 23) rfl rfl rfl rfl ?_
   refine MV.skip0 (i := 24) rfl rfl rfl rfl ?_
   refine MV.skip1 (i := 25) rfl (fun _ z => z) rfl rfl rfl [] (by kernel_rfl) ?_
   refine MV.skip0 (i := 26) rfl rfl rfl rfl ?_
   refine MV.skip0 (i := 27) rfl rfl rfl rfl ?_
   refine MV.skip0 (i := 28) rfl rfl rfl rfl ?_
   refine MV.skip1 (i := 29) rfl (fun _ z => z) rfl rfl rfl [25] (by kernel_rfl) ?_
   refine MV.skip1 (i := 30) rfl (fun _ z => z) rfl rfl rfl [] (by kernel_rfl) ?_
   refine MV.force (i := 31) rfl ?_
   refine sk ?_
   refine LV.nextM [] (by kernel_rfl) (fun z => absurd rfl z) ?_
   refine MV.skip0 (i := 32) rfl rfl rfl rfl ?_
   refine MV.step0 (i := 33) rfl (VAL.pure rfl) rfl rfl rfl ?_
   refine MV.done ?_
   exact pa3 hS h29 ⟨rfl, rfl, rfl, trivial⟩
 ·
  intro y0 y2 y41 T2 n2 ρ its hS h4
  unfold g173_k2 at h4
  clear h3
  refine CV.cond h4 rfl (fun e h5 => ?_) (fun e h5 => ?_)
  ·
   clear h4
   subst e
   refine CV.skip ?_
   refine PV.thenN ?_
   refine CV.block ?_
   refine CV.region ?_
   refine mv ?_
   refine fl hS h5 Cnf.fo255_1 Cnf.one3 fun x45_2 h6 => ?_
   refine vy (V.add h6 rfl rfl) fun x46_3 h7 => ?_
   refine fa2 h7 Cnf.fo255_1 fun x48_4 h8 => ?_
   refine LV.st hS h8 rfl rfl rfl Cnf.siz3 rfl rfl fun T3 its h9 hS => ?_
   refine LV.done ?_
   refine PV.blockN ?_
   exact pb2 hS h9 ⟨rfl, rfl, trivial⟩
  ·
   clear h4
   subst e
   refine CV.exit ?_
   refine PV.thenE ?_
   refine PV.thenE ?_
   refine PV.blockE ?_
   refine PV.thenN ?_
   refine CV.seq ?_
   refine CV.regionM [(0, .anywhere), (1, .anywhere), (2, .anywhere), (3, .held), (4, .anywhere), (5, .anywhere), (6, .anywhere), (7, .anywhere), (8, .held), (9, .held), (10, .held)] rfl (fun c a a' w hd hq => PanicOk.root (P := Tryz.prog) (fn := Tryz.f173) (w0 := w0) (base := base) (E := envE) (ro := ro) (r := r) (T' := T') (n' := n') (ρ0 := ρ0) c a a' w hd hq) (by kernel_rfl) ?_
   refine MV.step0 (i := 0) rfl (VAL.move rfl) rfl rfl rfl ?_
   refine MV.lift0 (i := 1) rfl (V.nc h5 rfl) rfl rfl rfl fun x50_5 h10 => ?_
   refine MV.lift0 (i := 2) rfl (V.fa h10 rfl Cnf.fo255_0) rfl rfl rfl fun x51_6 h11 => ?_
   refine MV.lift1 (i := 3) rfl (fun _ z => z) (V.ld hS h11 rfl Cnf.one9) rfl rfl rfl [] (by kernel_rfl) fun x52_7 h12 => ?_
   refine MV.step0 (i := 4) rfl (VAL.move rfl) rfl rfl rfl ?_
   refine MV.step0 (i := 5) rfl (VAL.move rfl) rfl rfl rfl ?_
   refine MV.lift0 (i := 6) rfl (V.nc h12 rfl) rfl rfl rfl fun x55_8 h13 => ?_
   refine MV.lift0 (i := 7) rfl (V.fa h13 rfl Cnf.fo255_1) rfl rfl rfl fun x56_9 h14 => ?_
   refine MV.lift1 (i := 8) rfl (fun _ z => z) (V.ld hS h14 rfl Cnf.one3) rfl rfl rfl [3] (by kernel_rfl) fun x57_10 h15 => ?_
   refine MV.lift1 (i := 9) rfl (fun _ z => z) (V.slBo (sliceF_ok h15) rfl rfl rfl Cnf.st9) rfl rfl rfl [] (by kernel_rfl) fun x58_11 h16 => ?_
   refine MV.step1 (i := 10) rfl (fun _ z => z) (VAL.assign rfl) rfl rfl rfl [] (by kernel_rfl) ?_
   refine mdn ?_
   refine CV.seq ?_
   refine sr ?_
   refine LV.call hS h16 (g211_ok _ _ _ ) hP rfl rfl rfl rfl fun x59_12 T4 n4 h17 ρ its hS => ?_
   refine mv ?_
   refine LV.call hS h17 (g142_ok _ _ _ _ _ ) hP rfl rfl rfl rfl fun x61_13 T5 n5 h18 ρ its hS => ?_
   refine dn ?_
   refine CV.cond h18 rfl (fun e h19 => ?_) (fun e h19 => ?_)
   ·
    clear h5 h10 h11 h12 h13 h14 h15 h16 h17 h18
    subst e
    cases h19
   ·
    clear h5 h10 h11 h12 h13 h14 h15 h16 h17 h18
    subst e
    refine CV.skip ?_
    refine PV.thenN ?_
    refine CV.region ?_
    refine mv ?_
    refine mv ?_
    refine mv ?_
    refine LV.call hS h19 (g133_ok _ _ _ _ _ _ _ ) hP rfl rfl rfl rfl fun x69_14 T6 n6 h20 ρ its hS => ?_
    refine LV.done ?_
    cases h20
    exact PV.ret (by simp) Tryz.results173 hS RS.nil rfl
noncomputable def g175_k3 (ro : List HT) (y0 y2 y3 y4 y84 : AV) (T5 : HT) (n5 : Nat) : R :=
 condK 1750039 y84
 (
  .bad 1750040
 )
 (
  callK (g133 ro y0 (.lit (.int .i64 (.ofNat 2))) y4 y3 T5 n5) fun x90_22 T6 n6 =>
  .ok (.val (.lit (.nilIface))) T6 n6
 )
noncomputable def g175_k4 (ro : List HT) (y0 y2 y3 y4 y83 : AV) (T7 : HT) (n7 : Nat) : R :=
 g175_k3 ro y0 y2 y3 y4 y83 T7 n7
noncomputable def g175_k2 (ro : List HT) (lp1 : AV → AV → AV → HT → Nat → R) (y0 y2 y3 y42 : AV) (T2 : HT) (n2 : Nat) : R :=
 condK 1750006 y42
 (
  ncK 1750008 y0 fun x44_2 =>
  faK 1750009 x44_2 0 fun x45_3 =>
  ldK 1750010 T2 ro x45_3 fun x46_4 =>
  ncK 1750012 y0 fun x48_5 =>
  faK 1750013 x48_5 1 fun x49_6 =>
  ldK 1750014 T2 ro x49_6 fun x50_7 =>
  ixK 1750015 x46_4 x50_7 fun x51_8 =>
  callK (g172 ro x51_8 T2 n2) fun x52_9 T3 n3 =>
  condK 1750017 x52_9
  (
   .bad 1750018
  )
  (
   fldK 1750020 T3 ro y0 1 fun x58_10 =>
   addK Tryz.prog 3 (.tmp 58) (.const (.int .i64 (.ofNat 1))) 1750021 x58_10 (.lit (.int .i64 (.ofNat 1))) fun x59_11 =>
   faK 1750022 y0 1 fun x61_12 =>
   stK 1750023 T3 x61_12 x59_11 fun T4 =>
   lp1 y0 y2 y3 T4 n3
  )
 )
 (
  ncK 1750025 y0 fun x63_13 =>
  faK 1750026 x63_13 0 fun x64_14 =>
  ldK 1750027 T2 ro x64_14 fun x65_15 =>
  ncK 1750030 y0 fun x68_16 =>
  faK 1750031 x68_16 1 fun x69_17 =>
  ldK 1750032 T2 ro x69_17 fun x70_18 =>
  sliceF 1750033 x65_15 (some y3) (some x70_18) fun x71_19 =>
  lenTK 1750036 x71_19 fun x73_20 =>
  gtK Tryz.prog 3 (.tmp 73) (.const (.int .i64 (.ofNat 600))) 1750037 x73_20 (.lit (.int .i64 (.ofNat 600))) fun x74_21 =>
  condK 1750046 x74_21
  (
   g175_k3 ro y0 y2 y3 x71_19 (.lit (.bool true)) T2 n2
  )
  (
   ixK 1750049 x71_19 (.lit (.int .i64 (.ofNat 0))) fun x77_23 =>
   eqK Tryz.prog 5 (.tmp 77) (.const (.int .u8 (.ofNat 48))) 1750050 x77_23 (.lit (.int .u8 (.ofNat 48))) fun x78_24 =>
   condK 1750053 x78_24
   (
    lenTK 1750055 x71_19 fun x81_25 =>
    gtK Tryz.prog 3 (.tmp 81) (.const (.int .i64 (.ofNat 1))) 1750056 x81_25 (.lit (.int .i64 (.ofNat 1))) fun x82_26 =>
    g175_k4 ro y0 y2 y3 x71_19 x82_26 T2 n2
   )
   (
    g175_k4 ro y0 y2 y3 x71_19 (.lit (.bool false)) T2 n2
   )
  )
 )
noncomputable def g175_b1 (ro : List HT) (lp1 : AV → AV → AV → HT → Nat → R) (y0 y2 y3 : AV) (T1 : HT) (n1 : Nat) : R :=
 ncK 1750060 y0 fun x10_27 =>
 faK 1750061 x10_27 1 fun x11_28 =>
 ldK 1750062 T1 ro x11_28 fun x12_29 =>
 ncK 1750064 y0 fun x14_30 =>
 faK 1750065 x14_30 0 fun x15_31 =>
 ldK 1750066 T1 ro x15_31 fun x16_32 =>
 lenTK 1750067 x16_32 fun x17_33 =>
 ltK Tryz.prog 3 (.tmp 12) (.tmp 17) 1750068 x12_29 x17_33 fun x18_34 =>
 condK 1750070 x18_34
 (
  ncK 1750072 y0 fun x21_35 =>
  faK 1750073 x21_35 0 fun x22_36 =>
  ldK 1750074 T1 ro x22_36 fun x23_37 =>
  ncK 1750076 y0 fun x25_38 =>
  faK 1750077 x25_38 1 fun x26_39 =>
  ldK 1750078 T1 ro x26_39 fun x27_40 =>
  ixK 1750079 x23_37 x27_40 fun x28_41 =>
  callQ 1750080 (g172 (T1 :: ro) x28_41 .nil n1) fun x29_42 =>
  condK 1750082 x29_42
  (
   g175_k2 ro lp1 y0 y2 y3 (.lit (.bool true)) T1 n1
  )
  (
   ncK 1750086 y0 fun x32_43 =>
   faK 1750087 x32_43 0 fun x33_44 =>
   ldK 1750088 T1 ro x33_44 fun x34_45 =>
   ncK 1750090 y0 fun x36_46 =>
   faK 1750091 x36_46 1 fun x37_47 =>
   ldK 1750092 T1 ro x37_47 fun x38_48 =>
   ixK 1750093 x34_45 x38_48 fun x39_49 =>
   callQ 1750094 (g174 (T1 :: ro) x39_49 .nil n1) fun x40_50 =>
   g175_k2 ro lp1 y0 y2 y3 x40_50 T1 n1
  )
 )
 (
  g175_k2 ro lp1 y0 y2 y3 (.lit (.bool false)) T1 n1
 )
noncomputable def g175 (ro : List HT) (a0 : AV) (T : HT) (nx : Nat) : R :=
 fldK 1750003 T ro a0 1 fun x8_1 =>
 lpf3 1750005 (g175_b1 ro) 100000 a0 (.lit (.nilIface)) x8_1 T nx
theorem g175_ok (ro : List HT) (a0 : AV) (T : HT) (nx : Nat) : GOk Tryz.prog envE 175 [a0] ro T nx (g175 ro a0 T nx) := by
 refine GOk.of_body Tryz.func175 rfl Tryz.ntmps175 (by kernel_rfl) rfl fun r T' n' h1 w0 base ρ0 its hS hP => ?_
 have X : CtxW envE ρ0 ro r T' n' := trivial
 unfold g175 at h1
 refine sr ?_
 refine as_ ?_
 refine dn ?_
 refine sr ?_
 refine mv ?_
 refine fl hS h1 Cnf.fo255_1 Cnf.one3 fun x8_1 h2 => ?_
 refine as_ ?_
 refine dn ?_
 refine CV.seq ?_
 refine CV.block ?_
 refine cl3 X 0 2 3 [] hS h2 ⟨rfl, rfl, rfl, trivial⟩ ?_
 intro f1 y0 y2 y3 T1 n1 ρ its hS h3
 unfold g175_b1 at h3
 clear h1 h2
 refine CV.seq ?_
 refine cs4 X 0 2 3 42 [] (g175_k2 ro (lpf3 1750005 (g175_b1 ro) f1)) ?_ ?_
 ·
  refine CV.regionM [(0, .anywhere), (1, .anywhere), (2, .anywhere), (3, .held), (4, .anywhere), (5, .anywhere), (6, .anywhere), (7, .held), (8, .held), (9, .held), (10, .held), (11, .held), (12, .held), (13, .held), (14, .held), (15, .anywhere), (16, .anywhere), (17, .anywhere), (18, .held), (19, .held), (20, .alone), (21, .anywhere), (22, .anywhere), (23, .anywhere), (24, .anywhere), (25, .held), (26, .anywhere), (27, .anywhere), (28, .anywhere), (29, .held), (30, .held), (31, .alone), (32, .anywhere), (33, .anywhere)] rfl (fun c a a' w hd hq => PanicOk.root (P := Tryz.prog) (fn := Tryz.f175) (w0 := w0) (base := base) (E := envE) (ro := ro) (r := r) (T' := T') (n' := n') (ρ0 := ρ0) c a a' w hd hq) (by kernel_rfl) ?_
  refine MV.step0 (i := 0) rfl (VAL.move rfl) rfl rfl rfl ?_
  refine MV.lift0 (i := 1) rfl (V.nc h3 rfl) rfl rfl rfl fun x10_27 h38 => ?_
  refine MV.lift0 (i := 2) rfl (V.fa h38 rfl Cnf.fo255_1) rfl rfl rfl fun x11_28 h39 => ?_
  refine MV.lift1 (i := 3) rfl (fun _ z => z) (V.ld hS h39 rfl Cnf.one3) rfl rfl rfl [] (by kernel_rfl) fun x12_29 h40 => ?_
  refine MV.step0 (i := 4) rfl (VAL.move rfl) rfl rfl rfl ?_
  refine MV.lift0 (i := 5) rfl (V.nc h40 rfl) rfl rfl rfl fun x14_30 h41 => ?_
  refine MV.lift0 (i := 6) rfl (V.fa h41 rfl Cnf.fo255_0) rfl rfl rfl fun x15_31 h42 => ?_
  refine MV.lift1 (i := 7) rfl (fun _ z => z) (V.ld hS h42 rfl Cnf.one9) rfl rfl rfl [3] (by kernel_rfl) fun x16_32 h43 => ?_
  refine MV.lift1 (i := 8) rfl (fun _ z => z) (V.lenT h43 rfl Cnf.ls9) rfl rfl rfl [3] (by kernel_rfl) fun x17_33 h44 => ?_
  refine MV.lift1 (i := 9) rfl (fun _ z => z) (V.lt h44 rfl rfl) rfl rfl rfl [] (by kernel_rfl) fun x18_34 h45 => ?_
  refine MV.step1 (i := 10) rfl (fun _ z => z) (VAL.move rfl) rfl rfl rfl [] (by kernel_rfl) ?_
  rcases condK_inv h45 with ⟨e, h46⟩ | ⟨e, h46⟩
  ·
   clear h3 h38 h39 h40 h41 h42 h43 h44 h45
   subst e
   refine MV.step1 (i := 11) rfl (fun _ z => z) (VAL.move rfl) rfl rfl rfl [] (by kernel_rfl) ?_
   refine MV.lift1 (i := 12) rfl (fun _ z => z) (V.nc h46 rfl) rfl rfl rfl [] (by kernel_rfl) fun x21_35 h47 => ?_
   refine MV.lift1 (i := 13) rfl (fun _ z => z) (V.fa h47 rfl Cnf.fo255_0) rfl rfl rfl [] (by kernel_rfl) fun x22_36 h48 => ?_
   refine MV.lift1 (i := 14) rfl (fun _ z => z) (V.ld hS h48 rfl Cnf.one9) rfl rfl rfl [] (by kernel_rfl) fun x23_37 h49 => ?_
   refine MV.step0 (i := 15) rfl (VAL.move rfl) rfl rfl rfl ?_
   refine MV.lift0 (i := 16) rfl (V.nc h49 rfl) rfl rfl rfl fun x25_38 h50 => ?_
   refine MV.lift0 (i := 17) rfl (V.fa h50 rfl Cnf.fo255_1) rfl rfl rfl fun x26_39 h51 => ?_
   refine MV.lift1 (i := 18) rfl (fun _ z => z) (V.ld hS h51 rfl Cnf.one3) rfl rfl rfl [14] (by kernel_rfl) fun x27_40 h52 => ?_
   refine MV.lift1 (i := 19) rfl (fun _ z => z) (V.ix h52 rfl rfl Cnf.st9) rfl rfl rfl [] (by kernel_rfl) fun x28_41 h53 => ?_
   refine MV.force (i := 20) rfl ?_
   refine LV.callQ hS h53 (g172_ok _ _ _ _ ) rfl rfl rfl rfl fun x29_42 h54 => ?_
   refine LV.nextM [] (by kernel_rfl) (fun z => absurd rfl z) ?_
   refine MV.step0 (i := 21) rfl (VAL.move rfl) rfl rfl rfl ?_
   rcases condK_inv h54 with ⟨e, h55⟩ | ⟨e, h55⟩
   ·
    clear h46 h47 h48 h49 h50 h51 h52 h53 h54
    subst e
    refine MV.skip0 (i := 22) rfl rfl rfl rfl ?_
    refine MV.skip0 (i := 23) rfl rfl rfl rfl ?_
    refine MV.skip0 (i := 24) rfl rfl rfl rfl ?_
    refine MV.skip1 (i := 25) rfl (fun _ z => z) rfl rfl rfl [] (by kernel_rfl) ?_
    refine MV.skip0 (i := 26) rfl rfl rfl rfl ?_
    refine MV.skip0 (i := 27) rfl rfl rfl rfl ?_
    refine MV.skip0 (i := 28) rfl rfl rfl rfl ?_
    refine MV.skip1 (i := 29) rfl (fun _ z => z) rfl rfl rfl [25] (by kernel_rfl) ?_
    refine MV.skip1 (i := 30) rfl (fun _ z => z) rfl rfl rfl [] (by kernel_rfl) ?_
    refine MV.force (i := 31) rfl ?_
    refine sk ?_
    refine LV.nextM [] (by kernel_rfl) (fun z => absurd rfl z) ?_
    refine MV.step0 (i := 32) rfl (VAL.pure rfl) rfl rfl rfl ?_
    refine MV.step0 (i := 33) rfl (VAL.pure rfl) rfl rfl rfl ?_
    refine MV.done ?_
    exact pa4 hS h55 ⟨rfl, rfl, rfl, rfl, trivial⟩
   ·
    clear h46 h47 h48 h49 h50 h51 h52 h53 h54
    subst e
    refine MV.step0 (i := 22) rfl (VAL.move rfl) rfl rfl rfl ?_
    refine MV.lift0 (i := 23) rfl (V.nc h55 rfl) rfl rfl rfl fun x32_43 h56 => ?_
    refine MV.lift0 (i := 24) rfl (V.fa h56 rfl Cnf.fo255_0) rfl rfl rfl fun x33_44 h57 => ?_
    refine MV.lift1 (i := 25) rfl (fun _ z => z) (V.ld hS h57 rfl Cnf.one9) rfl rfl rfl [] (by kernel_rfl) fun x34_45 h58 => ?_
    refine MV.step0 (i := 26) rfl (VAL.move rfl) rfl rfl rfl ?_
    refine MV.lift0 (i := 27) rfl (V.nc h58 rfl) rfl rfl rfl fun x36_46 h59 => ?_
    refine MV.lift0 (i := 28) rfl (V.fa h59 rfl Cnf.fo255_1) rfl rfl rfl fun x37_47 h60 => ?_
    refine MV.lift1 (i := 29) rfl (fun _ z => z) (V.ld hS h60 rfl Cnf.one3) rfl rfl rfl [25] (by kernel_rfl) fun x38_48 h61 => ?_
    refine MV.lift1 (i := 30) rfl (fun _ z => z) (V.ix h61 rfl rfl Cnf.st9) rfl rfl rfl [] (by kernel_rfl) fun x39_49 h62 => ?_
    refine MV.force (i := 31) rfl ?_
    refine LV.callQ hS h62 (g174_ok _ _ _ _ ) rfl rfl rfl rfl fun x40_50 h63 => ?_
    refine LV.nextM [] (by kernel_rfl) (fun z => absurd rfl z) ?_
    refine MV.step0 (i := 32) rfl (VAL.pure rfl) rfl rfl rfl ?_
    refine MV.step0 (i := 33) rfl (VAL.pure rfl) rfl rfl rfl ?_
    refine MV.done ?_
    exact pa4 hS h63 ⟨rfl, rfl, rfl, rfl, trivial⟩
  ·
   clear h3 h38 h39 h40 h41 h42 h43 h44 h45
   subst e
   refine MV.skip1 (i := 11) rfl (fun _ z => z) rfl rfl rfl [] (by kernel_rfl) ?_
   refine MV.skip1 (i := 12) rfl (fun _ z => z) rfl rfl rfl [] (by kernel_rfl) ?_
   refine MV.skip1 (i := 13) rfl (fun _ z => z) rfl rfl rfl [] (by kernel_rfl) ?_
   refine MV.skip1 (i := 14) rfl (fun _ z => z) rfl rfl rfl [] (by kernel_rfl) ?_
   refine MV.skip0 (i := 15) rfl rfl rfl rfl ?_
   refine MV.skip0 (i := 16) rfl rfl rfl rfl ?_
   refine MV.skip0 (i := 17) rfl rfl rfl rfl ?_
   refine MV.skip1 (i := 18) rfl (fun _ z => z) rfl rfl rfl [14] (by kernel_rfl) ?_
   refine MV.skip1 (i := 19) rfl (fun _ z => z) rfl rfl rfl [] (by kernel_rfl) ?_
   refine MV.force (i := 20) rfl ?_
   refine sk ?_
   refine LV.nextM [] (by kernel_rfl) (fun z => absurd rfl z) ?_
   refine MV.skip0 (i := 21) rfl rfl rfl rfl ?_
   refine MV.skip0 (i := 22) rfl rfl rfl rfl ?_
   refine MV.skip0 (i := 23) rfl rfl rfl rfl ?_
   refine MV.skip0 (i := 24) rfl rfl rfl rfl ?_
   refine MV.skip1 (i := 25) rfl (fun _ z => z) rfl rfl rfl [] (by kernel_rfl) ?_
   refine MV.skip0 (i := 26) rfl rfl rfl rfl ?_
   refine MV.skip0 (i := 27) rfl rfl rfl rfl ?_
   refine MV.skip0 (i := 28) rfl rfl rfl rfl ?_
   refine MV.skip1 (i := 29) rfl (fun _ z => z) rfl rfl rfl [25] (by kernel_rfl) ?_
   refine MV.skip1 (i := 30) rfl (fun _ z => z) rfl rfl rfl [] (by kernel_rfl) ?_
   refine MV.force (i := 31) rfl ?_
   refine sk ?_
   refine LV.nextM [] (by kernel_rfl) (fun z => absurd rfl z) ?_
   refine MV.skip0 (i := 32) rfl rfl rfl rfl ?_
   refine MV.step0 (i := 33) rfl (VAL.pure rfl) rfl rfl rfl ?_
   refine MV.done ?_
   exact pa4 hS h46 ⟨rfl, rfl, rfl, rfl, trivial⟩
 ·
  intro y0 y2 y3 y42 T2 n2 ρ its hS h4
  unfold g175_k2 at h4
  clear h3
  refine CV.cond h4 rfl (fun e h5 => ?_) (fun e h5 => ?_)
  ·
   clear h4
   subst e
   refine CV.skip ?_
   refine PV.thenN ?_
   refine CV.block ?_
   refine CV.seq ?_
   refine CV.seq ?_
   refine CV.regionM [(0, .anywhere), (1, .anywhere), (2, .anywhere), (3, .held), (4, .anywhere), (5, .anywhere), (6, .anywhere), (7, .held), (8, .held), (9, .alone)] rfl (fun c a a' w hd hq => PanicOk.root (P := Tryz.prog) (fn := Tryz.f175) (w0 := w0) (base := base) (E := envE) (ro := ro) (r := r) (T' := T') (n' := n') (ρ0 := ρ0) c a a' w hd hq) (by kernel_rfl) ?_
   refine MV.step0 (i := 0) rfl (VAL.move rfl) rfl rfl rfl ?_
   refine MV.lift0 (i := 1) rfl (V.nc h5 rfl) rfl rfl rfl fun x44_2 h6 => ?_
   refine MV.lift0 (i := 2) rfl (V.fa h6 rfl Cnf.fo255_0) rfl rfl rfl fun x45_3 h7 => ?_
   refine MV.lift1 (i := 3) rfl (fun _ z => z) (V.ld hS h7 rfl Cnf.one9) rfl rfl rfl [] (by kernel_rfl) fun x46_4 h8 => ?_
   refine MV.step0 (i := 4) rfl (VAL.move rfl) rfl rfl rfl ?_
   refine MV.lift0 (i := 5) rfl (V.nc h8 rfl) rfl rfl rfl fun x48_5 h9 => ?_
   refine MV.lift0 (i := 6) rfl (V.fa h9 rfl Cnf.fo255_1) rfl rfl rfl fun x49_6 h10 => ?_
   refine MV.lift1 (i := 7) rfl (fun _ z => z) (V.ld hS h10 rfl Cnf.one3) rfl rfl rfl [3] (by kernel_rfl) fun x50_7 h11 => ?_
   refine MV.lift1 (i := 8) rfl (fun _ z => z) (V.ix h11 rfl rfl Cnf.st9) rfl rfl rfl [] (by kernel_rfl) fun x51_8 h12 => ?_
   refine MV.force (i := 9) rfl ?_
   refine LV.call hS h12 (g172_ok _ _ _ _ ) hP rfl rfl rfl rfl fun x52_9 T3 n3 h13 ρ its hS => ?_
   refine LV.nextM [] (by kernel_rfl) (fun z => absurd rfl z) ?_
   refine mdn ?_
   refine CV.cond h13 rfl (fun e h14 => ?_) (fun e h14 => ?_)
   ·
    clear h5 h6 h7 h8 h9 h10 h11 h12 h13
    subst e
    cases h14
   ·
    clear h5 h6 h7 h8 h9 h10 h11 h12 h13
    subst e
    refine CV.skip ?_
    refine PV.thenN ?_
    refine CV.region ?_
    refine mv ?_
    refine fl hS h14 Cnf.fo255_1 Cnf.one3 fun x58_10 h15 => ?_
    refine vy (V.add h15 rfl rfl) fun x59_11 h16 => ?_
    refine fa2 h16 Cnf.fo255_1 fun x61_12 h17 => ?_
    refine LV.st hS h17 rfl rfl rfl Cnf.siz3 rfl rfl fun T4 its h18 hS => ?_
    refine LV.done ?_
    refine PV.blockN ?_
    exact pb3 hS h18 ⟨rfl, rfl, rfl, trivial⟩
  ·
   clear h4
   subst e
   refine CV.exit ?_
   refine PV.thenE ?_
   refine PV.thenE ?_
   refine PV.blockE ?_
   refine PV.thenN ?_
   refine CV.seq ?_
   refine CV.regionM [(0, .anywhere), (1, .anywhere), (2, .anywhere), (3, .held), (4, .anywhere), (5, .anywhere), (6, .anywhere), (7, .anywhere), (8, .held), (9, .held), (10, .held)] rfl (fun c a a' w hd hq => PanicOk.root (P := Tryz.prog) (fn := Tryz.f175) (w0 := w0) (base := base) (E := envE) (ro := ro) (r := r) (T' := T') (n' := n') (ρ0 := ρ0) c a a' w hd hq) (by kernel_rfl) ?_
   refine MV.step0 (i := 0) rfl (VAL.move rfl) rfl rfl rfl ?_
   refine MV.lift0 (i := 1) rfl (V.nc h5 rfl) rfl rfl rfl fun x63_13 h19 => ?_
   refine MV.lift0 (i := 2) rfl (V.fa h19 rfl Cnf.fo255_0) rfl rfl rfl fun x64_14 h20 => ?_
   refine MV.lift1 (i := 3) rfl (fun _ z => z) (V.ld hS h20 rfl Cnf.one9) rfl rfl rfl [] (by kernel_rfl) fun x65_15 h21 => ?_
   refine MV.step0 (i := 4) rfl (VAL.move rfl) rfl rfl rfl ?_
   refine MV.step0 (i := 5) rfl (VAL.move rfl) rfl rfl rfl ?_
   refine MV.lift0 (i := 6) rfl (V.nc h21 rfl) rfl rfl rfl fun x68_16 h22 => ?_
   refine MV.lift0 (i := 7) rfl (V.fa h22 rfl Cnf.fo255_1) rfl rfl rfl fun x69_17 h23 => ?_
   refine MV.lift1 (i := 8) rfl (fun _ z => z) (V.ld hS h23 rfl Cnf.one3) rfl rfl rfl [3] (by kernel_rfl) fun x70_18 h24 => ?_
   refine MV.lift1 (i := 9) rfl (fun _ z => z) (V.slBo (sliceF_ok h24) rfl rfl rfl Cnf.st9) rfl rfl rfl [] (by kernel_rfl) fun x71_19 h25 => ?_
   refine MV.step1 (i := 10) rfl (fun _ z => z) (VAL.assign rfl) rfl rfl rfl [] (by kernel_rfl) ?_
   refine mdn ?_
   refine CV.seq ?_
   refine sr ?_
   refine mv ?_
   refine vy (V.lenT h25 rfl Cnf.ls9) fun x73_20 h26 => ?_
   refine vy (V.gt h26 rfl rfl) fun x74_21 h27 => ?_
   refine mv ?_
   refine ls5 X 0 2 3 4 84 [] (g175_k3 ro) 9 ?_ ?_
   ·
    rcases condK_inv h27 with ⟨e, h31⟩ | ⟨e, h31⟩
    ·
     clear h5 h19 h20 h21 h22 h23 h24 h25 h26 h27
     subst e
     refine sk ?_
     refine sk ?_
     refine sk ?_
     refine sk ?_
     refine sk ?_
     refine sk ?_
     refine sk ?_
     refine sk ?_
     refine pu ?_
     exact la5 hS h31 ⟨rfl, rfl, rfl, rfl, rfl, trivial⟩
    ·
     clear h5 h19 h20 h21 h22 h23 h24 h25 h26 h27
     subst e
     refine mv ?_
     refine vy (V.ix h31 rfl rfl Cnf.st9) fun x77_23 h32 => ?_
     refine vy (V.eq h32 rfl rfl) fun x78_24 h33 => ?_
     refine mv ?_
     refine ls5 X 0 2 3 4 83 [(75, (.lit (.bool false)))] (g175_k4 ro) 4 ?_ ?_
     ·
      rcases condK_inv h33 with ⟨e, h35⟩ | ⟨e, h35⟩
      ·
       clear h31 h32 h33
       subst e
       refine mv ?_
       refine vy (V.lenT h35 rfl Cnf.ls9) fun x81_25 h36 => ?_
       refine vy (V.gt h36 rfl rfl) fun x82_26 h37 => ?_
       refine pu ?_
       exact la5 hS h37 ⟨rfl, rfl, rfl, rfl, rfl, rfl, trivial⟩
      ·
       clear h31 h32 h33
       subst e
       refine sk ?_
       refine sk ?_
       refine sk ?_
       refine pu ?_
       exact la5 hS h35 ⟨rfl, rfl, rfl, rfl, rfl, rfl, trivial⟩
     ·
      intro y0 y2 y3 y4 y83 T7 n7 ρ its hS h34
      unfold g175_k4 at h34
      clear h31 h32 h33
      refine pu ?_
      exact la5 hS h34 ⟨rfl, rfl, rfl, rfl, rfl, trivial⟩
   ·
    intro y0 y2 y3 y4 y84 T5 n5 ρ its hS h28
    unfold g175_k3 at h28
    clear h5 h19 h20 h21 h22 h23 h24 h25 h26 h27
    refine dn ?_
    refine CV.cond h28 rfl (fun e h29 => ?_) (fun e h29 => ?_)
    ·
     clear h28
     subst e
     cases h29
    ·
     clear h28
     subst e
     refine CV.skip ?_
     refine PV.thenN ?_
     refine sr ?_
     refine mv ?_
     refine mv ?_
     refine mv ?_
     refine LV.call hS h29 (g133_ok _ _ _ _ _ _ _ ) hP rfl rfl rfl rfl fun x90_22 T6 n6 h30 ρ its hS => ?_
     refine dn ?_
     refine sr ?_
     refine as_ ?_
     refine dn ?_
     refine CV.ret ?_
     cases h30
     exact PV.ret (by simp) Tryz.results175 hS (RS.tmp rfl RS.nil) rfl
noncomputable def g267 (ro : List HT) (a0 a1 : AV) (T : HT) (nx : Nat) : R :=
 ibsK 2670004 a0 a1 fun x7_1 =>
 .ok (.val x7_1) T nx
theorem g267_ok (ro : List HT) (a0 a1 : AV) (T : HT) (nx : Nat) : GOk Tryz.prog envE 267 [a0, a1] ro T nx (g267 ro a0 a1 T nx) := by
 refine GOk.of_body Tryz.func267 rfl Tryz.ntmps267 (by kernel_rfl) rfl fun r T' n' h1 w0 base ρ0 its hS hP => ?_
 have X : CtxW envE ρ0 ro r T' n' := trivial
 unfold g267 at h1
 refine sr ?_
 refine as_ ?_
 refine dn ?_
 refine sr ?_
 refine mv ?_
 refine mv ?_
 refine vy (Cnf.ibf276 h1 rfl rfl) fun x7_1 h2 => ?_
 refine as_ ?_
 refine dn ?_
 refine CV.ret ?_
 cases h2
 exact PV.ret (by simp) Tryz.results267 hS (RS.tmp rfl RS.nil) rfl
noncomputable def g234 (ro : List HT) (a0 a1 : AV) (T : HT) (nx : Nat) : R :=
 callK (g267 ro a0 a1 T nx) fun x7_1 T1 n1 =>
 .ok (.val x7_1) T1 n1
theorem g234_ok (ro : List HT) (a0 a1 : AV) (T : HT) (nx : Nat) : GOk Tryz.prog envE 234 [a0, a1] ro T nx (g234 ro a0 a1 T nx) := by
 refine GOk.of_body Tryz.func234 rfl Tryz.ntmps234 (by kernel_rfl) rfl fun r T' n' h1 w0 base ρ0 its hS hP => ?_
 have X : CtxW envE ρ0 ro r T' n' := trivial
 unfold g234 at h1
 refine sr ?_
 refine as_ ?_
 refine dn ?_
 refine sr ?_
 refine mv ?_
 refine mv ?_
 refine LV.call hS h1 (g267_ok _ _ _ _ _ ) hP rfl rfl rfl rfl fun x7_1 T1 n1 h2 ρ its hS => ?_
 refine as_ ?_
 refine dn ?_
 refine CV.ret ?_
 cases h2
 exact PV.ret (by simp) Tryz.results234 hS (RS.tmp rfl RS.nil) rfl
noncomputable def g177 (ro : List HT) (a0 : AV) (T : HT) (nx : Nat) : R :=
 callK (g233 ro a0 T nx) fun x7_1 T1 n1 =>
 eqSK Tryz.prog 9 (.tmp 8) (.const (.string ⟨⟨[]⟩⟩)) 1770006 x7_1 (.lit (.string ⟨⟨[]⟩⟩)) fun x9_2 =>
 condK 1770007 x9_2
 (
  .bad 1770008
 )
 (
  ixK 1770010 x7_1 (.lit (.int .i64 (.ofNat 0))) fun x16_3 =>
  callK (g234 ro (.lit (.string ⟨⟨[40, 91, 123]⟩⟩)) x16_3 T1 n1) fun x17_4 T2 n2 =>
  geK Tryz.prog 3 (.tmp 18) (.const (.int .i64 (.ofNat 0))) 1770014 x17_4 (.lit (.int .i64 (.ofNat 0))) fun x19_5 =>
  condK 1770015 x19_5
  (
   .bad 1770016
  )
  (
   ixK 1770018 x7_1 (.lit (.int .i64 (.ofNat 0))) fun x43_6 =>
   callK (g234 ro (.lit (.string ⟨⟨[41, 93, 125]⟩⟩)) x43_6 T2 n2) fun x44_7 T3 n3 =>
   geK Tryz.prog 3 (.tmp 44) (.const (.int .i64 (.ofNat 0))) 1770020 x44_7 (.lit (.int .i64 (.ofNat 0))) fun x45_8 =>
   condK 1770021 x45_8
   (
    .bad 1770022
   )
   (
    fldK 1770026 T3 ro a0 1 fun x85_9 =>
    callK (g133 ro a0 (.lit (.int .i64 (.ofNat 4))) x7_1 x85_9 T3 n3) fun x86_10 T4 n4 =>
    fldK 1770029 T4 ro a0 1 fun x90_11 =>
    lenTK 1770031 x7_1 fun x92_12 =>
    addK Tryz.prog 3 (.tmp 90) (.tmp 92) 1770032 x90_11 x92_12 fun x93_13 =>
    faK 1770033 a0 1 fun x95_14 =>
    stK 1770034 T4 x95_14 x93_13 fun T5 =>
    .ok (.val (.lit (.nilIface))) T5 n4
   )
  )
 )
theorem g177_ok (ro : List HT) (a0 : AV) (T : HT) (nx : Nat) : GOk Tryz.prog envE 177 [a0] ro T nx (g177 ro a0 T nx) := by
 refine GOk.of_body Tryz.func177 rfl Tryz.ntmps177 (by kernel_rfl) rfl fun r T' n' h1 w0 base ρ0 its hS hP => ?_
 have X : CtxW envE ρ0 ro r T' n' := trivial
 unfold g177 at h1
 refine sr ?_
 refine as_ ?_
 refine dn ?_
 refine sr ?_
 refine mv ?_
 refine LV.call hS h1 (g233_ok _ _ _ _ ) hP rfl rfl rfl rfl fun x7_1 T1 n1 h2 ρ its hS => ?_
 refine as_ ?_
 refine dn ?_
 refine CV.seq ?_
 refine sr ?_
 refine mv ?_
 refine vy (V.eqS h2 rfl rfl) fun x9_2 h3 => ?_
 refine dn ?_
 refine CV.cond h3 rfl (fun e h4 => ?_) (fun e h4 => ?_)
 ·
  clear h1 h2 h3
  subst e
  cases h4
 ·
  clear h1 h2 h3
  subst e
  refine CV.skip ?_
  refine PV.thenN ?_
  refine CV.seq ?_
  refine sr ?_
  refine mv ?_
  refine vy (V.ix h4 rfl rfl Cnf.st9) fun x16_3 h5 => ?_
  refine LV.call hS h5 (g234_ok _ _ _ _ _ ) hP rfl rfl rfl rfl fun x17_4 T2 n2 h6 ρ its hS => ?_
  refine as_ ?_
  refine dn ?_
  refine sr ?_
  refine mv ?_
  refine vy (V.ge h6 rfl rfl) fun x19_5 h7 => ?_
  refine dn ?_
  refine CV.cond h7 rfl (fun e h8 => ?_) (fun e h8 => ?_)
  ·
   clear h4 h5 h6 h7
   subst e
   cases h8
  ·
   clear h4 h5 h6 h7
   subst e
   refine CV.skip ?_
   refine PV.thenN ?_
   refine CV.seq ?_
   refine sr ?_
   refine mv ?_
   refine vy (V.ix h8 rfl rfl Cnf.st9) fun x43_6 h9 => ?_
   refine LV.call hS h9 (g234_ok _ _ _ _ _ ) hP rfl rfl rfl rfl fun x44_7 T3 n3 h10 ρ its hS => ?_
   refine vy (V.ge h10 rfl rfl) fun x45_8 h11 => ?_
   refine dn ?_
   refine CV.cond h11 rfl (fun e h12 => ?_) (fun e h12 => ?_)
   ·
    clear h8 h9 h10 h11
    subst e
    cases h12
   ·
    clear h8 h9 h10 h11
    subst e
    refine CV.skip ?_
    refine PV.thenN ?_
    refine sr ?_
    refine mv ?_
    refine mv ?_
    refine mv ?_
    refine fl hS h12 Cnf.fo255_1 Cnf.one3 fun x85_9 h13 => ?_
    refine LV.call hS h13 (g133_ok _ _ _ _ _ _ _ ) hP rfl rfl rfl rfl fun x86_10 T4 n4 h14 ρ its hS => ?_
    refine dn ?_
    refine sr ?_
    refine mv ?_
    refine fl hS h14 Cnf.fo255_1 Cnf.one3 fun x90_11 h15 => ?_
    refine mv ?_
    refine vy (V.lenT h15 rfl Cnf.ls9) fun x92_12 h16 => ?_
    refine vy (V.add h16 rfl rfl) fun x93_13 h17 => ?_
    refine fa2 h17 Cnf.fo255_1 fun x95_14 h18 => ?_
    refine LV.st hS h18 rfl rfl rfl Cnf.siz3 rfl rfl fun T5 its h19 hS => ?_
    refine dn ?_
    refine sr ?_
    refine as_ ?_
    refine dn ?_
    refine CV.ret ?_
    cases h19
    exact PV.ret (by simp) Tryz.results177 hS (RS.tmp rfl RS.nil) rfl
noncomputable def g130_k2 (ro : List HT) (y0 y2 y73 : AV) (T7 : HT) (n7 : Nat) : R :=
 condK 1300050 y73
 (
  .bad 1300051
 )
 (
  callK (g177 ro y0 T7 n7) fun x78_19 T8 n8 =>
  .ok (.val x78_19) T8 n8
 )
noncomputable def g130_k1 (ro : List HT) (y0 y2 y3 : AV) (T2 : HT) (n2 : Nat) : R :=
 callK (g172 ro y3 T2 n2) fun x59_14 T3 n3 =>
 condK 1300035 x59_14
 (
  callK (g173 ro y0 T3 n3) fun x61_15 T4 n4 =>
  .ok (.val (.lit (.nilIface))) T4 n4
 )
 (
  callK (g174 ro y3 T3 n3) fun x64_16 T5 n5 =>
  condK 1300042 x64_16
  (
   callK (g175 ro y0 T5 n5) fun x66_17 T6 n6 =>
   .ok (.val x66_17) T6 n6
  )
  (
   eqK Tryz.prog 5 (.tmp 68) (.const (.int .u8 (.ofNat 34))) 1300047 y3 (.lit (.int .u8 (.ofNat 34))) fun x69_18 =>
   condK 1300055 x69_18
   (
    g130_k2 ro y0 y2 (.lit (.bool true)) T5 n5
   )
   (
    eqK Tryz.prog 5 (.tmp 71) (.const (.int .u8 (.ofNat 39))) 1300058 y3 (.lit (.int .u8 (.ofNat 39))) fun x72_20 =>
    g130_k2 ro y0 y2 x72_20 T5 n5
   )
  )
 )
noncomputable def g130 (ro : List HT) (a0 : AV) (T : HT) (nx : Nat) : R :=
 ncK 1300003 a0 fun x6_1 =>
 faK 1300004 x6_1 0 fun x7_2 =>
 ldK 1300005 T ro x7_2 fun x8_3 =>
 ncK 1300007 a0 fun x10_4 =>
 faK 1300008 x10_4 1 fun x11_5 =>
 ldK 1300009 T ro x11_5 fun x12_6 =>
 ixK 1300010 x8_3 x12_6 fun x13_7 =>
 eqK Tryz.prog 5 (.tmp 15) (.const (.int .u8 (.ofNat 10))) 1300013 x13_7 (.lit (.int .u8 (.ofNat 10))) fun x16_8 =>
 condK 1300015 x16_8
 (
  .bad 1300016
 )
 (
  eqK Tryz.prog 5 (.tmp 33) (.const (.int .u8 (.ofNat 32))) 1300018 x13_7 (.lit (.int .u8 (.ofNat 32))) fun x34_9 =>
  condK 1300020 x34_9
  (
   fldK 1300022 T ro a0 1 fun x38_10 =>
   addK Tryz.prog 3 (.tmp 38) (.const (.int .i64 (.ofNat 1))) 1300023 x38_10 (.lit (.int .i64 (.ofNat 1))) fun x39_11 =>
   faK 1300024 a0 1 fun x41_12 =>
   stK 1300025 T x41_12 x39_11 fun T1 =>
   .ok (.val (.lit (.nilIface))) T1 nx
  )
  (
   eqK Tryz.prog 5 (.tmp 43) (.const (.int .u8 (.ofNat 35))) 1300028 x13_7 (.lit (.int .u8 (.ofNat 35))) fun x44_13 =>
   condK 1300030 x44_13
   (
    .bad 1300031
   )
   (
    fldK 1300061 T ro a0 5 fun x50_21 =>
    notK 1300062 x50_21 fun x51_22 =>
    condK 1300063 x51_22
    (
     callK (g171 ro a0 T nx) fun x53_23 T9 n9 =>
     bin0 Tryz.prog .neq 36 (.tmp 54) (.const (.nilIface)) 1300068 x53_23 (.lit (.nilIface)) fun x55_24 =>
     condK 1300069 x55_24
     (
      .bad 1300070
     )
     (
      g130_k1 ro a0 (.lit (.nilIface)) x13_7 T9 n9
     )
    )
    (
     g130_k1 ro a0 (.lit (.nilIface)) x13_7 T nx
    )
   )
  )
 )
theorem g130_ok (ro : List HT) (a0 : AV) (T : HT) (nx : Nat) : GOk Tryz.prog envE 130 [a0] ro T nx (g130 ro a0 T nx) := by
 refine GOk.of_body Tryz.func130 rfl Tryz.ntmps130 (by kernel_rfl) rfl fun r T' n' h1 w0 base ρ0 its hS hP => ?_
 have X : CtxW envE ρ0 ro r T' n' := trivial
 unfold g130 at h1
 refine sr ?_
 refine as_ ?_
 refine dn ?_
 refine CV.seq ?_
 refine CV.regionM [(0, .anywhere), (1, .anywhere), (2, .anywhere), (3, .held), (4, .anywhere), (5, .anywhere), (6, .anywhere), (7, .held), (8, .held), (9, .held)] rfl (fun c a a' w hd hq => PanicOk.root (P := Tryz.prog) (fn := Tryz.f130) (w0 := w0) (base := base) (E := envE) (ro := ro) (r := r) (T' := T') (n' := n') (ρ0 := ρ0) c a a' w hd hq) (by kernel_rfl) ?_
 refine MV.step0 (i := 0) rfl (VAL.move rfl) rfl rfl rfl ?_
 refine MV.lift0 (i := 1) rfl (V.nc h1 rfl) rfl rfl rfl fun x6_1 h2 => ?_
 refine MV.lift0 (i := 2) rfl (V.fa h2 rfl Cnf.fo255_0) rfl rfl rfl fun x7_2 h3 => ?_
 refine MV.lift1 (i := 3) rfl (fun _ z => z) (V.ld hS h3 rfl Cnf.one9) rfl rfl rfl [] (by kernel_rfl) fun x8_3 h4 => ?_
 refine MV.step0 (i := 4) rfl (VAL.move rfl) rfl rfl rfl ?_
 refine MV.lift0 (i := 5) rfl (V.nc h4 rfl) rfl rfl rfl fun x10_4 h5 => ?_
 refine MV.lift0 (i := 6) rfl (V.fa h5 rfl Cnf.fo255_1) rfl rfl rfl fun x11_5 h6 => ?_
 refine MV.lift1 (i := 7) rfl (fun _ z => z) (V.ld hS h6 rfl Cnf.one3) rfl rfl rfl [3] (by kernel_rfl) fun x12_6 h7 => ?_
 refine MV.lift1 (i := 8) rfl (fun _ z => z) (V.ix h7 rfl rfl Cnf.st9) rfl rfl rfl [] (by kernel_rfl) fun x13_7 h8 => ?_
 refine MV.step1 (i := 9) rfl (fun _ z => z) (VAL.assign rfl) rfl rfl rfl [] (by kernel_rfl) ?_
 refine mdn ?_
 refine CV.seq ?_
 refine CV.block ?_
 refine sr ?_
 refine mv ?_
 refine vy (V.eq h8 rfl rfl) fun x16_8 h9 => ?_
 refine as_ ?_
 refine dn ?_
 refine CV.cond h9 rfl (fun e h10 => ?_) (fun e h10 => ?_)
 ·
  clear h1 h2 h3 h4 h5 h6 h7 h8 h9
  subst e
  cases h10
 ·
  clear h1 h2 h3 h4 h5 h6 h7 h8 h9
  subst e
  refine sr ?_
  refine mv ?_
  refine vy (V.eq h10 rfl rfl) fun x34_9 h11 => ?_
  refine as_ ?_
  refine dn ?_
  refine CV.cond h11 rfl (fun e h12 => ?_) (fun e h12 => ?_)
  ·
   clear h10 h11
   subst e
   refine sr ?_
   refine mv ?_
   refine fl hS h12 Cnf.fo255_1 Cnf.one3 fun x38_10 h13 => ?_
   refine vy (V.add h13 rfl rfl) fun x39_11 h14 => ?_
   refine fa2 h14 Cnf.fo255_1 fun x41_12 h15 => ?_
   refine LV.st hS h15 rfl rfl rfl Cnf.siz3 rfl rfl fun T1 its h16 hS => ?_
   refine dn ?_
   refine sr ?_
   refine as_ ?_
   refine dn ?_
   refine CV.ret ?_
   refine PV.blockR ?_
   refine PV.thenR ?_
   cases h16
   exact PV.ret (by simp) Tryz.results130 hS (RS.tmp rfl RS.nil) rfl
  ·
   clear h10 h11
   subst e
   refine sr ?_
   refine mv ?_
   refine vy (V.eq h12 rfl rfl) fun x44_13 h17 => ?_
   refine as_ ?_
   refine dn ?_
   refine CV.cond h17 rfl (fun e h18 => ?_) (fun e h18 => ?_)
   ·
    clear h12 h17
    subst e
    cases h18
   ·
    clear h12 h17
    subst e
    refine CV.skip ?_
    refine PV.blockN ?_
    refine PV.thenN ?_
    refine cs3 X 0 2 3 [] (g130_k1 ro) ?_ ?_
    ·
     refine sr ?_
     refine mv ?_
     refine fl hS h18 Cnf.fo255_5 Cnf.one4 fun x50_21 h32 => ?_
     refine vy (V.not h32 rfl) fun x51_22 h33 => ?_
     refine dn ?_
     refine CV.cond h33 rfl (fun e h34 => ?_) (fun e h34 => ?_)
     ·
      clear h18 h32 h33
      subst e
      refine sr ?_
      refine mv ?_
      refine LV.call hS h34 (g171_ok _ _ _ _ ) hP rfl rfl rfl rfl fun x53_23 T9 n9 h35 ρ its hS => ?_
      refine as_ ?_
      refine dn ?_
      refine sr ?_
      refine mv ?_
      refine vy (V.bin0 h35 rfl rfl) fun x55_24 h36 => ?_
      refine dn ?_
      refine CV.cond h36 rfl (fun e h37 => ?_) (fun e h37 => ?_)
      ·
       clear h34 h35 h36
       subst e
       cases h37
      ·
       clear h34 h35 h36
       subst e
       refine CV.skip ?_
       exact pa3 hS h37 ⟨rfl, rfl, rfl, trivial⟩
     ·
      clear h18 h32 h33
      subst e
      refine CV.skip ?_
      exact pa3 hS h34 ⟨rfl, rfl, rfl, trivial⟩
    ·
     intro y0 y2 y3 T2 n2 ρ its hS h19
     unfold g130_k1 at h19
     clear h18
     refine CV.seq ?_
     refine CV.block ?_
     refine sr ?_
     refine mv ?_
     refine LV.call hS h19 (g172_ok _ _ _ _ ) hP rfl rfl rfl rfl fun x59_14 T3 n3 h20 ρ its hS => ?_
     refine as_ ?_
     refine dn ?_
     refine CV.cond h20 rfl (fun e h21 => ?_) (fun e h21 => ?_)
     ·
      clear h19 h20
      subst e
      refine sr ?_
      refine mv ?_
      refine LV.call hS h21 (g173_ok _ _ _ _ ) hP rfl rfl rfl rfl fun x61_15 T4 n4 h22 ρ its hS => ?_
      refine dn ?_
      refine sr ?_
      refine as_ ?_
      refine dn ?_
      refine CV.ret ?_
      refine PV.blockR ?_
      refine PV.thenR ?_
      cases h22
      exact PV.ret (by simp) Tryz.results130 hS (RS.tmp rfl RS.nil) rfl
     ·
      clear h19 h20
      subst e
      refine sr ?_
      refine mv ?_
      refine LV.call hS h21 (g174_ok _ _ _ _ ) hP rfl rfl rfl rfl fun x64_16 T5 n5 h23 ρ its hS => ?_
      refine as_ ?_
      refine dn ?_
      refine CV.cond h23 rfl (fun e h24 => ?_) (fun e h24 => ?_)
      ·
       clear h21 h23
       subst e
       refine sr ?_
       refine mv ?_
       refine LV.call hS h24 (g175_ok _ _ _ _ ) hP rfl rfl rfl rfl fun x66_17 T6 n6 h25 ρ its hS => ?_
       refine as_ ?_
       refine dn ?_
       refine CV.ret ?_
       refine PV.blockR ?_
       refine PV.thenR ?_
       cases h25
       exact PV.ret (by simp) Tryz.results130 hS (RS.tmp rfl RS.nil) rfl
      ·
       clear h21 h23
       subst e
       refine sr ?_
       refine mv ?_
       refine vy (V.eq h24 rfl rfl) fun x69_18 h26 => ?_
       refine mv ?_
       refine ls3 X 0 2 73 [] (g130_k2 ro) 3 ?_ ?_
       ·
        rcases condK_inv h26 with ⟨e, h30⟩ | ⟨e, h30⟩
        ·
         clear h24 h26
         subst e
         refine sk ?_
         refine sk ?_
         refine pu ?_
         exact la3 hS h30 ⟨rfl, rfl, rfl, trivial⟩
        ·
         clear h24 h26
         subst e
         refine mv ?_
         refine vy (V.eq h30 rfl rfl) fun x72_20 h31 => ?_
         refine pu ?_
         exact la3 hS h31 ⟨rfl, rfl, rfl, trivial⟩
       ·
        intro y0 y2 y73 T7 n7 ρ its hS h27
        unfold g130_k2 at h27
        clear h24 h26
        refine as_ ?_
        refine dn ?_
        refine CV.cond h27 rfl (fun e h28 => ?_) (fun e h28 => ?_)
        ·
         clear h27
         subst e
         cases h28
        ·
         clear h27
         subst e
         refine CV.skip ?_
         refine PV.blockN ?_
         refine PV.thenN ?_
         refine sr ?_
         refine mv ?_
         refine LV.call hS h28 (g177_ok _ _ _ _ ) hP rfl rfl rfl rfl fun x78_19 T8 n8 h29 ρ its hS => ?_
         refine as_ ?_
         refine dn ?_
         refine CV.ret ?_
         cases h29
         exact PV.ret (by simp) Tryz.results130 hS (RS.tmp rfl RS.nil) rfl
noncomputable def g132_k1 (ro : List HT) (y0 : AV) (T1 : HT) (n1 : Nat) : R :=
 faK 1320002 y0 5 fun x14_1 =>
 stK 1320003 T1 x14_1 (.lit (.bool false)) fun T2 =>
 .ok (.val (.tup [])) T2 n1
noncomputable def g132 (ro : List HT) (a0 : AV) (T : HT) (nx : Nat) : R :=
 fldK 1320005 T ro a0 5 fun x5_2 =>
 condK 1320006 x5_2
 (
  fldK 1320009 T ro a0 1 fun x10_3 =>
  callK (g133 ro a0 (.lit (.int .i64 (.ofNat 5))) (.lit (.string ⟨⟨[]⟩⟩)) x10_3 T nx) fun x11_4 T3 n3 =>
  g132_k1 ro a0 T3 n3
 )
 (
  g132_k1 ro a0 T nx
 )
theorem g132_ok (ro : List HT) (a0 : AV) (T : HT) (nx : Nat) : GOk Tryz.prog envE 132 [a0] ro T nx (g132 ro a0 T nx) := by
 refine GOk.of_body Tryz.func132 rfl Tryz.ntmps132 (by kernel_rfl) rfl fun r T' n' h1 w0 base ρ0 its hS hP => ?_
 have X : CtxW envE ρ0 ro r T' n' := trivial
 unfold g132 at h1
 refine cs1 X 0 [] (g132_k1 ro) ?_ ?_
 ·
  refine sr ?_
  refine mv ?_
  refine fl hS h1 Cnf.fo255_5 Cnf.one4 fun x5_2 h5 => ?_
  refine dn ?_
  refine CV.cond h5 rfl (fun e h6 => ?_) (fun e h6 => ?_)
  ·
   clear h1 h5
   subst e
   refine CV.region ?_
   refine mv ?_
   refine mv ?_
   refine fl hS h6 Cnf.fo255_1 Cnf.one3 fun x10_3 h7 => ?_
   refine LV.call hS h7 (g133_ok _ _ _ _ _ _ _ ) hP rfl rfl rfl rfl fun x11_4 T3 n3 h8 ρ its hS => ?_
   refine LV.done ?_
   exact pa1 hS h8 ⟨rfl, trivial⟩
  ·
   clear h1 h5
   subst e
   refine CV.skip ?_
   exact pa1 hS h6 ⟨rfl, trivial⟩
 ·
  intro y0 T1 n1 ρ its hS h2
  unfold g132_k1 at h2
  clear h1
  refine CV.region ?_
  refine mv ?_
  refine fa2 h2 Cnf.fo255_5 fun x14_1 h3 => ?_
  refine LV.st hS h3 rfl rfl rfl Cnf.siz4 rfl rfl fun T2 its h4 hS => ?_
  refine LV.done ?_
  cases h4
  exact PV.ret (by simp) Tryz.results132 hS RS.nil rfl
noncomputable def g100_b2 (ro : List HT) (lp2 : AV → AV → AV → AV → AV → HT → Nat → R) (y2 y3 y4 y48 y49 : AV) (T6 : HT) (n6 : Nat) : R :=
 ltK Tryz.prog 3 (.tmp 49) (.tmp 48) 1000045 y49 y48 fun x50_22 =>
 condK 1000046 x50_22
 (
  fldK 1000049 T6 ro y4 0 fun x55_23 =>
  lenTK 1000050 x55_23 fun x56_24 =>
  callK (g133 ro y4 (.lit (.int .i64 (.ofNat 7))) (.lit (.string ⟨⟨[]⟩⟩)) x56_24 T6 n6) fun x57_25 T7 n7 =>
  addK Tryz.prog 3 (.tmp 49) (.const (.int .i64 (.ofNat 1))) 1000052 y49 (.lit (.int .i64 (.ofNat 1))) fun x58_26 =>
  lp2 y2 y3 y4 y48 x58_26 T7 n7
 )
 (
  fldK 1000056 T6 ro y4 0 fun x63_27 =>
  lenTK 1000057 x63_27 fun x64_28 =>
  callK (g133 ro y4 (.lit (.int .i64 (.ofNat 8))) (.lit (.string ⟨⟨[]⟩⟩)) x64_28 T6 n6) fun x65_29 T8 n8 =>
  fldK 1000060 T8 ro y4 2 fun x69_30 =>
  .ok (.val (.tup [x69_30, (.lit (.nilIface))])) T8 n8
 )
noncomputable def g100_b1 (ro : List HT) (lp1 : AV → AV → AV → HT → Nat → R) (y2 y3 y4 : AV) (T3 : HT) (n3 : Nat) : R :=
 ncK 1000015 y4 fun x15_6 =>
 faK 1000016 x15_6 1 fun x16_7 =>
 ldK 1000017 T3 ro x16_7 fun x17_8 =>
 ncK 1000019 y4 fun x19_9 =>
 faK 1000020 x19_9 0 fun x20_10 =>
 ldK 1000021 T3 ro x20_10 fun x21_11 =>
 lenTK 1000022 x21_11 fun x22_12 =>
 ltK Tryz.prog 3 (.tmp 17) (.tmp 22) 1000023 x17_8 x22_12 fun x23_13 =>
 condK 1000024 x23_13
 (
  callK (g130 ro y4 T3 n3) fun x25_14 T4 n4 =>
  bin0 Tryz.prog .neq 36 (.tmp 26) (.const (.nilIface)) 1000029 x25_14 (.lit (.nilIface)) fun x27_15 =>
  condK 1000030 x27_15
  (
   .bad 1000031
  )
  (
   lp1 y2 y3 y4 T4 n4
  )
 )
 (
  fldK 1000033 T3 ro y4 4 fun x32_16 =>
  lenSK 1000034 x32_16 fun x33_17 =>
  gtK Tryz.prog 3 (.tmp 33) (.const (.int .i64 (.ofNat 0))) 1000035 x33_17 (.lit (.int .i64 (.ofNat 0))) fun x34_18 =>
  condK 1000036 x34_18
  (
   .bad 1000037
  )
  (
   callK (g132 ro y4 T3 n3) fun x42_19 T5 n5 =>
   fldK 1000041 T5 ro y4 3 fun x46_20 =>
   cutLenK 1000042 T5 ro x46_20 (.lit (.int .i64 (.ofNat 1))) fun x48_21 =>
   lpf5 1000044 (g100_b2 ro) 100000 y2 y3 y4 x48_21 (.lit (.int .i64 (.ofNat 0))) T5 n5
  )
 )
noncomputable def g100 (ro : List HT) (a0 : AV) (T : HT) (nx : Nat) : R :=
 lenTK 1000004 a0 fun x7_1 =>
 gtK Tryz.prog 3 (.tmp 7) (.const (.int .i64 (.ofNat 65536))) 1000005 x7_1 (.lit (.int .i64 (.ofNat 65536))) fun x8_2 =>
 condK 1000006 x8_2
 (
  .bad 1000007
 )
 (
  bsK 1000009 T nx 1 3 1 [(0, (.lit (.int .i64 (.ofNat 0))))] fun x11_3 T1 n1 =>
  optK 1000010 (bld255 [(0, a0), (3, x11_3)]) fun x12_4 =>
  boxK 1000011 T1 n1 x12_4 255 fun x13_5 T2 n2 =>
  lpf3 1000013 (g100_b1 ro) 100000 (.lit (.slice none 0 0)) (.lit (.nilIface)) x13_5 T2 n2
 )
theorem g100_ok (ro : List HT) (a0 : AV) (T : HT) (nx : Nat) : GOk Tryz.prog envE 100 [a0] ro T nx (g100 ro a0 T nx) := by
 refine GOk.of_body Tryz.func100 rfl Tryz.ntmps100 (by kernel_rfl) rfl fun r T' n' h1 w0 base ρ0 its hS hP => ?_
 have X : CtxW envE ρ0 ro r T' n' := trivial
 unfold g100 at h1
 refine sr ?_
 refine as_ ?_
 refine as_ ?_
 refine dn ?_
 refine CV.seq ?_
 refine sr ?_
 refine mv ?_
 refine vy (V.lenT h1 rfl Cnf.ls9) fun x7_1 h2 => ?_
 refine vy (V.gt h2 rfl rfl) fun x8_2 h3 => ?_
 refine dn ?_
 refine CV.cond h3 rfl (fun e h4 => ?_) (fun e h4 => ?_)
 ·
  clear h1 h2 h3
  subst e
  cases h4
 ·
  clear h1 h2 h3
  subst e
  refine CV.skip ?_
  refine PV.thenN ?_
  refine sr ?_
  refine mv ?_
  refine LV.bslice hS h4 rfl rfl Cnf.el170 rfl rfl rfl rfl fun x11_3 T1 n1 h5 ρ its hS hdr => ?_
  refine vy (V.bld h5 rfl) fun x12_4 h6 => ?_
  refine LV.box hS h6 rfl rfl rfl rfl rfl fun x13_5 T2 n2 h7 ρ its hS hdr => ?_
  refine as_ ?_
  refine dn ?_
  refine CV.seq ?_
  refine CV.block ?_
  refine cl3 X 2 3 4 [] hS h7 ⟨rfl, rfl, rfl, trivial⟩ ?_
  intro f1 y2 y3 y4 T3 n3 ρ its hS h8
  unfold g100_b1 at h8
  clear h4 h5 h6 h7
  refine CV.seq ?_
  refine CV.seq ?_
  refine CV.regionM [(0, .anywhere), (1, .anywhere), (2, .anywhere), (3, .held), (4, .anywhere), (5, .anywhere), (6, .anywhere), (7, .held), (8, .held), (9, .held)] rfl (fun c a a' w hd hq => PanicOk.root (P := Tryz.prog) (fn := Tryz.f100) (w0 := w0) (base := base) (E := envE) (ro := ro) (r := r) (T' := T') (n' := n') (ρ0 := ρ0) c a a' w hd hq) (by kernel_rfl) ?_
  refine MV.step0 (i := 0) rfl (VAL.move rfl) rfl rfl rfl ?_
  refine MV.lift0 (i := 1) rfl (V.nc h8 rfl) rfl rfl rfl fun x15_6 h9 => ?_
  refine MV.lift0 (i := 2) rfl (V.fa h9 rfl Cnf.fo255_1) rfl rfl rfl fun x16_7 h10 => ?_
  refine MV.lift1 (i := 3) rfl (fun _ z => z) (V.ld hS h10 rfl Cnf.one3) rfl rfl rfl [] (by kernel_rfl) fun x17_8 h11 => ?_
  refine MV.step0 (i := 4) rfl (VAL.move rfl) rfl rfl rfl ?_
  refine MV.lift0 (i := 5) rfl (V.nc h11 rfl) rfl rfl rfl fun x19_9 h12 => ?_
  refine MV.lift0 (i := 6) rfl (V.fa h12 rfl Cnf.fo255_0) rfl rfl rfl fun x20_10 h13 => ?_
  refine MV.lift1 (i := 7) rfl (fun _ z => z) (V.ld hS h13 rfl Cnf.one9) rfl rfl rfl [3] (by kernel_rfl) fun x21_11 h14 => ?_
  refine MV.lift1 (i := 8) rfl (fun _ z => z) (V.lenT h14 rfl Cnf.ls9) rfl rfl rfl [3] (by kernel_rfl) fun x22_12 h15 => ?_
  refine MV.lift1 (i := 9) rfl (fun _ z => z) (V.lt h15 rfl rfl) rfl rfl rfl [] (by kernel_rfl) fun x23_13 h16 => ?_
  refine mdn ?_
  refine CV.cond h16 rfl (fun e h17 => ?_) (fun e h17 => ?_)
  ·
   clear h8 h9 h10 h11 h12 h13 h14 h15 h16
   subst e
   refine CV.skip ?_
   refine PV.thenN ?_
   refine CV.block ?_
   refine sr ?_
   refine mv ?_
   refine LV.call hS h17 (g130_ok _ _ _ _ ) hP rfl rfl rfl rfl fun x25_14 T4 n4 h18 ρ its hS => ?_
   refine as_ ?_
   refine dn ?_
   refine sr ?_
   refine mv ?_
   refine vy (V.bin0 h18 rfl rfl) fun x27_15 h19 => ?_
   refine dn ?_
   refine CV.cond h19 rfl (fun e h20 => ?_) (fun e h20 => ?_)
   ·
    clear h17 h18 h19
    subst e
    cases h20
   ·
    clear h17 h18 h19
    subst e
    refine CV.skip ?_
    refine PV.blockN ?_
    exact pb3 hS h20 ⟨rfl, rfl, rfl, trivial⟩
  ·
   clear h8 h9 h10 h11 h12 h13 h14 h15 h16
   subst e
   refine CV.exit ?_
   refine PV.thenE ?_
   refine PV.thenE ?_
   refine PV.blockE ?_
   refine PV.thenN ?_
   refine CV.seq ?_
   refine sr ?_
   refine mv ?_
   refine fl hS h17 Cnf.fo255_4 Cnf.one79 fun x32_16 h21 => ?_
   refine vy (V.lenS h21 rfl Cnf.ls79) fun x33_17 h22 => ?_
   refine vy (V.gt h22 rfl rfl) fun x34_18 h23 => ?_
   refine dn ?_
   refine CV.cond h23 rfl (fun e h24 => ?_) (fun e h24 => ?_)
   ·
    clear h17 h21 h22 h23
    subst e
    cases h24
   ·
    clear h17 h21 h22 h23
    subst e
    refine CV.skip ?_
    refine PV.thenN ?_
    refine sr ?_
    refine mv ?_
    refine LV.call hS h24 (g132_ok _ _ _ _ ) hP rfl rfl rfl rfl fun x42_19 T5 n5 h25 ρ its hS => ?_
    refine dn ?_
    refine CV.seq ?_
    refine sr ?_
    refine mv ?_
    refine fl hS h25 Cnf.fo255_3 Cnf.one170 fun x46_20 h26 => ?_
    refine LV.cutLen hS h26 rfl rfl rfl Cnf.el170 rfl rfl rfl rfl rfl Cnf.ls170 rfl rfl rfl fun x48_21 h27 => ?_
    refine mv ?_
    refine dn ?_
    refine CV.block ?_
    refine cl5 X 2 3 4 48 49 [] hS h27 ⟨rfl, rfl, rfl, rfl, rfl, trivial⟩ ?_
    intro f2 y2 y3 y4 y48 y49 T6 n6 ρ its hS h28
    unfold g100_b2 at h28
    clear h24 h25 h26 h27
    refine sr ?_
    refine vy (V.lt h28 rfl rfl) fun x50_22 h29 => ?_
    refine dn ?_
    refine CV.seq ?_
    refine CV.cond h29 rfl (fun e h30 => ?_) (fun e h30 => ?_)
    ·
     clear h28 h29
     subst e
     refine CV.skip ?_
     refine PV.thenN ?_
     refine CV.seq ?_
     refine CV.block ?_
     refine CV.region ?_
     refine mv ?_
     refine mv ?_
     refine fl hS h30 Cnf.fo255_0 Cnf.one9 fun x55_23 h31 => ?_
     refine vy (V.lenT h31 rfl Cnf.ls9) fun x56_24 h32 => ?_
     refine LV.call hS h32 (g133_ok _ _ _ _ _ _ _ ) hP rfl rfl rfl rfl fun x57_25 T7 n7 h33 ρ its hS => ?_
     refine LV.done ?_
     refine PV.blockN ?_
     refine PV.thenN ?_
     refine CV.region ?_
     refine vy (V.add h33 rfl rfl) fun x58_26 h34 => ?_
     refine mv ?_
     refine LV.done ?_
     exact pb5 hS h34 ⟨rfl, rfl, rfl, rfl, rfl, trivial⟩
    ·
     clear h28 h29
     subst e
     refine CV.exit ?_
     refine PV.thenE ?_
     refine PV.thenE ?_
     refine PV.blockE ?_
     refine PV.thenN ?_
     refine sr ?_
     refine mv ?_
     refine mv ?_
     refine fl hS h30 Cnf.fo255_0 Cnf.one9 fun x63_27 h35 => ?_
     refine vy (V.lenT h35 rfl Cnf.ls9) fun x64_28 h36 => ?_
     refine LV.call hS h36 (g133_ok _ _ _ _ _ _ _ ) hP rfl rfl rfl rfl fun x65_29 T8 n8 h37 ρ its hS => ?_
     refine dn ?_
     refine sr ?_
     refine mv ?_
     refine fl hS h37 Cnf.fo255_2 Cnf.one183 fun x69_30 h38 => ?_
     refine as_ ?_
     refine as_ ?_
     refine dn ?_
     refine CV.ret ?_
     cases h38
     exact PV.ret (by simp) Tryz.results100 hS (RS.tmp rfl (RS.tmp rfl RS.nil)) rfl
noncomputable def g101_k1 (ro : List HT) (y4 y16 : AV) (T3 : HT) (n3 : Nat) : R :=
 condK 1010012 y16
 (
  .bad 1010013
 )
 (
  condK 1010015 y4
  (
   .bad 1010016
  )
  (
   .ok (.val (.lit undef)) T3 n3
  )
 )
noncomputable def gd101 (ro : List HT) (pv : AV) (a0 a1 : AV) (T : HT) (nx : Nat) : R :=
 asK 1010002 pv 207 (.tup [.lit (.agg #[.pointer none]), .lit (.bool false)]) fun x8_1 =>
 exK 1010004 x8_1 0 fun x9_2 =>
 exK 1010005 x8_1 1 fun x10_3 =>
 newK T nx (.obj [.lit (.pointer none)] 207) fun x3_4 T1 n1 =>
 stAK 1010007 T1 x3_4 x9_2 1 fun T2 =>
 bin0 Tryz.prog .neq 20 (.tmp 11) (.const (.nilIface)) 1010010 pv (.lit (.nilIface)) fun x12_5 =>
 condK 1010017 x12_5
 (
  notK 1010019 x10_3 fun x15_6 =>
  g101_k1 ro x10_3 x15_6 T2 n1
 )
 (
  g101_k1 ro x10_3 (.lit (.bool false)) T2 n1
 )
theorem gd101_ok (ro : List HT) (pv : AV) (a0 a1 : AV) (T : HT) (nx : Nat) : GDk Tryz.prog envE 101 [a0, a1] ro T nx pv (gd101 ro pv a0 a1 T nx) := by
 refine GDk.of_body Tryz.func101 rfl Tryz.ntmps101 Tryz.results101 rfl rfl rfl rfl fun r T' n' h1 w0 base ρ0 its hS hP => ?_
 have X : CtxW envE ρ0 ro (.val r) T' n' := trivial
 unfold gd101 at h1
 refine sr ?_
 refine mv ?_
 refine vy (V.as h1 rfl Cnf.ni207 Cnf.za207) fun x8_1 h2 => ?_
 refine mv ?_
 refine vy (V.ex h2 rfl) fun x9_2 h3 => ?_
 refine vy (V.ex h3 rfl) fun x10_3 h4 => ?_
 refine LV.alloc hS h4 rfl Cnf.zr207 rfl rfl rfl fun x3_4 T1 n1 h5 ρ its hS hdr => ?_
 refine LV.stA hS h5 rfl rfl rfl Cnf.agg207 rfl rfl rfl fun T2 its h6 hS => ?_
 refine as_ ?_
 refine dn ?_
 refine CV.seq ?_
 refine sr ?_
 refine mv ?_
 refine vy (V.bin0 h6 rfl rfl) fun x12_5 h7 => ?_
 refine mv ?_
 refine ls2 X 4 16 [] (g101_k1 ro) 3 ?_ ?_
 ·
  rcases condK_inv h7 with ⟨e, h11⟩ | ⟨e, h11⟩
  ·
   clear h1 h2 h3 h4 h5 h6 h7
   subst e
   refine mv ?_
   refine vy (V.not h11 rfl) fun x15_6 h12 => ?_
   refine pu ?_
   exact la2 hS h12 ⟨rfl, rfl, trivial⟩
  ·
   clear h1 h2 h3 h4 h5 h6 h7
   subst e
   refine sk ?_
   refine sk ?_
   refine pu ?_
   exact la2 hS h11 ⟨rfl, rfl, trivial⟩
 ·
  intro y4 y16 T3 n3 ρ its hS h8
  unfold g101_k1 at h8
  clear h1 h2 h3 h4 h5 h6 h7
  refine dn ?_
  refine CV.cond h8 rfl (fun e h9 => ?_) (fun e h9 => ?_)
  ·
   clear h8
   subst e
   cases h9
  ·
   clear h8
   subst e
   refine CV.skip ?_
   refine PV.thenN ?_
   refine sr ?_
   refine mv ?_
   refine dn ?_
   refine CV.cond h9 rfl (fun e h10 => ?_) (fun e h10 => ?_)
   ·
    clear h9
    subst e
    cases h10
   ·
    clear h9
    subst e
    refine CV.skip ?_
    cases h10
    exact PV.dend hS
noncomputable def g71 (ro : List HT) (a0 a1 : AV) (T : HT) (nx : Nat) : R :=
 newK T nx (.obj [.lit (.slice none 0 0)] 109) fun x4_1 T1 n1 =>
 newK T1 n1 (.obj [.lit (.nilIface)] 36) fun x5_2 T2 n2 =>
 callK (g100 ro a0 T2 n2) fun x10_3 T3 n3 =>
 exK 710006 x10_3 0 fun x11_4 =>
 exK 710007 x10_3 1 fun x12_5 =>
 stK 710009 T3 x5_2 x12_5 fun T4 =>
 ldK 710010 T4 ro x5_2 fun x13_6 =>
 bin0 Tryz.prog .neq 36 (.tmp 13) (.const (.nilIface)) 710011 x13_6 (.lit (.nilIface)) fun x14_7 =>
 condK 710012 x14_7
 (
  .bad 710013
 )
 (
  optK 710015 (bld185 [(0, x11_4)]) fun x17_8 =>
  boxK 710016 T4 n3 x17_8 185 fun x18_9 T5 n5 =>
  dynK 710022 a1 fun f p q => callPK 710022 (scc3 4000 f ro (p ++ ([x18_9] ++ q)) T5 n5) (fun pv t m => leaveK 710022 (gd101 ro pv x4_1 x5_2 t m) fun T6 n6 =>
   ldK 710023 T6 ro x4_1 fun x4_10 =>
   ldK 710024 T6 ro x5_2 fun x5_11 =>
   .ok (.val (.tup [x4_10, x5_11])) T6 n6
  ) fun x22_12 T7 n7 =>
  fldK 710026 T7 ro x18_9 2 fun x26_13 =>
  stK 710027 T7 x4_1 x26_13 fun T8 =>
  stK 710028 T8 x5_2 (.lit (.nilIface)) fun T9 =>
  leaveK 710029 (gd101 ro (.lit .nilIface) x4_1 x5_2 T9 n7) fun T10 n10 =>
  ldK 710030 T10 ro x4_1 fun x4_14 =>
  ldK 710031 T10 ro x5_2 fun x5_15 =>
  .ok (.val (.tup [x4_14, x5_15])) T10 n10
 )
theorem g71_ok (ro : List HT) (a0 a1 : AV) (T : HT) (nx : Nat) : GOk Tryz.prog envE 71 [a0, a1] ro T nx (g71 ro a0 a1 T nx) := by
 refine GOk.of_bodyD Tryz.func71 rfl Tryz.ntmps71 (by kernel_rfl) rfl fun r T' n' h1 w0 base ρ0 its hS hP => ?_
 have X : CtxW envE ρ0 ro r T' n' := trivial
 unfold g71 at h1
 refine sr ?_
 refine LV.alloc hS h1 rfl Cnf.zr109 rfl rfl rfl fun x4_1 T1 n1 h2 ρ its hS hdr => ?_
 refine LV.alloc hS h2 rfl Cnf.zr36 rfl rfl rfl fun x5_2 T2 n2 h3 ρ its hS hdr => ?_
 refine dn ?_
 refine sr ?_
 refine mv ?_
 refine LV.call hS h3 (g100_ok _ _ _ _ ) hP rfl rfl rfl rfl fun x10_3 T3 n3 h4 ρ its hS => ?_
 refine mv ?_
 refine vy (V.ex h4 rfl) fun x11_4 h5 => ?_
 refine vy (V.ex h5 rfl) fun x12_5 h6 => ?_
 refine as_ ?_
 refine LV.st hS h6 rfl rfl rfl Cnf.siz36 rfl rfl fun T4 its h7 hS => ?_
 refine dn ?_
 refine CV.seq ?_
 refine sr ?_
 refine vy (V.ld hS h7 rfl Cnf.one36) fun x13_6 h8 => ?_
 refine vy (V.bin0 h8 rfl rfl) fun x14_7 h9 => ?_
 refine dn ?_
 refine CV.cond h9 rfl (fun e h10 => ?_) (fun e h10 => ?_)
 ·
  clear h1 h2 h3 h4 h5 h6 h7 h8 h9
  subst e
  cases h10
 ·
  clear h1 h2 h3 h4 h5 h6 h7 h8 h9
  subst e
  refine CV.skip ?_
  refine PV.thenN ?_
  refine sr ?_
  refine mv ?_
  refine vy (V.bld h10 rfl) fun x17_8 h11 => ?_
  refine LV.box hS h11 rfl rfl rfl rfl rfl fun x18_9 T5 n5 h12 ρ its hS hdr => ?_
  refine as_ ?_
  refine dn ?_
  refine sr ?_
  refine pu ?_
  refine LV.defer rfl rfl rfl rfl rfl rfl fun us hys => ?_
  refine dn ?_
  refine sr ?_
  refine mv ?_
  refine mv ?_
  refine LV.callDP (fn := Tryz.f71) (kf := 101) (Xp := fun pv t m => gd101 ro pv x4_1 x5_2 t m) (G := fun f gs => scc3 4000 f ro gs T5 n5) (qs := [x18_9]) hS h12 (fun f gs => scc3_ok _ _ _ _ _ _) (fun pv t m => gd101_ok _ _ _ _ _ _ ) Cnf.en101 hys (fun ch a w z => z) rfl rfl rfl rfl rfl rfl rfl (fun T6 n6 h13 ρ its hS => ?_) (fun x22_12 T7 n7 h16 ρ its hE hS => ?_)
  ·
   refine PV.ld (x := .tmp 4) (t := 109) hS h13 rfl Cnf.one109 fun x4_10 h14 hVx4_10 => ?_
   refine PV.ld (x := .tmp 5) (t := 36) hS h14 rfl Cnf.one36 fun x5_11 h15 hVx5_11 => ?_
   cases h15
   exact PV.ret (by simp) Tryz.results71 hS (RS.cell hVx4_10 (RS.cell hVx5_11 RS.nil)) rfl
  have hys := instL_ext hE _ _ hys
  refine dn ?_
  refine sr ?_
  refine mv ?_
  refine fl hS h16 Cnf.fo185_2 Cnf.one109 fun x26_13 h17 => ?_
  refine LV.st hS h17 rfl rfl rfl Cnf.siz109 rfl rfl fun T8 its h18 hS => ?_
  refine LV.st hS h18 rfl rfl rfl Cnf.siz36 rfl rfl fun T9 its h19 hS => ?_
  refine dn ?_
  refine CV.ret ?_
  refine PV.leaveR (by simp) hS hys h19 (gd101_ok _ _ _ _ _ _ ) Cnf.en101 fun T10 n10 h20 ρ its hS => ?_
  refine PV.ld (x := .tmp 4) (t := 109) hS h20 rfl Cnf.one109 fun x4_14 h21 hVx4_14 => ?_
  refine PV.ld (x := .tmp 5) (t := 36) hS h21 rfl Cnf.one36 fun x5_15 h22 hVx5_15 => ?_
  cases h22
  exact PV.ret (by simp) Tryz.results71 hS (RS.cell hVx4_14 (RS.cell hVx5_15 RS.nil)) rfl
noncomputable def g43 (ro : List HT) (a0 : AV) (T : HT) (nx : Nat) : R :=
 callK (g71 ro a0 (.lit (.func (.func 72) #[] #[])) T nx) fun x5_1 T1 n1 =>
 exK 430005 x5_1 0 fun x6_2 =>
 exK 430006 x5_1 1 fun x7_3 =>
 .ok (.val (.tup [x6_2, x7_3])) T1 n1
theorem g43_ok (ro : List HT) (a0 : AV) (T : HT) (nx : Nat) : GOk Tryz.prog envE 43 [a0] ro T nx (g43 ro a0 T nx) := by
 refine GOk.of_body Tryz.func43 rfl Tryz.ntmps43 (by kernel_rfl) rfl fun r T' n' h1 w0 base ρ0 its hS hP => ?_
 have X : CtxW envE ρ0 ro r T' n' := trivial
 unfold g43 at h1
 refine sr ?_
 refine as_ ?_
 refine as_ ?_
 refine dn ?_
 refine sr ?_
 refine mv ?_
 refine LV.call hS h1 (g71_ok _ _ _ _ _ ) hP rfl rfl rfl rfl fun x5_1 T1 n1 h2 ρ its hS => ?_
 refine vy (V.ex h2 rfl) fun x6_2 h3 => ?_
 refine vy (V.ex h3 rfl) fun x7_3 h4 => ?_
 refine as_ ?_
 refine as_ ?_
 refine dn ?_
 refine CV.ret ?_
 cases h4
 exact PV.ret (by simp) Tryz.results43 hS (RS.tmp rfl (RS.tmp rfl RS.nil)) rfl
noncomputable def g75 (ro : List HT) (a0 : AV) (T : HT) (nx : Nat) : R :=
 slEqK Tryz.prog .eql false 54 (.tmp 3) (.const (.slice none 0 0)) 750003 a0 fun x4_1 =>
 condK 750004 x4_1
 (
  .bad 750005
 )
 (
  bs0K T nx 9 1 fun x5_2 T1 n1 =>
  shrK 750009 T1 x5_2 fun T2 =>
  appEK 750008 T2 ro n1 9 1 16 x5_2 a0 fun x7_3 T3 n3 =>
  .ok (.val x7_3) T3 n3
 )
theorem g75_ok (ro : List HT) (a0 : AV) (T : HT) (nx : Nat) : GOk Tryz.prog envE 75 [a0] ro T nx (g75 ro a0 T nx) := by
 refine GOk.of_body Tryz.func75 rfl Tryz.ntmps75 (by kernel_rfl) rfl fun r T' n' h1 w0 base ρ0 its hS hP => ?_
 have X : CtxW envE ρ0 ro r T' n' := trivial
 unfold g75 at h1
 refine sr ?_
 refine as_ ?_
 refine dn ?_
 refine CV.seq ?_
 refine sr ?_
 refine mv ?_
 refine vy (V.slEq h1 rfl Cnf.slt54) fun x4_1 h2 => ?_
 refine dn ?_
 refine CV.cond h2 rfl (fun e h3 => ?_) (fun e h3 => ?_)
 ·
  clear h1 h2
  subst e
  cases h3
 ·
  clear h1 h2
  subst e
  refine CV.skip ?_
  refine PV.thenN ?_
  refine sr ?_
  refine LV.bs0 hS h3 rfl Cnf.el54 rfl rfl rfl fun x5_2 T1 n1 h4 ρ its hS hdr => ?_
  refine mv ?_
  obtain ⟨T2, its1, h5, hS, hW⟩ := shrK_inv hS h4
  refine LV.world hW ?_
  refine LV.appE hS h5 rfl rfl rfl rfl Cnf.el54 rfl rfl rfl fun x7_3 T3 n3 h6 ρ its hS => ?_
  refine as_ ?_
  refine dn ?_
  refine CV.ret ?_
  cases h6
  exact PV.ret (by simp) Tryz.results75 hS (RS.tmp rfl RS.nil) rfl
noncomputable def g117_k3 (ro : List HT) (lp1 : AV → AV → AV → AV → AV → AV → HT → Nat → R) (y1 y2 y6 y8 y9 y10 y11 y27 : AV) (T3 : HT) (n3 : Nat) : R :=
 condK 1170015 y27
 (
  .bad 1170016
 )
 (
  iaK 1170019 y2 y8 1 fun x30_6 =>
  stK 1170020 T3 x30_6 (.lit (.bool true)) fun T4 =>
  addK Tryz.prog 3 (.tmp 11) (.const (.int .i64 (.ofNat 1))) 1170021 y11 (.lit (.int .i64 (.ofNat 1))) fun x31_7 =>
  lp1 y1 y2 y6 y9 y10 x31_7 T4 n3
 )
noncomputable def g117_k2 (ro : List HT) (lp1 : AV → AV → AV → AV → AV → AV → HT → Nat → R) (y1 y2 y6 y8 y9 y10 y11 y21 : AV) (T2 : HT) (n2 : Nat) : R :=
 condK 1170023 y21
 (
  g117_k3 ro lp1 y1 y2 y6 y8 y9 y10 y11 (.lit (.bool true)) T2 n2
 )
 (
  iaK 1170027 y2 y8 1 fun x25_8 =>
  ldK 1170028 T2 ro x25_8 fun x26_9 =>
  g117_k3 ro lp1 y1 y2 y6 y8 y9 y10 y11 x26_9 T2 n2
 )
noncomputable def g117_b1 (ro : List HT) (lp1 : AV → AV → AV → AV → AV → AV → HT → Nat → R) (y1 y2 y6 y9 y10 y11 : AV) (T1 : HT) (n1 : Nat) : R :=
 ltK Tryz.prog 3 (.tmp 11) (.tmp 10) 1170006 y11 y10 fun x12_2 =>
 condK 1170007 x12_2
 (
  iaK 1170008 y9 y11 1 fun x13_3 =>
  ldK 1170009 T1 ro x13_3 fun x14_4 =>
  ltK Tryz.prog 3 (.tmp 15) (.const (.int .i64 (.ofNat 0))) 1170012 x14_4 (.lit (.int .i64 (.ofNat 0))) fun x16_5 =>
  condK 1170030 x16_5
  (
   g117_k2 ro lp1 y1 y2 y6 x14_4 y9 y10 y11 (.lit (.bool true)) T1 n1
  )
  (
   geK Tryz.prog 3 (.tmp 18) (.tmp 19) 1170034 x14_4 y1 fun x20_10 =>
   g117_k2 ro lp1 y1 y2 y6 x14_4 y9 y10 y11 x20_10 T1 n1
  )
 )
 (
  .ok (.val (.lit (.bool true))) T1 n1
 )
noncomputable def g117 (ro : List HT) (a0 a1 a2 : AV) (T : HT) (nx : Nat) : R :=
 lenSK 1170003 a0 fun x10_1 =>
 lpf6 1170005 (g117_b1 ro) 100000 a1 a2 (.lit (.bool false)) a0 x10_1 (.lit (.int .i64 (.ofNat 0))) T nx
theorem g117_ok (ro : List HT) (a0 a1 a2 : AV) (T : HT) (nx : Nat) : GOk Tryz.prog envE 117 [a0, a1, a2] ro T nx (g117 ro a0 a1 a2 T nx) := by
 refine GOk.of_body Tryz.func117 rfl Tryz.ntmps117 (by kernel_rfl) rfl fun r T' n' h1 w0 base ρ0 its hS hP => ?_
 have X : CtxW envE ρ0 ro r T' n' := trivial
 unfold g117 at h1
 refine sr ?_
 refine as_ ?_
 refine dn ?_
 refine CV.seq ?_
 refine sr ?_
 refine mv ?_
 refine vy (V.lenS h1 rfl Cnf.ls170) fun x10_1 h2 => ?_
 refine mv ?_
 refine dn ?_
 refine CV.block ?_
 refine cl6 X 1 2 6 9 10 11 [] hS h2 ⟨rfl, rfl, rfl, rfl, rfl, rfl, trivial⟩ ?_
 intro f1 y1 y2 y6 y9 y10 y11 T1 n1 ρ its hS h3
 unfold g117_b1 at h3
 clear h1 h2
 refine sr ?_
 refine vy (V.lt h3 rfl rfl) fun x12_2 h4 => ?_
 refine dn ?_
 refine CV.seq ?_
 refine CV.cond h4 rfl (fun e h5 => ?_) (fun e h5 => ?_)
 ·
  clear h3 h4
  subst e
  refine CV.skip ?_
  refine PV.thenN ?_
  refine CV.seq ?_
  refine CV.block ?_
  refine sr ?_
  refine vy (V.ia h5 rfl rfl Cnf.el170) fun x13_3 h6 => ?_
  refine vy (V.ld hS h6 rfl Cnf.one3) fun x14_4 h7 => ?_
  refine as_ ?_
  refine dn ?_
  refine CV.seq ?_
  refine sr ?_
  refine mv ?_
  refine vy (V.lt h7 rfl rfl) fun x16_5 h8 => ?_
  refine mv ?_
  refine ls8 X 1 2 6 8 9 10 11 21 [] (g117_k2 ro (lpf6 1170005 (g117_b1 ro) f1)) 4 ?_ ?_
  ·
   rcases condK_inv h8 with ⟨e, h18⟩ | ⟨e, h18⟩
   ·
    clear h5 h6 h7 h8
    subst e
    refine sk ?_
    refine sk ?_
    refine sk ?_
    refine pu ?_
    exact la8 hS h18 ⟨rfl, rfl, rfl, rfl, rfl, rfl, rfl, rfl, trivial⟩
   ·
    clear h5 h6 h7 h8
    subst e
    refine mv ?_
    refine mv ?_
    refine vy (V.ge h18 rfl rfl) fun x20_10 h19 => ?_
    refine pu ?_
    exact la8 hS h19 ⟨rfl, rfl, rfl, rfl, rfl, rfl, rfl, rfl, trivial⟩
  ·
   intro y1 y2 y6 y8 y9 y10 y11 y21 T2 n2 ρ its hS h9
   unfold g117_k2 at h9
   clear h5 h6 h7 h8
   refine mv ?_
   refine ls8 X 1 2 6 8 9 10 11 27 [] (g117_k3 ro (lpf6 1170005 (g117_b1 ro) f1)) 5 ?_ ?_
   ·
    rcases condK_inv h9 with ⟨e, h15⟩ | ⟨e, h15⟩
    ·
     clear h9
     subst e
     refine sk ?_
     refine sk ?_
     refine sk ?_
     refine sk ?_
     refine pu ?_
     exact la8 hS h15 ⟨rfl, rfl, rfl, rfl, rfl, rfl, rfl, rfl, trivial⟩
    ·
     clear h9
     subst e
     refine mv ?_
     refine mv ?_
     refine vy (V.ia h15 rfl rfl Cnf.el235) fun x25_8 h16 => ?_
     refine vy (V.ld hS h16 rfl Cnf.one4) fun x26_9 h17 => ?_
     refine pu ?_
     exact la8 hS h17 ⟨rfl, rfl, rfl, rfl, rfl, rfl, rfl, rfl, trivial⟩
   ·
    intro y1 y2 y6 y8 y9 y10 y11 y27 T3 n3 ρ its hS h10
    unfold g117_k3 at h10
    clear h9
    refine dn ?_
    refine CV.cond h10 rfl (fun e h11 => ?_) (fun e h11 => ?_)
    ·
     clear h10
     subst e
     cases h11
    ·
     clear h10
     subst e
     refine CV.skip ?_
     refine PV.thenN ?_
     refine CV.region ?_
     refine mv ?_
     refine mv ?_
     refine vy (V.ia h11 rfl rfl Cnf.el235) fun x30_6 h12 => ?_
     refine LV.st hS h12 rfl rfl rfl Cnf.siz4 rfl rfl fun T4 its h13 hS => ?_
     refine LV.done ?_
     refine PV.blockN ?_
     refine PV.thenN ?_
     refine CV.region ?_
     refine vy (V.add h13 rfl rfl) fun x31_7 h14 => ?_
     refine mv ?_
     refine LV.done ?_
     exact pb6 hS h14 ⟨rfl, rfl, rfl, rfl, rfl, rfl, trivial⟩
 ·
  clear h3 h4
  subst e
  refine CV.exit ?_
  refine PV.thenE ?_
  refine PV.thenE ?_
  refine PV.blockE ?_
  refine PV.thenN ?_
  refine sr ?_
  refine as_ ?_
  refine dn ?_
  refine CV.ret ?_
  cases h5
  exact PV.ret (by simp) Tryz.results117 hS (RS.tmp rfl RS.nil) rfl
noncomputable def g157_k2 (ro : List HT) (lp1 : AV → AV → AV → AV → HT → Nat → R) (y0 y2 y5 y6 y24 : AV) (T3 : HT) (n3 : Nat) : R :=
 condK 1570016 y24
 (
  .bad 1570017
 )
 (
  addK Tryz.prog 3 (.tmp 6) (.const (.int .i64 (.ofNat 1))) 1570018 y6 (.lit (.int .i64 (.ofNat 1))) fun x25_6 =>
  lp1 y0 y2 y5 x25_6 T3 n3
 )
noncomputable def g157_k3 (ro : List HT) (lp1 : AV → AV → AV → AV → HT → Nat → R) (y0 y2 y5 y6 y23 : AV) (T4 : HT) (n4 : Nat) : R :=
 g157_k2 ro lp1 y0 y2 y5 y6 y23 T4 n4
noncomputable def g157_k4 (ro : List HT) (y2 y33 : AV) (T6 : HT) (n6 : Nat) : R :=
 .ok (.val y33) T6 n6
noncomputable def g157_b1 (ro : List HT) (lp1 : AV → AV → AV → AV → HT → Nat → R) (y0 y2 y5 y6 : AV) (T1 : HT) (n1 : Nat) : R :=
 ltK Tryz.prog 3 (.tmp 6) (.tmp 5) 1570006 y6 y5 fun x7_2 =>
 condK 1570007 x7_2
 (
  ixK 1570012 y0 y6 fun x11_3 =>
  callK (g172 ro x11_3 T1 n1) fun x12_4 T2 n2 =>
  notK 1570014 x12_4 fun x13_5 =>
  condK 1570020 x13_5
  (
   eqK Tryz.prog 3 (.tmp 15) (.const (.int .i64 (.ofNat 0))) 1570022 y6 (.lit (.int .i64 (.ofNat 0))) fun x16_7 =>
   condK 1570025 x16_7
   (
    g157_k3 ro lp1 y0 y2 y5 y6 (.lit (.bool true)) T2 n2
   )
   (
    ixK 1570029 y0 y6 fun x20_8 =>
    callK (g174 ro x20_8 T2 n2) fun x21_9 T5 n5 =>
    notK 1570031 x21_9 fun x22_10 =>
    g157_k3 ro lp1 y0 y2 y5 y6 x22_10 T5 n5
   )
  )
  (
   g157_k2 ro lp1 y0 y2 y5 y6 (.lit (.bool false)) T2 n2
  )
 )
 (
  neSK Tryz.prog 9 (.tmp 26) (.const (.string ⟨⟨[]⟩⟩)) 1570035 y0 (.lit (.string ⟨⟨[]⟩⟩)) fun x27_11 =>
  condK 1570038 x27_11
  (
   callK (g211 ro T1 n1) fun x29_12 T7 n7 =>
   callK (g142 ro x29_12 y0 T7 n7) fun x31_13 T8 n8 =>
   notK 1570042 x31_13 fun x32_14 =>
   g157_k4 ro y2 x32_14 T8 n8
  )
  (
   g157_k4 ro y2 (.lit (.bool false)) T1 n1
  )
 )
noncomputable def g157 (ro : List HT) (a0 : AV) (T : HT) (nx : Nat) : R :=
 lenTK 1570003 a0 fun x5_1 =>
 lpf4 1570005 (g157_b1 ro) 100000 a0 (.lit (.bool false)) x5_1 (.lit (.int .i64 (.ofNat 0))) T nx
theorem g157_ok (ro : List HT) (a0 : AV) (T : HT) (nx : Nat) : GOk Tryz.prog envE 157 [a0] ro T nx (g157 ro a0 T nx) := by
 refine GOk.of_body Tryz.func157 rfl Tryz.ntmps157 (by kernel_rfl) rfl fun r T' n' h1 w0 base ρ0 its hS hP => ?_
 have X : CtxW envE ρ0 ro r T' n' := trivial
 unfold g157 at h1
 refine sr ?_
 refine as_ ?_
 refine dn ?_
 refine CV.seq ?_
 refine sr ?_
 refine mv ?_
 refine vy (V.lenT h1 rfl Cnf.ls9) fun x5_1 h2 => ?_
 refine mv ?_
 refine dn ?_
 refine CV.block ?_
 refine cl4 X 0 2 5 6 [] hS h2 ⟨rfl, rfl, rfl, rfl, trivial⟩ ?_
 intro f1 y0 y2 y5 y6 T1 n1 ρ its hS h3
 unfold g157_b1 at h3
 clear h1 h2
 refine sr ?_
 refine vy (V.lt h3 rfl rfl) fun x7_2 h4 => ?_
 refine dn ?_
 refine CV.seq ?_
 refine CV.cond h4 rfl (fun e h5 => ?_) (fun e h5 => ?_)
 ·
  clear h3 h4
  subst e
  refine CV.skip ?_
  refine PV.thenN ?_
  refine CV.seq ?_
  refine CV.block ?_
  refine sr ?_
  refine mv ?_
  refine as_ ?_
  refine dn ?_
  refine sr ?_
  refine mv ?_
  refine mv ?_
  refine vy (V.ix h5 rfl rfl Cnf.st9) fun x11_3 h6 => ?_
  refine LV.call hS h6 (g172_ok _ _ _ _ ) hP rfl rfl rfl rfl fun x12_4 T2 n2 h7 ρ its hS => ?_
  refine vy (V.not h7 rfl) fun x13_5 h8 => ?_
  refine mv ?_
  refine ls5 X 0 2 5 6 24 [] (g157_k2 ro (lpf4 1570005 (g157_b1 ro) f1)) 10 ?_ ?_
  ·
   rcases condK_inv h8 with ⟨e, h12⟩ | ⟨e, h12⟩
   ·
    clear h5 h6 h7 h8
    subst e
    refine mv ?_
    refine vy (V.eq h12 rfl rfl) fun x16_7 h13 => ?_
    refine mv ?_
    refine ls5 X 0 2 5 6 23 [(14, (.lit (.bool true)))] (g157_k3 ro (lpf4 1570005 (g157_b1 ro) f1)) 6 ?_ ?_
    ·
     rcases condK_inv h13 with ⟨e, h15⟩ | ⟨e, h15⟩
     ·
      clear h12 h13
      subst e
      refine sk ?_
      refine sk ?_
      refine sk ?_
      refine sk ?_
      refine sk ?_
      refine pu ?_
      exact la5 hS h15 ⟨rfl, rfl, rfl, rfl, rfl, rfl, trivial⟩
     ·
      clear h12 h13
      subst e
      refine mv ?_
      refine mv ?_
      refine vy (V.ix h15 rfl rfl Cnf.st9) fun x20_8 h16 => ?_
      refine LV.call hS h16 (g174_ok _ _ _ _ ) hP rfl rfl rfl rfl fun x21_9 T5 n5 h17 ρ its hS => ?_
      refine vy (V.not h17 rfl) fun x22_10 h18 => ?_
      refine pu ?_
      exact la5 hS h18 ⟨rfl, rfl, rfl, rfl, rfl, rfl, trivial⟩
    ·
     intro y0 y2 y5 y6 y23 T4 n4 ρ its hS h14
     unfold g157_k3 at h14
     clear h12 h13
     refine pu ?_
     exact la5 hS h14 ⟨rfl, rfl, rfl, rfl, rfl, trivial⟩
   ·
    clear h5 h6 h7 h8
    subst e
    refine sk ?_
    refine sk ?_
    refine sk ?_
    refine sk ?_
    refine sk ?_
    refine sk ?_
    refine sk ?_
    refine sk ?_
    refine sk ?_
    refine pu ?_
    exact la5 hS h12 ⟨rfl, rfl, rfl, rfl, rfl, trivial⟩
  ·
   intro y0 y2 y5 y6 y24 T3 n3 ρ its hS h9
   unfold g157_k2 at h9
   clear h5 h6 h7 h8
   refine dn ?_
   refine CV.cond h9 rfl (fun e h10 => ?_) (fun e h10 => ?_)
   ·
    clear h9
    subst e
    cases h10
   ·
    clear h9
    subst e
    refine CV.skip ?_
    refine PV.blockN ?_
    refine PV.thenN ?_
    refine CV.region ?_
    refine vy (V.add h10 rfl rfl) fun x25_6 h11 => ?_
    refine mv ?_
    refine LV.done ?_
    exact pb4 hS h11 ⟨rfl, rfl, rfl, rfl, trivial⟩
 ·
  clear h3 h4
  subst e
  refine CV.exit ?_
  refine PV.thenE ?_
  refine PV.thenE ?_
  refine PV.blockE ?_
  refine PV.thenN ?_
  refine sr ?_
  refine mv ?_
  refine vy (V.neS h5 rfl rfl) fun x27_11 h19 => ?_
  refine mv ?_
  refine ls2 X 2 33 [] (g157_k4 ro) 5 ?_ ?_
  ·
   rcases condK_inv h19 with ⟨e, h21⟩ | ⟨e, h21⟩
   ·
    clear h5 h19
    subst e
    refine LV.call hS h21 (g211_ok _ _ _ ) hP rfl rfl rfl rfl fun x29_12 T7 n7 h22 ρ its hS => ?_
    refine mv ?_
    refine LV.call hS h22 (g142_ok _ _ _ _ _ ) hP rfl rfl rfl rfl fun x31_13 T8 n8 h23 ρ its hS => ?_
    refine vy (V.not h23 rfl) fun x32_14 h24 => ?_
    refine pu ?_
    exact la2 hS h24 ⟨rfl, rfl, trivial⟩
   ·
    clear h5 h19
    subst e
    refine sk ?_
    refine sk ?_
    refine sk ?_
    refine sk ?_
    refine pu ?_
    exact la2 hS h21 ⟨rfl, rfl, trivial⟩
  ·
   intro y2 y33 T6 n6 ρ its hS h20
   unfold g157_k4 at h20
   clear h5 h19
   refine as_ ?_
   refine dn ?_
   refine CV.ret ?_
   cases h20
   exact PV.ret (by simp) Tryz.results157 hS (RS.tmp rfl RS.nil) rfl
noncomputable def g214_b1 (ro : List HT) (lp1 : AV → AV → AV → AV → AV → AV → HT → Nat → R) (y0 y2 y6 y9 y10 y11 : AV) (T1 : HT) (n1 : Nat) : R :=
 ltK Tryz.prog 3 (.tmp 11) (.tmp 10) 2140006 y11 y10 fun x12_2 =>
 condK 2140007 x12_2
 (
  iaK 2140008 y9 y11 1 fun x13_3 =>
  ldK 2140009 T1 ro x13_3 fun x14_4 =>
  fldK 2140013 T1 ro y0 0 fun x19_5 =>
  iaK 2140015 x19_5 x14_4 5 fun x21_6 =>
  ldAK 2140016 T1 ro x21_6 5 fun x22_7 =>
  dynK 2140017 y2 fun f p q => callK (scc3 4000 f ro (p ++ ([x22_7] ++ q)) T1 n1) fun x23_8 T2 n2 =>
  notK 2140018 x23_8 fun x24_9 =>
  condK 2140019 x24_9
  (
   .bad 2140020
  )
  (
   addK Tryz.prog 3 (.tmp 11) (.const (.int .i64 (.ofNat 1))) 2140021 y11 (.lit (.int .i64 (.ofNat 1))) fun x25_10 =>
   lp1 y0 y2 y6 y9 y10 x25_10 T2 n2
  )
 )
 (
  .ok (.val (.lit (.bool true))) T1 n1
 )
noncomputable def g214 (ro : List HT) (a0 a1 a2 : AV) (T : HT) (nx : Nat) : R :=
 lenSK 2140003 a1 fun x10_1 =>
 lpf6 2140005 (g214_b1 ro) 100000 a0 a2 (.lit (.bool false)) a1 x10_1 (.lit (.int .i64 (.ofNat 0))) T nx
theorem g214_ok (ro : List HT) (a0 a1 a2 : AV) (T : HT) (nx : Nat) : GOk Tryz.prog envE 214 [a0, a1, a2] ro T nx (g214 ro a0 a1 a2 T nx) := by
 refine GOk.of_body Tryz.func214 rfl Tryz.ntmps214 (by kernel_rfl) rfl fun r T' n' h1 w0 base ρ0 its hS hP => ?_
 have X : CtxW envE ρ0 ro r T' n' := trivial
 unfold g214 at h1
 refine sr ?_
 refine as_ ?_
 refine dn ?_
 refine CV.seq ?_
 refine sr ?_
 refine mv ?_
 refine vy (V.lenS h1 rfl Cnf.ls170) fun x10_1 h2 => ?_
 refine mv ?_
 refine dn ?_
 refine CV.block ?_
 refine cl6 X 0 2 6 9 10 11 [] hS h2 ⟨rfl, rfl, rfl, rfl, rfl, rfl, trivial⟩ ?_
 intro f1 y0 y2 y6 y9 y10 y11 T1 n1 ρ its hS h3
 unfold g214_b1 at h3
 clear h1 h2
 refine sr ?_
 refine vy (V.lt h3 rfl rfl) fun x12_2 h4 => ?_
 refine dn ?_
 refine CV.seq ?_
 refine CV.cond h4 rfl (fun e h5 => ?_) (fun e h5 => ?_)
 ·
  clear h3 h4
  subst e
  refine CV.skip ?_
  refine PV.thenN ?_
  refine CV.seq ?_
  refine CV.block ?_
  refine sr ?_
  refine vy (V.ia h5 rfl rfl Cnf.el170) fun x13_3 h6 => ?_
  refine vy (V.ld hS h6 rfl Cnf.one3) fun x14_4 h7 => ?_
  refine as_ ?_
  refine dn ?_
  refine sr ?_
  refine mv ?_
  refine mv ?_
  refine fl hS h7 Cnf.fo237_0 Cnf.one109 fun x19_5 h8 => ?_
  refine mv ?_
  refine vy (V.ia h8 rfl rfl Cnf.el109) fun x21_6 h9 => ?_
  refine vy (V.ldA hS h9 rfl Cnf.agg172) fun x22_7 h10 => ?_
  refine LV.callD (G := fun f gs => scc3 4000 f ro gs T1 n1) (qs := [x22_7]) hS h10 (fun f gs => scc3_ok _ _ _ _ _ _) hP rfl rfl rfl rfl rfl rfl rfl fun x23_8 T2 n2 h11 ρ its hS => ?_
  refine vy (V.not h11 rfl) fun x24_9 h12 => ?_
  refine dn ?_
  refine CV.cond h12 rfl (fun e h13 => ?_) (fun e h13 => ?_)
  ·
   clear h5 h6 h7 h8 h9 h10 h11 h12
   subst e
   cases h13
  ·
   clear h5 h6 h7 h8 h9 h10 h11 h12
   subst e
   refine CV.skip ?_
   refine PV.blockN ?_
   refine PV.thenN ?_
   refine CV.region ?_
   refine vy (V.add h13 rfl rfl) fun x25_10 h14 => ?_
   refine mv ?_
   refine LV.done ?_
   exact pb6 hS h14 ⟨rfl, rfl, rfl, rfl, rfl, rfl, trivial⟩
 ·
  clear h3 h4
  subst e
  refine CV.exit ?_
  refine PV.thenE ?_
  refine PV.thenE ?_
  refine PV.blockE ?_
  refine PV.thenN ?_
  refine sr ?_
  refine as_ ?_
  refine dn ?_
  refine CV.ret ?_
  cases h5
  exact PV.ret (by simp) Tryz.results214 hS (RS.tmp rfl RS.nil) rfl
noncomputable def g212_k2 (ro : List HT) (y23 : AV) (T2 : HT) (n2 : Nat) : R :=
 .ok (.val y23) T2 n2
noncomputable def g212_k1 (ro : List HT) (y0 y1 y18 : AV) (T1 : HT) (n1 : Nat) : R :=
 condK 2120009 y18
 (
  callK (g214 ro y0 y1 (.lit (.func (.func 258) #[] #[])) T1 n1) fun x22_3 T3 n3 =>
  g212_k2 ro x22_3 T3 n3
 )
 (
  g212_k2 ro (.lit (.bool false)) T1 n1
 )
noncomputable def g212 (ro : List HT) (a0 a1 a2 a3 : AV) (T : HT) (nx : Nat) : R :=
 lenSK 2120003 a1 fun x10_1 =>
 geK Tryz.prog 3 (.tmp 10) (.tmp 11) 2120005 x10_1 a2 fun x12_2 =>
 condK 2120015 x12_2
 (
  lenSK 2120017 a1 fun x15_4 =>
  leK Tryz.prog 3 (.tmp 15) (.tmp 16) 2120019 x15_4 a3 fun x17_5 =>
  g212_k1 ro a0 a1 x17_5 T nx
 )
 (
  g212_k1 ro a0 a1 (.lit (.bool false)) T nx
 )
theorem g212_ok (ro : List HT) (a0 a1 a2 a3 : AV) (T : HT) (nx : Nat) : GOk Tryz.prog envE 212 [a0, a1, a2, a3] ro T nx (g212 ro a0 a1 a2 a3 T nx) := by
 refine GOk.of_body Tryz.func212 rfl Tryz.ntmps212 (by kernel_rfl) rfl fun r T' n' h1 w0 base ρ0 its hS hP => ?_
 have X : CtxW envE ρ0 ro r T' n' := trivial
 unfold g212 at h1
 refine sr ?_
 refine as_ ?_
 refine dn ?_
 refine sr ?_
 refine mv ?_
 refine vy (V.lenS h1 rfl Cnf.ls170) fun x10_1 h2 => ?_
 refine mv ?_
 refine vy (V.ge h2 rfl rfl) fun x12_2 h3 => ?_
 refine mv ?_
 refine ls3 X 0 1 18 [(8, (.lit (.bool false)))] (g212_k1 ro) 5 ?_ ?_
 ·
  rcases condK_inv h3 with ⟨e, h8⟩ | ⟨e, h8⟩
  ·
   clear h1 h2 h3
   subst e
   refine mv ?_
   refine vy (V.lenS h8 rfl Cnf.ls170) fun x15_4 h9 => ?_
   refine mv ?_
   refine vy (V.le h9 rfl rfl) fun x17_5 h10 => ?_
   refine pu ?_
   exact la3 hS h10 ⟨rfl, rfl, rfl, rfl, trivial⟩
  ·
   clear h1 h2 h3
   subst e
   refine sk ?_
   refine sk ?_
   refine sk ?_
   refine sk ?_
   refine pu ?_
   exact la3 hS h8 ⟨rfl, rfl, rfl, rfl, trivial⟩
 ·
  intro y0 y1 y18 T1 n1 ρ its hS h4
  unfold g212_k1 at h4
  clear h1 h2 h3
  refine mv ?_
  refine ls1 X 23 [(8, (.lit (.bool false)))] (g212_k2 ro) 4 ?_ ?_
  ·
   rcases condK_inv h4 with ⟨e, h6⟩ | ⟨e, h6⟩
   ·
    clear h4
    subst e
    refine mv ?_
    refine mv ?_
    refine LV.call hS h6 (g214_ok _ _ _ _ _ _ ) hP rfl rfl rfl rfl fun x22_3 T3 n3 h7 ρ its hS => ?_
    refine pu ?_
    exact la1 hS h7 ⟨rfl, rfl, trivial⟩
   ·
    clear h4
    subst e
    refine sk ?_
    refine sk ?_
    refine sk ?_
    refine pu ?_
    exact la1 hS h6 ⟨rfl, rfl, trivial⟩
  ·
   intro y23 T2 n2 ρ its hS h5
   unfold g212_k2 at h5
   clear h4
   refine as_ ?_
   refine dn ?_
   refine CV.ret ?_
   cases h5
   exact PV.ret (by simp) Tryz.results212 hS (RS.tmp rfl RS.nil) rfl
noncomputable def g217_k1 (ih : FuncId → List HT → List AV → HT → Nat → R) (ro : List HT) (y0 y5 y25 : AV) (T3 : HT) (n3 : Nat) : R :=
 .ok (.val y25) T3 n3
noncomputable def g217_b2 (ih : FuncId → List HT → List AV → HT → Nat → R) (ro : List HT) (lp2 : AV → AV → AV → AV → AV → AV → HT → Nat → R) (y0 y4 y5 y27 y28 y29 : AV) (T4 : HT) (n4 : Nat) : R :=
 ltK Tryz.prog 3 (.tmp 29) (.tmp 28) 2170029 y29 y28 fun x30_17 =>
 condK 2170030 x30_17
 (
  iaK 2170031 y27 y29 1 fun x31_18 =>
  ldK 2170032 T4 ro x31_18 fun x32_19 =>
  callK (ih 217 ro [y0, x32_19] T4 n4) fun x35_20 T5 n5 =>
  notK 2170037 x35_20 fun x36_21 =>
  condK 2170038 x36_21
  (
   .bad 2170039
  )
  (
   addK Tryz.prog 3 (.tmp 29) (.const (.int .i64 (.ofNat 1))) 2170040 y29 (.lit (.int .i64 (.ofNat 1))) fun x37_22 =>
   lp2 y0 y4 y5 y27 y28 x37_22 T5 n5
  )
 )
 (
  faK 2170042 y5 4 fun x38_23 =>
  ldK 2170043 T4 ro x38_23 fun x39_24 =>
  lenSK 2170044 x39_24 fun x40_25 =>
  gtK Tryz.prog 3 (.tmp 40) (.const (.int .i64 (.ofNat 0))) 2170045 x40_25 (.lit (.int .i64 (.ofNat 0))) fun x41_26 =>
  .ok (.val x41_26) T4 n4
 )
noncomputable def g217 (ih : FuncId → List HT → List AV → HT → Nat → R) (ro : List HT) (a0 a1 : AV) (T : HT) (nx : Nat) : R :=
 fldK 2170003 T ro a0 0 fun x11_1 =>
 iaK 2170005 x11_1 a1 5 fun x13_2 =>
 ldAK 2170006 T ro x13_2 5 fun x14_3 =>
 newK T nx (.obj [.lit (.int .i64 0), .lit (.int .i64 0), .lit (.int .i64 0), .lit (.string ⟨#[]⟩), .lit (.slice none 0 0)] 172) fun x5_4 T1 n1 =>
 stAK 2170008 T1 x5_4 x14_3 5 fun T2 =>
 faK 2170009 x5_4 0 fun x15_5 =>
 ldK 2170010 T2 ro x15_5 fun x16_6 =>
 neK Tryz.prog 3 (.tmp 16) (.const (.int .i64 (.ofNat 8))) 2170011 x16_6 (.lit (.int .i64 (.ofNat 8))) fun x17_7 =>
 condK 2170012 x17_7
 (
  faK 2170013 x5_4 0 fun x18_8 =>
  ldK 2170014 T2 ro x18_8 fun x19_9 =>
  eqK Tryz.prog 3 (.tmp 19) (.const (.int .i64 (.ofNat 6))) 2170015 x19_9 (.lit (.int .i64 (.ofNat 6))) fun x20_10 =>
  condK 2170018 x20_10
  (
   g217_k1 ih ro a0 x5_4 (.lit (.bool true)) T2 n1
  )
  (
   faK 2170020 x5_4 0 fun x22_11 =>
   ldK 2170021 T2 ro x22_11 fun x23_12 =>
   eqK Tryz.prog 3 (.tmp 23) (.const (.int .i64 (.ofNat 13))) 2170022 x23_12 (.lit (.int .i64 (.ofNat 13))) fun x24_13 =>
   g217_k1 ih ro a0 x5_4 x24_13 T2 n1
  )
 )
 (
  faK 2170024 x5_4 4 fun x26_14 =>
  ldK 2170025 T2 ro x26_14 fun x27_15 =>
  lenSK 2170026 x27_15 fun x28_16 =>
  lpf6 2170028 (g217_b2 ih ro) 100000 a0 (.lit (.bool false)) x5_4 x27_15 x28_16 (.lit (.int .i64 (.ofNat 0))) T2 n1
 )
theorem g217_ok (ih : FuncId → List HT → List AV → HT → Nat → R) (hI : ∀ f ro args T nx, GOk Tryz.prog envE f args ro T nx (ih f ro args T nx)) (ro : List HT) (a0 a1 : AV) (T : HT) (nx : Nat) : GOk Tryz.prog envE 217 [a0, a1] ro T nx (g217 ih ro a0 a1 T nx) := by
 refine GOk.of_body Tryz.func217 rfl Tryz.ntmps217 (by kernel_rfl) rfl fun r T' n' h1 w0 base ρ0 its hS hP => ?_
 have X : CtxW envE ρ0 ro r T' n' := trivial
 unfold g217 at h1
 refine sr ?_
 refine as_ ?_
 refine dn ?_
 refine sr ?_
 refine mv ?_
 refine fl hS h1 Cnf.fo237_0 Cnf.one109 fun x11_1 h2 => ?_
 refine mv ?_
 refine vy (V.ia h2 rfl rfl Cnf.el109) fun x13_2 h3 => ?_
 refine vy (V.ldA hS h3 rfl Cnf.agg172) fun x14_3 h4 => ?_
 refine LV.alloc hS h4 rfl Cnf.zr172 rfl rfl rfl fun x5_4 T1 n1 h5 ρ its hS hdr => ?_
 refine LV.stA hS h5 rfl rfl rfl Cnf.agg172 rfl rfl rfl fun T2 its h6 hS => ?_
 refine dn ?_
 refine CV.seq ?_
 refine sr ?_
 refine vy (V.fa h6 rfl Cnf.fo172_0) fun x15_5 h7 => ?_
 refine vy (V.ld hS h7 rfl Cnf.one3) fun x16_6 h8 => ?_
 refine vy (V.ne h8 rfl rfl) fun x17_7 h9 => ?_
 refine dn ?_
 refine CV.cond h9 rfl (fun e h10 => ?_) (fun e h10 => ?_)
 ·
  clear h1 h2 h3 h4 h5 h6 h7 h8 h9
  subst e
  refine sr ?_
  refine vy (V.fa h10 rfl Cnf.fo172_0) fun x18_8 h11 => ?_
  refine vy (V.ld hS h11 rfl Cnf.one3) fun x19_9 h12 => ?_
  refine vy (V.eq h12 rfl rfl) fun x20_10 h13 => ?_
  refine mv ?_
  refine ls3 X 0 5 25 [(4, (.lit (.bool false)))] (g217_k1 ih ro) 4 ?_ ?_
  ·
   rcases condK_inv h13 with ⟨e, h15⟩ | ⟨e, h15⟩
   ·
    clear h10 h11 h12 h13
    subst e
    refine sk ?_
    refine sk ?_
    refine sk ?_
    refine pu ?_
    exact la3 hS h15 ⟨rfl, rfl, rfl, rfl, trivial⟩
   ·
    clear h10 h11 h12 h13
    subst e
    refine vy (V.fa h15 rfl Cnf.fo172_0) fun x22_11 h16 => ?_
    refine vy (V.ld hS h16 rfl Cnf.one3) fun x23_12 h17 => ?_
    refine vy (V.eq h17 rfl rfl) fun x24_13 h18 => ?_
    refine pu ?_
    exact la3 hS h18 ⟨rfl, rfl, rfl, rfl, trivial⟩
  ·
   intro y0 y5 y25 T3 n3 ρ its hS h14
   unfold g217_k1 at h14
   clear h10 h11 h12 h13
   refine as_ ?_
   refine dn ?_
   refine CV.ret ?_
   refine PV.thenR ?_
   cases h14
   exact PV.ret (by simp) Tryz.results217 hS (RS.tmp rfl RS.nil) rfl
 ·
  clear h1 h2 h3 h4 h5 h6 h7 h8 h9
  subst e
  refine CV.skip ?_
  refine PV.thenN ?_
  refine CV.seq ?_
  refine sr ?_
  refine vy (V.fa h10 rfl Cnf.fo172_4) fun x26_14 h19 => ?_
  refine vy (V.ld hS h19 rfl Cnf.one170) fun x27_15 h20 => ?_
  refine vy (V.lenS h20 rfl Cnf.ls170) fun x28_16 h21 => ?_
  refine mv ?_
  refine dn ?_
  refine CV.block ?_
  refine cl6 X 0 4 5 27 28 29 [] hS h21 ⟨rfl, rfl, rfl, rfl, rfl, rfl, trivial⟩ ?_
  intro f2 y0 y4 y5 y27 y28 y29 T4 n4 ρ its hS h22
  unfold g217_b2 at h22
  clear h10 h19 h20 h21
  refine sr ?_
  refine vy (V.lt h22 rfl rfl) fun x30_17 h23 => ?_
  refine dn ?_
  refine CV.seq ?_
  refine CV.cond h23 rfl (fun e h24 => ?_) (fun e h24 => ?_)
  ·
   clear h22 h23
   subst e
   refine CV.skip ?_
   refine PV.thenN ?_
   refine CV.seq ?_
   refine CV.block ?_
   refine sr ?_
   refine vy (V.ia h24 rfl rfl Cnf.el170) fun x31_18 h25 => ?_
   refine vy (V.ld hS h25 rfl Cnf.one3) fun x32_19 h26 => ?_
   refine as_ ?_
   refine dn ?_
   refine sr ?_
   refine mv ?_
   refine mv ?_
   refine LV.call hS h26 (hI _ _ _ _ _) hP rfl rfl rfl rfl fun x35_20 T5 n5 h27 ρ its hS => ?_
   refine vy (V.not h27 rfl) fun x36_21 h28 => ?_
   refine dn ?_
   refine CV.cond h28 rfl (fun e h29 => ?_) (fun e h29 => ?_)
   ·
    clear h24 h25 h26 h27 h28
    subst e
    cases h29
   ·
    clear h24 h25 h26 h27 h28
    subst e
    refine CV.skip ?_
    refine PV.blockN ?_
    refine PV.thenN ?_
    refine CV.region ?_
    refine vy (V.add h29 rfl rfl) fun x37_22 h30 => ?_
    refine mv ?_
    refine LV.done ?_
    exact pb6 hS h30 ⟨rfl, rfl, rfl, rfl, rfl, rfl, trivial⟩
  ·
   clear h22 h23
   subst e
   refine CV.exit ?_
   refine PV.thenE ?_
   refine PV.thenE ?_
   refine PV.blockE ?_
   refine PV.thenN ?_
   refine sr ?_
   refine vy (V.fa h24 rfl Cnf.fo172_4) fun x38_23 h31 => ?_
   refine vy (V.ld hS h31 rfl Cnf.one170) fun x39_24 h32 => ?_
   refine vy (V.lenS h32 rfl Cnf.ls170) fun x40_25 h33 => ?_
   refine vy (V.gt h33 rfl rfl) fun x41_26 h34 => ?_
   refine as_ ?_
   refine dn ?_
   refine CV.ret ?_
   cases h34
   exact PV.ret (by simp) Tryz.results217 hS (RS.tmp rfl RS.nil) rfl
noncomputable def ap4 (ih : FuncId → List HT → List AV → HT → Nat → R) (f : FuncId) (ro : List HT) (args : List AV) (T : HT) (nx : Nat) : R :=
  Bool.rec (motive := fun _ => R) (.bad 2) (List.rec (motive := fun _ => R) (.bad 1) (fun a0 l0 _ => List.rec (motive := fun _ => R) (.bad 1) (fun a1 l1 _ => List.rec (motive := fun _ => R) (g217 ih ro a0 a1 T nx) (fun _ _ _ => .bad 1) l1) l0) args) (Nat.beq f 217)
noncomputable def scc4 (fuel : Nat) : FuncId → List HT → List AV → HT → Nat → R :=
  Nat.rec (motive := fun _ => FuncId → List HT → List AV → HT → Nat → R) (fun _ _ _ _ _ => .bad 3) (fun _ ih => ap4 ih) fuel
theorem ap4_ok (ih : FuncId → List HT → List AV → HT → Nat → R) (hI : ∀ f ro args T nx, GOk Tryz.prog envE f args ro T nx (ih f ro args T nx)) (f : FuncId) (ro : List HT) (args : List AV) (T : HT) (nx : Nat) : GOk Tryz.prog envE f args ro T nx (ap4 ih f ro args T nx) := by
  unfold ap4
  refine recb_go (fun hb => ?_) (fun _ => ?_)
  · obtain rfl := beqT hb
    rcases args with _ | ⟨a0, l0⟩
    · exact GOk.bad
    rcases l0 with _ | ⟨a1, l1⟩
    · exact GOk.bad
    rcases l1 with _ | ⟨_, _⟩
    · exact g217_ok _ hI _ _ _ _ _ 
    · exact GOk.bad
  · exact GOk.bad
theorem scc4_ok : ∀ (fuel : Nat) (f : FuncId) (ro : List HT) (args : List AV) (T : HT) (nx : Nat), GOk Tryz.prog envE f args ro T nx (scc4 fuel f ro args T nx)
  | 0, _, _, _, _, _ => GOk.bad
  | fuel + 1, f, ro, args, T, nx => ap4_ok (scc4 fuel) (scc4_ok fuel) f ro args T nx
noncomputable def g223_k2 (ro : List HT) (y0 y1 y2 y26 : AV) (T2 : HT) (n2 : Nat) : R :=
 .ok (.val y26) T2 n2
noncomputable def g223_k1 (ro : List HT) (y0 y1 y2 y20 : AV) (T1 : HT) (n1 : Nat) : R :=
 condK 2230012 y20
 (
  cutLoFK 2230015 T1 ro y2 (.lit (.int .i64 (.ofNat 1))) 1 fun x24_4 =>
  callK (g212 ro y0 x24_4 (.lit (.int .i64 (.ofNat 1))) (.lit (.int .i64 (.ofNat 1))) T1 n1) fun x25_5 T3 n3 =>
  g223_k2 ro y0 y1 y2 x25_5 T3 n3
 )
 (
  g223_k2 ro y0 y1 y2 (.lit (.bool false)) T1 n1
 )
noncomputable def g223_k6 (ro : List HT) (y122 : AV) (T8 : HT) (n8 : Nat) : R :=
 .ok (.val y122) T8 n8
noncomputable def g223_k5 (ro : List HT) (y0 y2 y116 : AV) (T7 : HT) (n7 : Nat) : R :=
 condK 2230048 y116
 (
  callK (g212 ro y0 y2 (.lit (.int .i64 (.ofNat 2))) (.lit (.int .i64 (.ofNat 2))) T7 n7) fun x121_13 T9 n9 =>
  g223_k6 ro x121_13 T9 n9
 )
 (
  g223_k6 ro (.lit (.bool false)) T7 n7
 )
noncomputable def g223_k7 (ro : List HT) (y0 y2 y115 : AV) (T10 : HT) (n10 : Nat) : R :=
 g223_k5 ro y0 y2 y115 T10 n10
noncomputable def g223_k4 (ro : List HT) (y0 y1 y2 y108 : AV) (T6 : HT) (n6 : Nat) : R :=
 condK 2230054 y108
 (
  g223_k5 ro y0 y2 (.lit (.bool true)) T6 n6
 )
 (
  geK Tryz.prog 3 (.tmp 110) (.const (.int .i64 (.ofNat 21))) 2230057 y1 (.lit (.int .i64 (.ofNat 21))) fun x111_14 =>
  condK 2230060 x111_14
  (
   leK Tryz.prog 3 (.tmp 113) (.const (.int .i64 (.ofNat 33))) 2230062 y1 (.lit (.int .i64 (.ofNat 33))) fun x114_15 =>
   g223_k7 ro y0 y2 x114_15 T6 n6
  )
  (
   g223_k7 ro y0 y2 (.lit (.bool false)) T6 n6
  )
 )
noncomputable def g223_k3 (ro : List HT) (y0 y1 y2 y104 : AV) (T5 : HT) (n5 : Nat) : R :=
 condK 2230065 y104
 (
  g223_k4 ro y0 y1 y2 (.lit (.bool true)) T5 n5
 )
 (
  eqK Tryz.prog 3 (.tmp 106) (.const (.int .i64 (.ofNat 19))) 2230068 y1 (.lit (.int .i64 (.ofNat 19))) fun x107_16 =>
  g223_k4 ro y0 y1 y2 x107_16 T5 n5
 )
noncomputable def g223 (ro : List HT) (a0 a1 a2 : AV) (T : HT) (nx : Nat) : R :=
 eqK Tryz.prog 3 (.tmp 8) (.const (.int .i64 (.ofNat 36))) 2230003 a1 (.lit (.int .i64 (.ofNat 36))) fun x10_1 =>
 condK 2230005 x10_1
 (
  lenSK 2230007 a2 fun x12_2 =>
  eqK Tryz.prog 3 (.tmp 12) (.const (.int .i64 (.ofNat 2))) 2230008 x12_2 (.lit (.int .i64 (.ofNat 2))) fun x13_3 =>
  condK 2230019 x13_3
  (
   iaK 2230022 a2 (.lit (.int .i64 (.ofNat 0))) 1 fun x17_6 =>
   ldK 2230023 T ro x17_6 fun x18_7 =>
   callK (scc4 4000 217 ro [a0, x18_7] T nx) fun x19_8 T4 n4 =>
   g223_k1 ro a0 a1 a2 x19_8 T4 n4
  )
  (
   g223_k1 ro a0 a1 a2 (.lit (.bool false)) T nx
  )
 )
 (
  eqK Tryz.prog 3 (.tmp 8) (.const (.int .i64 (.ofNat 37))) 2230027 a1 (.lit (.int .i64 (.ofNat 37))) fun x28_9 =>
  condK 2230029 x28_9
  (
   .bad 2230030
  )
  (
   eqK Tryz.prog 3 (.tmp 8) (.const (.int .i64 (.ofNat 43))) 2230031 a1 (.lit (.int .i64 (.ofNat 43))) fun x53_10 =>
   condK 2230033 x53_10
   (
    .bad 2230034
   )
   (
    eqK Tryz.prog 3 (.tmp 8) (.const (.int .i64 (.ofNat 44))) 2230035 a1 (.lit (.int .i64 (.ofNat 44))) fun x75_11 =>
    condK 2230037 x75_11
    (
     .bad 2230038
    )
    (
     eqK Tryz.prog 3 (.tmp 99) (.const (.int .i64 (.ofNat 13))) 2230040 a1 (.lit (.int .i64 (.ofNat 13))) fun x100_12 =>
     condK 2230070 x100_12
     (
      g223_k3 ro a0 a1 a2 (.lit (.bool true)) T nx
     )
     (
      eqK Tryz.prog 3 (.tmp 102) (.const (.int .i64 (.ofNat 18))) 2230073 a1 (.lit (.int .i64 (.ofNat 18))) fun x103_17 =>
      g223_k3 ro a0 a1 a2 x103_17 T nx
     )
    )
   )
  )
 )
theorem g223_ok (ro : List HT) (a0 a1 a2 : AV) (T : HT) (nx : Nat) : GOk Tryz.prog envE 223 [a0, a1, a2] ro T nx (g223 ro a0 a1 a2 T nx) := by
 refine GOk.of_body Tryz.func223 rfl Tryz.ntmps223 (by kernel_rfl) rfl fun r T' n' h1 w0 base ρ0 its hS hP => ?_
 have X : CtxW envE ρ0 ro r T' n' := trivial
 unfold g223 at h1
 refine sr ?_
 refine as_ ?_
 refine dn ?_
 refine CV.seq ?_
 refine sr ?_
 refine mv ?_
 refine dn ?_
 refine CV.block ?_
 refine sr ?_
 refine vy (V.eq h1 rfl rfl) fun x10_1 h2 => ?_
 refine as_ ?_
 refine dn ?_
 refine CV.cond h2 rfl (fun e h3 => ?_) (fun e h3 => ?_)
 ·
  clear h1 h2
  subst e
  refine sr ?_
  refine mv ?_
  refine vy (V.lenS h3 rfl Cnf.ls170) fun x12_2 h4 => ?_
  refine vy (V.eq h4 rfl rfl) fun x13_3 h5 => ?_
  refine mv ?_
  refine ls4 X 0 1 2 20 [(6, (.lit (.bool false)))] (g223_k1 ro) 6 ?_ ?_
  ·
   rcases condK_inv h5 with ⟨e, h11⟩ | ⟨e, h11⟩
   ·
    clear h3 h4 h5
    subst e
    refine mv ?_
    refine mv ?_
    refine vy (V.ia h11 rfl rfl Cnf.el170) fun x17_6 h12 => ?_
    refine vy (V.ld hS h12 rfl Cnf.one3) fun x18_7 h13 => ?_
    refine LV.call hS h13 (scc4_ok _ _ _ _ _ _) hP rfl rfl rfl rfl fun x19_8 T4 n4 h14 ρ its hS => ?_
    refine pu ?_
    exact la4 hS h14 ⟨rfl, rfl, rfl, rfl, rfl, trivial⟩
   ·
    clear h3 h4 h5
    subst e
    refine sk ?_
    refine sk ?_
    refine sk ?_
    refine sk ?_
    refine sk ?_
    refine pu ?_
    exact la4 hS h11 ⟨rfl, rfl, rfl, rfl, rfl, trivial⟩
  ·
   intro y0 y1 y2 y20 T1 n1 ρ its hS h6
   unfold g223_k1 at h6
   clear h3 h4 h5
   refine mv ?_
   refine ls4 X 0 1 2 26 [(6, (.lit (.bool false)))] (g223_k2 ro) 5 ?_ ?_
   ·
    rcases condK_inv h6 with ⟨e, h8⟩ | ⟨e, h8⟩
    ·
     clear h6
     subst e
     refine mv ?_
     refine mv ?_
     refine LV.cutLoF hS h8 rfl rfl rfl Cnf.el170 rfl rfl rfl fun x24_4 h9 => ?_
     refine LV.call hS h9 (g212_ok _ _ _ _ _ _ _ ) hP rfl rfl rfl rfl fun x25_5 T3 n3 h10 ρ its hS => ?_
     refine pu ?_
     exact la4 hS h10 ⟨rfl, rfl, rfl, rfl, rfl, trivial⟩
    ·
     clear h6
     subst e
     refine sk ?_
     refine sk ?_
     refine sk ?_
     refine sk ?_
     refine pu ?_
     exact la4 hS h8 ⟨rfl, rfl, rfl, rfl, rfl, trivial⟩
   ·
    intro y0 y1 y2 y26 T2 n2 ρ its hS h7
    unfold g223_k2 at h7
    clear h6
    refine as_ ?_
    refine dn ?_
    refine CV.ret ?_
    refine PV.blockR ?_
    refine PV.thenR ?_
    cases h7
    exact PV.ret (by simp) Tryz.results223 hS (RS.tmp rfl RS.nil) rfl
 ·
  clear h1 h2
  subst e
  refine sr ?_
  refine vy (V.eq h3 rfl rfl) fun x28_9 h15 => ?_
  refine as_ ?_
  refine dn ?_
  refine CV.cond h15 rfl (fun e h16 => ?_) (fun e h16 => ?_)
  ·
   clear h3 h15
   subst e
   cases h16
  ·
   clear h3 h15
   subst e
   refine sr ?_
   refine vy (V.eq h16 rfl rfl) fun x53_10 h17 => ?_
   refine as_ ?_
   refine dn ?_
   refine CV.cond h17 rfl (fun e h18 => ?_) (fun e h18 => ?_)
   ·
    clear h16 h17
    subst e
    cases h18
   ·
    clear h16 h17
    subst e
    refine sr ?_
    refine vy (V.eq h18 rfl rfl) fun x75_11 h19 => ?_
    refine as_ ?_
    refine dn ?_
    refine CV.cond h19 rfl (fun e h20 => ?_) (fun e h20 => ?_)
    ·
     clear h18 h19
     subst e
     cases h20
    ·
     clear h18 h19
     subst e
     refine CV.skip ?_
     refine PV.blockN ?_
     refine PV.thenN ?_
     refine sr ?_
     refine mv ?_
     refine vy (V.eq h20 rfl rfl) fun x100_12 h21 => ?_
     refine mv ?_
     refine ls4 X 0 1 2 104 [(6, (.lit (.bool false)))] (g223_k3 ro) 3 ?_ ?_
     ·
      rcases condK_inv h21 with ⟨e, h35⟩ | ⟨e, h35⟩
      ·
       clear h20 h21
       subst e
       refine sk ?_
       refine sk ?_
       refine pu ?_
       exact la4 hS h35 ⟨rfl, rfl, rfl, rfl, rfl, trivial⟩
      ·
       clear h20 h21
       subst e
       refine mv ?_
       refine vy (V.eq h35 rfl rfl) fun x103_17 h36 => ?_
       refine pu ?_
       exact la4 hS h36 ⟨rfl, rfl, rfl, rfl, rfl, trivial⟩
     ·
      intro y0 y1 y2 y104 T5 n5 ρ its hS h22
      unfold g223_k3 at h22
      clear h20 h21
      refine mv ?_
      refine ls4 X 0 1 2 108 [(6, (.lit (.bool false)))] (g223_k4 ro) 3 ?_ ?_
      ·
       rcases condK_inv h22 with ⟨e, h33⟩ | ⟨e, h33⟩
       ·
        clear h22
        subst e
        refine sk ?_
        refine sk ?_
        refine pu ?_
        exact la4 hS h33 ⟨rfl, rfl, rfl, rfl, rfl, trivial⟩
       ·
        clear h22
        subst e
        refine mv ?_
        refine vy (V.eq h33 rfl rfl) fun x107_16 h34 => ?_
        refine pu ?_
        exact la4 hS h34 ⟨rfl, rfl, rfl, rfl, rfl, trivial⟩
      ·
       intro y0 y1 y2 y108 T6 n6 ρ its hS h23
       unfold g223_k4 at h23
       clear h22
       refine mv ?_
       refine ls3 X 0 2 116 [(6, (.lit (.bool false)))] (g223_k5 ro) 7 ?_ ?_
       ·
        rcases condK_inv h23 with ⟨e, h28⟩ | ⟨e, h28⟩
        ·
         clear h23
         subst e
         refine sk ?_
         refine sk ?_
         refine sk ?_
         refine sk ?_
         refine sk ?_
         refine sk ?_
         refine pu ?_
         exact la3 hS h28 ⟨rfl, rfl, rfl, rfl, trivial⟩
        ·
         clear h23
         subst e
         refine mv ?_
         refine vy (V.ge h28 rfl rfl) fun x111_14 h29 => ?_
         refine mv ?_
         refine ls3 X 0 2 115 [(6, (.lit (.bool false))), (109, (.lit (.bool false)))] (g223_k7 ro) 3 ?_ ?_
         ·
          rcases condK_inv h29 with ⟨e, h31⟩ | ⟨e, h31⟩
          ·
           clear h28 h29
           subst e
           refine mv ?_
           refine vy (V.le h31 rfl rfl) fun x114_15 h32 => ?_
           refine pu ?_
           exact la3 hS h32 ⟨rfl, rfl, rfl, rfl, rfl, trivial⟩
          ·
           clear h28 h29
           subst e
           refine sk ?_
           refine sk ?_
           refine pu ?_
           exact la3 hS h31 ⟨rfl, rfl, rfl, rfl, rfl, trivial⟩
         ·
          intro y0 y2 y115 T10 n10 ρ its hS h30
          unfold g223_k7 at h30
          clear h28 h29
          refine pu ?_
          exact la3 hS h30 ⟨rfl, rfl, rfl, rfl, trivial⟩
       ·
        intro y0 y2 y116 T7 n7 ρ its hS h24
        unfold g223_k5 at h24
        clear h23
        refine as_ ?_
        refine dn ?_
        refine sr ?_
        refine mv ?_
        refine mv ?_
        refine ls1 X 122 [(6, (.lit (.bool false)))] (g223_k6 ro) 4 ?_ ?_
        ·
         rcases condK_inv h24 with ⟨e, h26⟩ | ⟨e, h26⟩
         ·
          clear h24
          subst e
          refine mv ?_
          refine mv ?_
          refine LV.call hS h26 (g212_ok _ _ _ _ _ _ _ ) hP rfl rfl rfl rfl fun x121_13 T9 n9 h27 ρ its hS => ?_
          refine pu ?_
          exact la1 hS h27 ⟨rfl, rfl, trivial⟩
         ·
          clear h24
          subst e
          refine sk ?_
          refine sk ?_
          refine sk ?_
          refine pu ?_
          exact la1 hS h26 ⟨rfl, rfl, trivial⟩
        ·
         intro y122 T8 n8 ρ its hS h25
         unfold g223_k6 at h25
         clear h24
         refine as_ ?_
         refine dn ?_
         refine CV.ret ?_
         cases h25
         exact PV.ret (by simp) Tryz.results223 hS (RS.tmp rfl RS.nil) rfl

end Go.Proofs.YtlljgagoboapaaaGreatDoor.Cn
