/-
  Proved here: plain functions that do what the program's functions do, each with its proof.
-/
import Derived.Test.YtdepmlcnllofiaaGreatDoorRch
namespace Go.Proofs.YtdepmlcnllofiaaGreatDoor.Rc
open Go.EY Go.EX Go.SX Go.RowKit
noncomputable def g27_k2 (ro : List HT) (lp1 : AV → AV → AV → AV → AV → AV → AV → AV → AV → HT → Nat → R) (y0 y4 y5 y6 y8 y9 y41 y42 y43 : AV) (T9 : HT) (n9 : Nat) : R :=
 addK Tryz.prog 3 (.tmp 43) (.const (.int .i64 (.ofNat 1))) 270041 y43 (.lit (.int .i64 (.ofNat 1))) fun x66_16 =>
 lp1 y0 y4 y5 y6 y8 y9 y41 y42 x66_16 T9 n9
noncomputable def g27_b1 (ro : List HT) (lp1 : AV → AV → AV → AV → AV → AV → AV → AV → AV → HT → Nat → R) (y0 y4 y5 y6 y8 y9 y41 y42 y43 : AV) (T8 : HT) (n8 : Nat) : R :=
 ltK Tryz.prog 3 (.tmp 43) (.tmp 42) 270039 y43 y42 fun x44_15 =>
 condK 270040 x44_15
 (
  iaK 270044 y41 y43 5 fun x46_17 =>
  ldAK 270045 T8 ro x46_17 5 fun x47_18 =>
  newK T8 n8 (.obj [.lit (.int .i64 0), .lit (.int .i64 0), .lit (.int .i64 0), .lit (.string ⟨#[]⟩), .lit (.slice none 0 0)] 32) fun x11_19 T10 n10 =>
  stAK 270048 T10 x11_19 x47_18 5 fun T11 =>
  faK 270049 x11_19 0 fun x48_20 =>
  ldK 270050 T11 ro x48_20 fun x49_21 =>
  eqK Tryz.prog 3 (.tmp 49) (.const (.int .i64 (.ofNat 45))) 270051 x49_21 (.lit (.int .i64 (.ofNat 45))) fun x50_22 =>
  condK 270052 x50_22
  (
   ncK 270055 y9 fun x53_23 =>
   faK 270056 x53_23 4 fun x54_24 =>
   ldK 270057 T11 ro x54_24 fun x55_25 =>
   faK 270059 x11_19 4 fun x57_26 =>
   ldK 270060 T11 ro x57_26 fun x58_27 =>
   lenSK 270061 x58_27 fun x59_28 =>
   subK Tryz.prog 3 (.tmp 59) (.const (.int .i64 (.ofNat 1))) 270062 x59_28 (.lit (.int .i64 (.ofNat 1))) fun x60_29 =>
   optK 270063 (bld56 [(0, y43), (1, x60_29)]) fun x61_30 =>
   bsK 270064 T11 n10 1 56 4 [(0, x61_30)] fun x62_31 T12 n12 =>
   shrK 270066 T12 x55_25 fun T13 =>
   appK 270065 T13 ro n12 56 4 48 x55_25 x62_31 fun x63_32 T14 n14 =>
   ncK 270067 y9 fun x64_33 =>
   faK 270068 x64_33 4 fun x65_34 =>
   stK 270069 T14 x65_34 x63_32 fun T15 =>
   g27_k2 ro lp1 y0 y4 y5 y6 y8 y9 y41 y42 y43 T15 n14
  )
  (
   g27_k2 ro lp1 y0 y4 y5 y6 y8 y9 y41 y42 y43 T11 n10
  )
 )
 (
  callK (scc7 4000 58 ro [y9, y8, (.lit (.pointer none))] T8 n8) fun x69_35 T16 n16 =>
  fldK 270074 T16 ro y9 5 fun x73_36 =>
  geK Tryz.prog 3 (.tmp 73) (.const (.int .i64 (.ofNat 0))) 270075 x73_36 (.lit (.int .i64 (.ofNat 0))) fun x74_37 =>
  condK 270076 x74_37
  (
   ncK 270079 y9 fun x77_38 =>
   faK 270080 x77_38 5 fun x78_39 =>
   ldK 270081 T16 ro x78_39 fun x79_40 =>
   iaK 270082 y0 x79_40 5 fun x80_41 =>
   faK 270083 x80_41 2 fun x81_42 =>
   ldK 270084 T16 ro x81_42 fun x82_43 =>
   optK 270086 (bld74 [(0, x82_43), (1, (.iface 253 (.opq 2)))]) fun x84_44 =>
   boxK 270089 T16 n16 x84_44 74 fun x85_45 T17 n17 =>
   .ok (.val (.tup [(.lit (.slice none 0 0)), (.lit (.slice none 0 0)), (.iface 72 x85_45)])) T17 n17
  )
  (
   fldK 270093 T16 ro y9 3 fun x90_46 =>
   callK (g59 ro x90_46 (.lit (.func (.func 60) #[] #[])) T16 n16) fun x91_47 T18 n18 =>
   ncK 270096 y9 fun x93_48 =>
   faK 270097 x93_48 3 fun x94_49 =>
   ldK 270098 T18 ro x94_49 fun x95_50 =>
   ncK 270100 y9 fun x97_51 =>
   faK 270101 x97_51 4 fun x98_52 =>
   ldK 270102 T18 ro x98_52 fun x99_53 =>
   .ok (.val (.tup [x95_50, x99_53, (.lit (.nilIface))])) T18 n18
  )
 )
noncomputable def g27 (ro : List HT) (a0 a1 : AV) (T : HT) (nx : Nat) : R :=
 callK (g12 ro a0 T nx) fun x13_1 T1 n1 =>
 bin0 Tryz.prog .neq 25 (.tmp 14) (.const (.nilIface)) 270008 x13_1 (.lit (.nilIface)) fun x15_2 =>
 condK 270009 x15_2
 (
  .bad 270010
 )
 (
  lenSK 270012 a0 fun x18_3 =>
  subK Tryz.prog 3 (.tmp 18) (.const (.int .i64 (.ofNat 1))) 270013 x18_3 (.lit (.int .i64 (.ofNat 1))) fun x19_4 =>
  optK 270017 (bld114 [(0, a0), (2, a1), (5, (.lit (.int .i64 (.negSucc 0))))]) fun x22_5 =>
  boxK 270018 T1 n1 x22_5 114 fun x23_6 T2 n2 =>
  callK (g56 ro x23_6 x19_4 T2 n2) fun x27_7 T3 n3 =>
  faK 270024 x23_6 1 fun x29_8 =>
  stK 270025 T3 x29_8 x27_7 fun T4 =>
  fldK 270029 T4 ro x23_6 1 fun x35_9 =>
  callK (g57 ro x35_9 T4 n3) fun x36_10 T5 n5 =>
  optK 270031 (bld56 [(0, x19_4), (3, x36_10)]) fun x37_11 =>
  bsK 270032 T5 n5 1 56 4 [(0, x37_11)] fun x38_12 T6 n6 =>
  faK 270033 x23_6 4 fun x40_13 =>
  stK 270034 T6 x40_13 x38_12 fun T7 =>
  lenSK 270036 a0 fun x42_14 =>
  lpf9 270038 (g27_b1 ro) 100000 a0 (.lit (.slice none 0 0)) (.lit (.slice none 0 0)) (.lit (.nilIface)) x19_4 x23_6 a0 x42_14 (.lit (.int .i64 (.ofNat 0))) T7 n6
 )
theorem g27_ok (ro : List HT) (a0 a1 : AV) (T : HT) (nx : Nat) : GOk Tryz.prog envE 27 [a0, a1] ro T nx (g27 ro a0 a1 T nx) := by
 refine GOk.of_body Tryz.func27 rfl Tryz.ntmps27 (by kernel_rfl) rfl fun r T' n' h1 w0 base ρ0 its hS hP => ?_
 have X : CtxW envE ρ0 ro r T' n' := trivial
 unfold g27 at h1
 refine sr ?_
 refine as_ ?_
 refine as_ ?_
 refine as_ ?_
 refine dn ?_
 refine CV.seq ?_
 refine sr ?_
 refine mv ?_
 refine LV.call hS h1 (g12_ok _ _ _ _ ) hP rfl rfl rfl rfl fun x13_1 T1 n1 h2 ρ its hS => ?_
 refine as_ ?_
 refine dn ?_
 refine sr ?_
 refine mv ?_
 refine vy (V.bin0 h2 rfl rfl) fun x15_2 h3 => ?_
 refine dn ?_
 refine CV.cond h3 rfl (fun e h4 => ?_) (fun e h4 => ?_)
 ·
  clear h1 h2 h3
  subst e
  cases h4
 ·
  clear h1 h2 h3
  subst e
  refine CV.skip ?_
  refine PV.thenN ?_
  refine sr ?_
  refine mv ?_
  refine vy (V.lenS h4 rfl Rcf.ls23) fun x18_3 h5 => ?_
  refine vy (V.sub h5 rfl rfl) fun x19_4 h6 => ?_
  refine as_ ?_
  refine dn ?_
  refine sr ?_
  refine mv ?_
  refine mv ?_
  refine vy (V.bld h6 rfl) fun x22_5 h7 => ?_
  refine LV.box hS h7 rfl rfl rfl rfl rfl fun x23_6 T2 n2 h8 ρ its hS hdr => ?_
  refine as_ ?_
  refine dn ?_
  refine sr ?_
  refine mv ?_
  refine mv ?_
  refine mv ?_
  refine LV.call hS h8 (g56_ok _ _ _ _ _ ) hP rfl rfl rfl rfl fun x27_7 T3 n3 h9 ρ its hS => ?_
  refine fa2 h9 Rcf.fo114_1 fun x29_8 h10 => ?_
  refine LV.st hS h10 rfl rfl rfl Rcf.siz46 rfl rfl fun T4 its h11 hS => ?_
  refine dn ?_
  refine sr ?_
  refine mv ?_
  refine mv ?_
  refine mv ?_
  refine fl hS h11 Rcf.fo114_1 Rcf.one46 fun x35_9 h12 => ?_
  refine LV.call hS h12 (g57_ok _ _ _ _ ) hP rfl rfl rfl rfl fun x36_10 T5 n5 h13 ρ its hS => ?_
  refine vy (V.bld h13 rfl) fun x37_11 h14 => ?_
  refine LV.bslice hS h14 rfl rfl Rcf.el51 rfl rfl rfl rfl fun x38_12 T6 n6 h15 ρ its hS hdr => ?_
  refine fa2 h15 Rcf.fo114_4 fun x40_13 h16 => ?_
  refine LV.st hS h16 rfl rfl rfl Rcf.siz51 rfl rfl fun T7 its h17 hS => ?_
  refine dn ?_
  refine CV.seq ?_
  refine sr ?_
  refine mv ?_
  refine vy (V.lenS h17 rfl Rcf.ls23) fun x42_14 h18 => ?_
  refine mv ?_
  refine dn ?_
  refine CV.block ?_
  refine cl9 X 0 4 5 6 8 9 41 42 43 [] hS h18 ⟨rfl, rfl, rfl, rfl, rfl, rfl, rfl, rfl, rfl, trivial⟩ ?_
  intro f1 y0 y4 y5 y6 y8 y9 y41 y42 y43 T8 n8 ρ its hS h19
  unfold g27_b1 at h19
  clear h4 h5 h6 h7 h8 h9 h10 h11 h12 h13 h14 h15 h16 h17 h18
  refine sr ?_
  refine vy (V.lt h19 rfl rfl) fun x44_15 h20 => ?_
  refine dn ?_
  refine CV.seq ?_
  refine CV.cond h20 rfl (fun e h21 => ?_) (fun e h21 => ?_)
  ·
   clear h19 h20
   subst e
   refine CV.skip ?_
   refine PV.thenN ?_
   refine cs9 X 0 4 5 6 8 9 41 42 43 [] (g27_k2 ro (lpf9 270038 (g27_b1 ro) f1)) ?_ ?_
   ·
    refine CV.block ?_
    refine sr ?_
    refine mv ?_
    refine vy (V.ia h21 rfl rfl Rcf.el23) fun x46_17 h24 => ?_
    refine vy (V.ldA hS h24 rfl Rcf.agg32) fun x47_18 h25 => ?_
    refine LV.alloc hS h25 rfl Rcf.zr32 rfl rfl rfl fun x11_19 T10 n10 h26 ρ its hS hdr => ?_
    refine as_ ?_
    refine LV.stA hS h26 rfl rfl rfl Rcf.agg32 rfl rfl rfl fun T11 its h27 hS => ?_
    refine dn ?_
    refine sr ?_
    refine vy (V.fa h27 rfl Rcf.fo32_0) fun x48_20 h28 => ?_
    refine vy (V.ld hS h28 rfl Rcf.one3) fun x49_21 h29 => ?_
    refine vy (V.eq h29 rfl rfl) fun x50_22 h30 => ?_
    refine dn ?_
    refine CV.cond h30 rfl (fun e h31 => ?_) (fun e h31 => ?_)
    ·
     clear h21 h24 h25 h26 h27 h28 h29 h30
     subst e
     refine CV.regionM [(0, .anywhere), (1, .anywhere), (2, .anywhere), (3, .anywhere), (4, .held), (5, .anywhere), (6, .anywhere), (7, .held), (8, .held), (9, .held), (10, .held), (11, .alone), (12, .alone), (13, .alone), (14, .alone), (15, .alone)] rfl (fun c a a' w hd hq => PanicOk.root (P := Tryz.prog) (fn := Tryz.f27) (w0 := w0) (base := base) (E := envE) (ro := ro) (r := r) (T' := T') (n' := n') (ρ0 := ρ0) c a a' w hd hq) (by kernel_rfl) ?_
     refine MV.step0 (i := 0) rfl (VAL.move rfl) rfl rfl rfl ?_
     refine MV.step0 (i := 1) rfl (VAL.move rfl) rfl rfl rfl ?_
     refine MV.lift0 (i := 2) rfl (V.nc h31 rfl) rfl rfl rfl fun x53_23 h32 => ?_
     refine MV.lift0 (i := 3) rfl (V.fa h32 rfl Rcf.fo114_4) rfl rfl rfl fun x54_24 h33 => ?_
     refine MV.lift1 (i := 4) rfl (fun _ z => z) (V.ld hS h33 rfl Rcf.one51) rfl rfl rfl [] (by kernel_rfl) fun x55_25 h34 => ?_
     refine MV.step0 (i := 5) rfl (VAL.move rfl) rfl rfl rfl ?_
     refine MV.lift0 (i := 6) rfl (V.fa h34 rfl Rcf.fo32_4) rfl rfl rfl fun x57_26 h35 => ?_
     refine MV.lift1 (i := 7) rfl (fun _ z => z) (V.ld hS h35 rfl Rcf.one30) rfl rfl rfl [4] (by kernel_rfl) fun x58_27 h36 => ?_
     refine MV.lift1 (i := 8) rfl (fun _ z => z) (V.lenS h36 rfl Rcf.ls30) rfl rfl rfl [4] (by kernel_rfl) fun x59_28 h37 => ?_
     refine MV.lift1 (i := 9) rfl (fun _ z => z) (V.sub h37 rfl rfl) rfl rfl rfl [4] (by kernel_rfl) fun x60_29 h38 => ?_
     refine MV.lift1 (i := 10) rfl (fun _ z => z) (V.bld h38 rfl) rfl rfl rfl [4] (by kernel_rfl) fun x61_30 h39 => ?_
     refine MV.force (i := 11) rfl ?_
     refine LV.bslice hS h39 rfl rfl Rcf.el51 rfl rfl rfl rfl fun x62_31 T12 n12 h40 ρ its hS hdr => ?_
     refine LV.nextM [4] (by kernel_rfl) (fun _ => hdr) ?_
     refine MV.force (i := 12) rfl ?_
     obtain ⟨T13, its1, h41, hS, hW⟩ := shrK_inv hS h40
     refine LV.world hW ?_
     refine LV.app hS h41 rfl rfl rfl rfl Rcf.el51 rfl rfl rfl fun x63_32 T14 n14 h42 ρ its hS => ?_
     refine LV.nextM [] (by kernel_rfl) (fun z => absurd rfl z) ?_
     refine MV.force (i := 13) rfl ?_
     refine vy (V.nc h42 rfl) fun x64_33 h43 => ?_
     refine LV.nextM [] (by kernel_rfl) (fun z => absurd rfl z) ?_
     refine MV.force (i := 14) rfl ?_
     refine vy (V.fa h43 rfl Rcf.fo114_4) fun x65_34 h44 => ?_
     refine LV.nextM [] (by kernel_rfl) (fun z => absurd rfl z) ?_
     refine MV.force (i := 15) rfl ?_
     refine LV.st hS h44 rfl rfl rfl Rcf.siz51 rfl rfl fun T15 its h45 hS => ?_
     refine LV.nextM [] (by kernel_rfl) (fun z => absurd rfl z) ?_
     refine MV.done ?_
     refine PV.blockN ?_
     exact pa9 hS h45 ⟨rfl, rfl, rfl, rfl, rfl, rfl, rfl, rfl, rfl, trivial⟩
    ·
     clear h21 h24 h25 h26 h27 h28 h29 h30
     subst e
     refine CV.skip ?_
     refine PV.blockN ?_
     exact pa9 hS h31 ⟨rfl, rfl, rfl, rfl, rfl, rfl, rfl, rfl, rfl, trivial⟩
   ·
    intro y0 y4 y5 y6 y8 y9 y41 y42 y43 T9 n9 ρ its hS h22
    unfold g27_k2 at h22
    clear h21
    refine CV.region ?_
    refine vy (V.add h22 rfl rfl) fun x66_16 h23 => ?_
    refine mv ?_
    refine LV.done ?_
    exact pb9 hS h23 ⟨rfl, rfl, rfl, rfl, rfl, rfl, rfl, rfl, rfl, trivial⟩
  ·
   clear h19 h20
   subst e
   refine CV.exit ?_
   refine PV.thenE ?_
   refine PV.thenE ?_
   refine PV.blockE ?_
   refine PV.thenN ?_
   refine sr ?_
   refine mv ?_
   refine mv ?_
   refine LV.call hS h21 (scc7_ok _ _ _ _ _ _) hP rfl rfl rfl rfl fun x69_35 T16 n16 h46 ρ its hS => ?_
   refine dn ?_
   refine CV.seq ?_
   refine sr ?_
   refine mv ?_
   refine fl hS h46 Rcf.fo114_5 Rcf.one3 fun x73_36 h47 => ?_
   refine vy (V.ge h47 rfl rfl) fun x74_37 h48 => ?_
   refine dn ?_
   refine CV.cond h48 rfl (fun e h49 => ?_) (fun e h49 => ?_)
   ·
    clear h21 h46 h47 h48
    subst e
    refine CV.seq ?_
    refine CV.regionM [(0, .anywhere), (1, .anywhere), (2, .anywhere), (3, .anywhere), (4, .held), (5, .held), (6, .held), (7, .held), (8, .held), (9, .held), (12, .anywhere), (13, .anywhere), (10, .alone), (11, .alone), (14, .alone)] rfl (fun c a a' w hd hq => PanicOk.root (P := Tryz.prog) (fn := Tryz.f27) (w0 := w0) (base := base) (E := envE) (ro := ro) (r := r) (T' := T') (n' := n') (ρ0 := ρ0) c a a' w hd hq) (by kernel_rfl) ?_
    refine MV.step0 (i := 0) rfl (VAL.move rfl) rfl rfl rfl ?_
    refine MV.step0 (i := 1) rfl (VAL.move rfl) rfl rfl rfl ?_
    refine MV.lift0 (i := 2) rfl (V.nc h49 rfl) rfl rfl rfl fun x77_38 h50 => ?_
    refine MV.lift0 (i := 3) rfl (V.fa h50 rfl Rcf.fo114_5) rfl rfl rfl fun x78_39 h51 => ?_
    refine MV.lift1 (i := 4) rfl (fun _ z => z) (V.ld hS h51 rfl Rcf.one3) rfl rfl rfl [] (by kernel_rfl) fun x79_40 h52 => ?_
    refine MV.lift1 (i := 5) rfl (fun _ z => z) (V.ia h52 rfl rfl Rcf.el23) rfl rfl rfl [] (by kernel_rfl) fun x80_41 h53 => ?_
    refine MV.lift1 (i := 6) rfl (fun _ z => z) (V.fa h53 rfl Rcf.fo32_2) rfl rfl rfl [] (by kernel_rfl) fun x81_42 h54 => ?_
    refine MV.lift1 (i := 7) rfl (fun _ z => z) (V.ld hS h54 rfl Rcf.one3) rfl rfl rfl [] (by kernel_rfl) fun x82_43 h55 => ?_
    refine MV.step1 (i := 8) rfl (fun _ z => z) (VAL.ldG hS (by rfl) Rcf.one25) rfl rfl rfl [7] (by kernel_rfl) ?_
    refine MV.lift1 (i := 9) rfl (fun _ z => z) (V.bld h55 rfl) rfl rfl rfl [] (by kernel_rfl) fun x84_44 h56 => ?_
    refine MV.step0 (i := 12) rfl (VAL.assign rfl) rfl rfl rfl ?_
    refine MV.step0 (i := 13) rfl (VAL.assign rfl) rfl rfl rfl ?_
    refine MV.force (i := 10) rfl ?_
    refine LV.box hS h56 rfl rfl rfl rfl rfl fun x85_45 T17 n17 h57 ρ its hS hdr => ?_
    refine LV.nextM [] (by kernel_rfl) (fun z => absurd rfl z) ?_
    refine MV.force (i := 11) rfl ?_
    refine sv (VAL.mkI rfl Rcf.ni72) ?_
    refine LV.nextM [] (by kernel_rfl) (fun z => absurd rfl z) ?_
    refine MV.force (i := 14) rfl ?_
    refine as_ ?_
    refine LV.nextM [] (by kernel_rfl) (fun z => absurd rfl z) ?_
    refine mdn ?_
    refine CV.ret ?_
    refine PV.thenR ?_
    cases h57
    exact PV.ret (by simp) Tryz.results27 hS (RS.tmp rfl (RS.tmp rfl (RS.tmp rfl RS.nil))) rfl
   ·
    clear h21 h46 h47 h48
    subst e
    refine CV.skip ?_
    refine PV.thenN ?_
    refine sr ?_
    refine mv ?_
    refine fl hS h49 Rcf.fo114_3 Rcf.one50 fun x90_46 h58 => ?_
    refine LV.call hS h58 (g59_ok _ _ _ _ _ ) hP rfl rfl rfl rfl fun x91_47 T18 n18 h59 ρ its hS => ?_
    refine dn ?_
    refine CV.seq ?_
    refine CV.regionM [(0, .anywhere), (1, .anywhere), (2, .anywhere), (3, .held), (4, .anywhere), (5, .anywhere), (6, .anywhere), (7, .held), (8, .held), (9, .held), (10, .held)] rfl (fun c a a' w hd hq => PanicOk.root (P := Tryz.prog) (fn := Tryz.f27) (w0 := w0) (base := base) (E := envE) (ro := ro) (r := r) (T' := T') (n' := n') (ρ0 := ρ0) c a a' w hd hq) (by kernel_rfl) ?_
    refine MV.step0 (i := 0) rfl (VAL.move rfl) rfl rfl rfl ?_
    refine MV.lift0 (i := 1) rfl (V.nc h59 rfl) rfl rfl rfl fun x93_48 h60 => ?_
    refine MV.lift0 (i := 2) rfl (V.fa h60 rfl Rcf.fo114_3) rfl rfl rfl fun x94_49 h61 => ?_
    refine MV.lift1 (i := 3) rfl (fun _ z => z) (V.ld hS h61 rfl Rcf.one50) rfl rfl rfl [] (by kernel_rfl) fun x95_50 h62 => ?_
    refine MV.step0 (i := 4) rfl (VAL.move rfl) rfl rfl rfl ?_
    refine MV.lift0 (i := 5) rfl (V.nc h62 rfl) rfl rfl rfl fun x97_51 h63 => ?_
    refine MV.lift0 (i := 6) rfl (V.fa h63 rfl Rcf.fo114_4) rfl rfl rfl fun x98_52 h64 => ?_
    refine MV.lift1 (i := 7) rfl (fun _ z => z) (V.ld hS h64 rfl Rcf.one51) rfl rfl rfl [3] (by kernel_rfl) fun x99_53 h65 => ?_
    refine MV.step1 (i := 8) rfl (fun _ z => z) (VAL.assign rfl) rfl rfl rfl [7] (by kernel_rfl) ?_
    refine MV.step1 (i := 9) rfl (fun _ z => z) (VAL.assign rfl) rfl rfl rfl [] (by kernel_rfl) ?_
    refine MV.step1 (i := 10) rfl (fun _ z => z) (VAL.assign rfl) rfl rfl rfl [] (by kernel_rfl) ?_
    refine mdn ?_
    refine CV.ret ?_
    cases h65
    exact PV.ret (by simp) Tryz.results27 hS (RS.tmp rfl (RS.tmp rfl (RS.tmp rfl RS.nil))) rfl
noncomputable def g24_k5 (ro : List HT) (lp4 : AV → AV → AV → AV → AV → HT → Nat → R) (y0 y3 y11 y12 y13 : AV) (T9 : HT) (n9 : Nat) : R :=
 addK Tryz.prog 3 (.tmp 54) (.const (.int .i64 (.ofNat 1))) 240049 y13 (.lit (.int .i64 (.ofNat 1))) fun x55_18 =>
 lp4 y0 y3 y11 y12 x55_18 T9 n9
noncomputable def g24_k7 (ro : List HT) (lp4 : AV → AV → AV → AV → AV → HT → Nat → R) (y0 y3 y11 y12 y13 y85 : AV) (T11 : HT) (n11 : Nat) : R :=
 condK 240058 y85
 (
  addK Tryz.prog 3 (.tmp 86) (.const (.int .i64 (.ofNat 1))) 240060 y12 (.lit (.int .i64 (.ofNat 1))) fun x87_23 =>
  g24_k5 ro lp4 y0 y3 y11 x87_23 y13 T11 n11
 )
 (
  g24_k5 ro lp4 y0 y3 y11 y12 y13 T11 n11
 )
noncomputable def g24_k6 (ro : List HT) (lp4 : AV → AV → AV → AV → AV → HT → Nat → R) (y0 y3 y11 y12 y13 : AV) (T10 : HT) (n10 : Nat) : R :=
 iaK 240053 y3 y13 3 fun x74_19 =>
 faK 240054 x74_19 1 fun x75_20 =>
 ldK 240055 T10 ro x75_20 fun x76_21 =>
 eqK Tryz.prog 3 (.tmp 76) (.const (.int .i64 (.ofNat 2))) 240056 x76_21 (.lit (.int .i64 (.ofNat 2))) fun x77_22 =>
 condK 240062 x77_22
 (
  iaK 240065 y3 y13 3 fun x81_24 =>
  faK 240066 x81_24 2 fun x82_25 =>
  ldK 240067 T10 ro x82_25 fun x83_26 =>
  eqK Tryz.prog 3 (.tmp 83) (.const (.int .i64 (.ofNat 0))) 240068 x83_26 (.lit (.int .i64 (.ofNat 0))) fun x84_27 =>
  g24_k7 ro lp4 y0 y3 y11 y12 y13 x84_27 T10 n10
 )
 (
  g24_k7 ro lp4 y0 y3 y11 y12 y13 (.lit (.bool false)) T10 n10
 )
noncomputable def g24_k8 (ro : List HT) (lp4 : AV → AV → AV → AV → AV → HT → Nat → R) (y0 y3 y11 y12 y13 y69 : AV) (T12 : HT) (n12 : Nat) : R :=
 condK 240078 y69
 (
  addK Tryz.prog 3 (.tmp 70) (.const (.int .i64 (.ofNat 1))) 240080 y11 (.lit (.int .i64 (.ofNat 1))) fun x71_32 =>
  g24_k6 ro lp4 y0 y3 x71_32 y12 y13 T12 n12
 )
 (
  g24_k6 ro lp4 y0 y3 y11 y12 y13 T12 n12
 )
noncomputable def g24_k9 (ro : List HT) (y0 y93 : AV) (T13 : HT) (n13 : Nat) : R :=
 .ok (.val y93) T13 n13
noncomputable def g24_b4 (ro : List HT) (lp4 : AV → AV → AV → AV → AV → HT → Nat → R) (y0 y3 y11 y12 y13 : AV) (T8 : HT) (n8 : Nat) : R :=
 lenSK 240045 y3 fun x52_16 =>
 ltK Tryz.prog 3 (.tmp 50) (.tmp 52) 240046 y13 x52_16 fun x53_17 =>
 condK 240047 x53_17
 (
  iaK 240073 y3 y13 3 fun x58_28 =>
  faK 240074 x58_28 1 fun x59_29 =>
  ldK 240075 T8 ro x59_29 fun x60_30 =>
  eqK Tryz.prog 3 (.tmp 60) (.const (.int .i64 (.ofNat 1))) 240076 x60_30 (.lit (.int .i64 (.ofNat 1))) fun x61_31 =>
  condK 240082 x61_31
  (
   iaK 240085 y3 y13 3 fun x65_33 =>
   faK 240086 x65_33 2 fun x66_34 =>
   ldK 240087 T8 ro x66_34 fun x67_35 =>
   eqK Tryz.prog 3 (.tmp 67) (.const (.int .i64 (.ofNat 0))) 240088 x67_35 (.lit (.int .i64 (.ofNat 0))) fun x68_36 =>
   g24_k8 ro lp4 y0 y3 y11 y12 y13 x68_36 T8 n8
  )
  (
   g24_k8 ro lp4 y0 y3 y11 y12 y13 (.lit (.bool false)) T8 n8
  )
 )
 (
  eqK Tryz.prog 3 (.tmp 88) (.const (.int .i64 (.ofNat 1))) 240092 y11 (.lit (.int .i64 (.ofNat 1))) fun x89_37 =>
  condK 240095 x89_37
  (
   eqK Tryz.prog 3 (.tmp 91) (.const (.int .i64 (.ofNat 2))) 240097 y12 (.lit (.int .i64 (.ofNat 2))) fun x92_38 =>
   g24_k9 ro y0 x92_38 T8 n8
  )
  (
   g24_k9 ro y0 (.lit (.bool false)) T8 n8
  )
 )
noncomputable def g24_k3 (ro : List HT) (y3 y49 : AV) (T7 : HT) (n7 : Nat) : R :=
 condK 240037 y49
 (
  .bad 240038
 )
 (
  lpf5 240042 (g24_b4 ro) 100000 (.lit (.bool false)) y3 (.lit (.int .i64 (.ofNat 0))) (.lit (.int .i64 (.ofNat 0))) (.lit (.int .i64 (.ofNat 0))) T7 n7
 )
noncomputable def g24_k2 (ro : List HT) (y3 y10 y43 : AV) (T6 : HT) (n6 : Nat) : R :=
 condK 240100 y43
 (
  g24_k3 ro y3 (.lit (.bool true)) T6 n6
 )
 (
  callK (g17 ro (.lit (.int .i64 (.ofNat 103))) (.lit (.int .i64 (.ofNat 0))) T6 n6) fun x46_39 T14 n14 =>
  callK (g16 ro y10 x46_39 T14 n14) fun x47_40 T15 n15 =>
  notK 240105 x47_40 fun x48_41 =>
  g24_k3 ro y3 x48_41 T15 n15
 )
noncomputable def g24_k1 (ro : List HT) (y3 y7 y10 y39 : AV) (T5 : HT) (n5 : Nat) : R :=
 condK 240107 y39
 (
  g24_k2 ro y3 y10 (.lit (.bool true)) T5 n5
 )
 (
  bin0 Tryz.prog .neq 25 (.tmp 41) (.const (.nilIface)) 240110 y7 (.lit (.nilIface)) fun x42_42 =>
  g24_k2 ro y3 y10 x42_42 T5 n5
 )
noncomputable def g24 (ro : List HT) (T : HT) (nx : Nat) : R :=
 callK (g11 ro (.lit (.string ⟨⟨[120, 32, 61, 32, 49, 10, 100, 101, 102, 32, 102, 40, 97, 41, 58, 32, 114, 101, 116, 117, 114, 110, 32, 97, 32, 43, 32, 120, 10]⟩⟩)) T nx) fun x15_1 T1 n1 =>
 exK 240004 x15_1 0 fun x16_2 =>
 exK 240005 x15_1 1 fun x17_3 =>
 callK (g27 ro x16_2 (.lit (.slice none 0 0)) T1 n1) fun x20_4 T2 n2 =>
 exK 240011 x20_4 0 fun x21_5 =>
 exK 240012 x20_4 1 fun x22_6 =>
 exK 240013 x20_4 2 fun x23_7 =>
 callK (g11 ro (.lit (.string ⟨⟨[121]⟩⟩)) T2 n2) fun x25_8 T3 n3 =>
 exK 240019 x25_8 0 fun x26_9 =>
 exK 240020 x25_8 1 fun x27_10 =>
 callK (g27 ro x26_9 (.lit (.slice none 0 0)) T3 n3) fun x30_11 T4 n4 =>
 exK 240026 x30_11 0 fun x31_12 =>
 exK 240027 x30_11 1 fun x32_13 =>
 exK 240028 x30_11 2 fun x33_14 =>
 bin0 Tryz.prog .neq 25 (.tmp 34) (.const (.nilIface)) 240033 x17_3 (.lit (.nilIface)) fun x35_15 =>
 condK 240112 x35_15
 (
  g24_k1 ro x21_5 x27_10 x33_14 (.lit (.bool true)) T4 n4
 )
 (
  bin0 Tryz.prog .neq 25 (.tmp 37) (.const (.nilIface)) 240115 x23_7 (.lit (.nilIface)) fun x38_43 =>
  g24_k1 ro x21_5 x27_10 x33_14 x38_43 T4 n4
 )
theorem g24_ok (ro : List HT) (T : HT) (nx : Nat) : GOk Tryz.prog envE 24 [] ro T nx (g24 ro T nx) := by
 refine GOk.of_body Tryz.func24 rfl Tryz.ntmps24 (by kernel_rfl) rfl fun r T' n' h1 w0 base ρ0 its hS hP => ?_
 have X : CtxW envE ρ0 ro r T' n' := trivial
 unfold g24 at h1
 refine sr ?_
 refine as_ ?_
 refine dn ?_
 refine sr ?_
 refine LV.call hS h1 (g11_ok _ _ _ _ ) hP rfl rfl rfl rfl fun x15_1 T1 n1 h2 ρ its hS => ?_
 refine mv ?_
 refine vy (V.ex h2 rfl) fun x16_2 h3 => ?_
 refine vy (V.ex h3 rfl) fun x17_3 h4 => ?_
 refine as_ ?_
 refine as_ ?_
 refine dn ?_
 refine sr ?_
 refine mv ?_
 refine LV.call hS h4 (g27_ok _ _ _ _ _ ) hP rfl rfl rfl rfl fun x20_4 T2 n2 h5 ρ its hS => ?_
 refine mv ?_
 refine vy (V.ex h5 rfl) fun x21_5 h6 => ?_
 refine vy (V.ex h6 rfl) fun x22_6 h7 => ?_
 refine vy (V.ex h7 rfl) fun x23_7 h8 => ?_
 refine as_ ?_
 refine as_ ?_
 refine as_ ?_
 refine dn ?_
 refine sr ?_
 refine LV.call hS h8 (g11_ok _ _ _ _ ) hP rfl rfl rfl rfl fun x25_8 T3 n3 h9 ρ its hS => ?_
 refine mv ?_
 refine vy (V.ex h9 rfl) fun x26_9 h10 => ?_
 refine vy (V.ex h10 rfl) fun x27_10 h11 => ?_
 refine as_ ?_
 refine as_ ?_
 refine dn ?_
 refine sr ?_
 refine mv ?_
 refine LV.call hS h11 (g27_ok _ _ _ _ _ ) hP rfl rfl rfl rfl fun x30_11 T4 n4 h12 ρ its hS => ?_
 refine mv ?_
 refine vy (V.ex h12 rfl) fun x31_12 h13 => ?_
 refine vy (V.ex h13 rfl) fun x32_13 h14 => ?_
 refine vy (V.ex h14 rfl) fun x33_14 h15 => ?_
 refine as_ ?_
 refine as_ ?_
 refine as_ ?_
 refine dn ?_
 refine CV.seq ?_
 refine sr ?_
 refine mv ?_
 refine vy (V.bin0 h15 rfl rfl) fun x35_15 h16 => ?_
 refine mv ?_
 refine ls4 X 3 7 10 39 [(0, (.lit (.bool false)))] (g24_k1 ro) 3 ?_ ?_
 ·
  rcases condK_inv h16 with ⟨e, h62⟩ | ⟨e, h62⟩
  ·
   clear h1 h2 h3 h4 h5 h6 h7 h8 h9 h10 h11 h12 h13 h14 h15 h16
   subst e
   refine sk ?_
   refine sk ?_
   refine pu ?_
   exact la4 hS h62 ⟨rfl, rfl, rfl, rfl, rfl, trivial⟩
  ·
   clear h1 h2 h3 h4 h5 h6 h7 h8 h9 h10 h11 h12 h13 h14 h15 h16
   subst e
   refine mv ?_
   refine vy (V.bin0 h62 rfl rfl) fun x38_43 h63 => ?_
   refine pu ?_
   exact la4 hS h63 ⟨rfl, rfl, rfl, rfl, rfl, trivial⟩
 ·
  intro y3 y7 y10 y39 T5 n5 ρ its hS h17
  unfold g24_k1 at h17
  clear h1 h2 h3 h4 h5 h6 h7 h8 h9 h10 h11 h12 h13 h14 h15 h16
  refine mv ?_
  refine ls3 X 3 10 43 [(0, (.lit (.bool false)))] (g24_k2 ro) 3 ?_ ?_
  ·
   rcases condK_inv h17 with ⟨e, h60⟩ | ⟨e, h60⟩
   ·
    clear h17
    subst e
    refine sk ?_
    refine sk ?_
    refine pu ?_
    exact la3 hS h60 ⟨rfl, rfl, rfl, rfl, trivial⟩
   ·
    clear h17
    subst e
    refine mv ?_
    refine vy (V.bin0 h60 rfl rfl) fun x42_42 h61 => ?_
    refine pu ?_
    exact la3 hS h61 ⟨rfl, rfl, rfl, rfl, trivial⟩
  ·
   intro y3 y10 y43 T6 n6 ρ its hS h18
   unfold g24_k2 at h18
   clear h17
   refine mv ?_
   refine ls2 X 3 49 [(0, (.lit (.bool false)))] (g24_k3 ro) 5 ?_ ?_
   ·
    rcases condK_inv h18 with ⟨e, h56⟩ | ⟨e, h56⟩
    ·
     clear h18
     subst e
     refine sk ?_
     refine sk ?_
     refine sk ?_
     refine sk ?_
     refine pu ?_
     exact la2 hS h56 ⟨rfl, rfl, rfl, trivial⟩
    ·
     clear h18
     subst e
     refine mv ?_
     refine LV.call hS h56 (g17_ok _ _ _ _ _ ) hP rfl rfl rfl rfl fun x46_39 T14 n14 h57 ρ its hS => ?_
     refine LV.call hS h57 (g16_ok _ _ _ _ _ ) hP rfl rfl rfl rfl fun x47_40 T15 n15 h58 ρ its hS => ?_
     refine vy (V.not h58 rfl) fun x48_41 h59 => ?_
     refine pu ?_
     exact la2 hS h59 ⟨rfl, rfl, rfl, trivial⟩
   ·
    intro y3 y49 T7 n7 ρ its hS h19
    unfold g24_k3 at h19
    clear h18
    refine dn ?_
    refine CV.cond h19 rfl (fun e h20 => ?_) (fun e h20 => ?_)
    ·
     clear h19
     subst e
     cases h20
    ·
     clear h19
     subst e
     refine CV.skip ?_
     refine PV.thenN ?_
     refine sr ?_
     refine as_ ?_
     refine dn ?_
     refine sr ?_
     refine as_ ?_
     refine dn ?_
     refine CV.seq ?_
     refine sr ?_
     refine as_ ?_
     refine dn ?_
     refine CV.block ?_
     refine cl5 X 0 3 11 12 13 [] hS h20 ⟨rfl, rfl, rfl, rfl, rfl, trivial⟩ ?_
     intro f4 y0 y3 y11 y12 y13 T8 n8 ρ its hS h21
     unfold g24_b4 at h21
     clear h20
     refine CV.seq ?_
     refine sr ?_
     refine mv ?_
     refine mv ?_
     refine vy (V.lenS h21 rfl Rcf.ls50) fun x52_16 h22 => ?_
     refine vy (V.lt h22 rfl rfl) fun x53_17 h23 => ?_
     refine dn ?_
     refine CV.cond h23 rfl (fun e h24 => ?_) (fun e h24 => ?_)
     ·
      clear h21 h22 h23
      subst e
      refine CV.skip ?_
      refine PV.thenN ?_
      refine cs5 X 0 3 11 12 13 [] (g24_k5 ro (lpf5 240042 (g24_b4 ro) f4)) ?_ ?_
      ·
       refine CV.block ?_
       refine cs5 X 0 3 11 12 13 [] (g24_k6 ro (lpf5 240042 (g24_b4 ro) f4)) ?_ ?_
       ·
        refine sr ?_
        refine mv ?_
        refine mv ?_
        refine vy (V.ia h24 rfl rfl Rcf.el50) fun x58_28 h40 => ?_
        refine vy (V.fa h40 rfl Rcf.fo58_1) fun x59_29 h41 => ?_
        refine vy (V.ld hS h41 rfl Rcf.one3) fun x60_30 h42 => ?_
        refine vy (V.eq h42 rfl rfl) fun x61_31 h43 => ?_
        refine mv ?_
        refine ls6 X 0 3 11 12 13 69 [] (g24_k8 ro (lpf5 240042 (g24_b4 ro) f4)) 7 ?_ ?_
        ·
         rcases condK_inv h43 with ⟨e, h47⟩ | ⟨e, h47⟩
         ·
          clear h24 h40 h41 h42 h43
          subst e
          refine mv ?_
          refine mv ?_
          refine vy (V.ia h47 rfl rfl Rcf.el50) fun x65_33 h48 => ?_
          refine vy (V.fa h48 rfl Rcf.fo58_2) fun x66_34 h49 => ?_
          refine vy (V.ld hS h49 rfl Rcf.one3) fun x67_35 h50 => ?_
          refine vy (V.eq h50 rfl rfl) fun x68_36 h51 => ?_
          refine pu ?_
          exact la6 hS h51 ⟨rfl, rfl, rfl, rfl, rfl, rfl, trivial⟩
         ·
          clear h24 h40 h41 h42 h43
          subst e
          refine sk ?_
          refine sk ?_
          refine sk ?_
          refine sk ?_
          refine sk ?_
          refine sk ?_
          refine pu ?_
          exact la6 hS h47 ⟨rfl, rfl, rfl, rfl, rfl, rfl, trivial⟩
        ·
         intro y0 y3 y11 y12 y13 y69 T12 n12 ρ its hS h44
         unfold g24_k8 at h44
         clear h24 h40 h41 h42 h43
         refine dn ?_
         refine CV.cond h44 rfl (fun e h45 => ?_) (fun e h45 => ?_)
         ·
          clear h44
          subst e
          refine CV.region ?_
          refine mv ?_
          refine vy (V.add h45 rfl rfl) fun x71_32 h46 => ?_
          refine as_ ?_
          refine LV.done ?_
          exact pa5 hS h46 ⟨rfl, rfl, rfl, rfl, rfl, trivial⟩
         ·
          clear h44
          subst e
          refine CV.skip ?_
          exact pa5 hS h45 ⟨rfl, rfl, rfl, rfl, rfl, trivial⟩
       ·
        intro y0 y3 y11 y12 y13 T10 n10 ρ its hS h27
        unfold g24_k6 at h27
        clear h24
        refine sr ?_
        refine mv ?_
        refine mv ?_
        refine vy (V.ia h27 rfl rfl Rcf.el50) fun x74_19 h28 => ?_
        refine vy (V.fa h28 rfl Rcf.fo58_1) fun x75_20 h29 => ?_
        refine vy (V.ld hS h29 rfl Rcf.one3) fun x76_21 h30 => ?_
        refine vy (V.eq h30 rfl rfl) fun x77_22 h31 => ?_
        refine mv ?_
        refine ls6 X 0 3 11 12 13 85 [] (g24_k7 ro (lpf5 240042 (g24_b4 ro) f4)) 7 ?_ ?_
        ·
         rcases condK_inv h31 with ⟨e, h35⟩ | ⟨e, h35⟩
         ·
          clear h27 h28 h29 h30 h31
          subst e
          refine mv ?_
          refine mv ?_
          refine vy (V.ia h35 rfl rfl Rcf.el50) fun x81_24 h36 => ?_
          refine vy (V.fa h36 rfl Rcf.fo58_2) fun x82_25 h37 => ?_
          refine vy (V.ld hS h37 rfl Rcf.one3) fun x83_26 h38 => ?_
          refine vy (V.eq h38 rfl rfl) fun x84_27 h39 => ?_
          refine pu ?_
          exact la6 hS h39 ⟨rfl, rfl, rfl, rfl, rfl, rfl, trivial⟩
         ·
          clear h27 h28 h29 h30 h31
          subst e
          refine sk ?_
          refine sk ?_
          refine sk ?_
          refine sk ?_
          refine sk ?_
          refine sk ?_
          refine pu ?_
          exact la6 hS h35 ⟨rfl, rfl, rfl, rfl, rfl, rfl, trivial⟩
        ·
         intro y0 y3 y11 y12 y13 y85 T11 n11 ρ its hS h32
         unfold g24_k7 at h32
         clear h27 h28 h29 h30 h31
         refine dn ?_
         refine CV.cond h32 rfl (fun e h33 => ?_) (fun e h33 => ?_)
         ·
          clear h32
          subst e
          refine CV.region ?_
          refine mv ?_
          refine vy (V.add h33 rfl rfl) fun x87_23 h34 => ?_
          refine as_ ?_
          refine LV.done ?_
          refine PV.blockN ?_
          exact pa5 hS h34 ⟨rfl, rfl, rfl, rfl, rfl, trivial⟩
         ·
          clear h32
          subst e
          refine CV.skip ?_
          refine PV.blockN ?_
          exact pa5 hS h33 ⟨rfl, rfl, rfl, rfl, rfl, trivial⟩
      ·
       intro y0 y3 y11 y12 y13 T9 n9 ρ its hS h25
       unfold g24_k5 at h25
       clear h24
       refine CV.region ?_
       refine mv ?_
       refine vy (V.add h25 rfl rfl) fun x55_18 h26 => ?_
       refine as_ ?_
       refine LV.done ?_
       exact pb5 hS h26 ⟨rfl, rfl, rfl, rfl, rfl, trivial⟩
     ·
      clear h21 h22 h23
      subst e
      refine CV.exit ?_
      refine PV.thenE ?_
      refine PV.thenE ?_
      refine PV.blockE ?_
      refine PV.thenN ?_
      refine sr ?_
      refine mv ?_
      refine vy (V.eq h24 rfl rfl) fun x89_37 h52 => ?_
      refine mv ?_
      refine ls2 X 0 93 [] (g24_k9 ro) 3 ?_ ?_
      ·
       rcases condK_inv h52 with ⟨e, h54⟩ | ⟨e, h54⟩
       ·
        clear h24 h52
        subst e
        refine mv ?_
        refine vy (V.eq h54 rfl rfl) fun x92_38 h55 => ?_
        refine pu ?_
        exact la2 hS h55 ⟨rfl, rfl, trivial⟩
       ·
        clear h24 h52
        subst e
        refine sk ?_
        refine sk ?_
        refine pu ?_
        exact la2 hS h54 ⟨rfl, rfl, trivial⟩
      ·
       intro y0 y93 T13 n13 ρ its hS h53
       unfold g24_k9 at h53
       clear h24 h52
       refine as_ ?_
       refine dn ?_
       refine CV.ret ?_
       cases h53
       exact PV.ret (by simp) Tryz.results24 hS (RS.tmp rfl RS.nil) rfl
noncomputable def g26 (ro : List HT) (a0 a1 : AV) (T : HT) (nx : Nat) : R :=
 bin0 Tryz.prog .rem 3 (.tmp 5) (.tmp 6) 260004 a0 a1 fun x7_1 =>
 addK Tryz.prog 3 (.tmp 7) (.tmp 8) 260006 x7_1 a1 fun x9_2 =>
 bin0 Tryz.prog .rem 3 (.tmp 9) (.tmp 10) 260008 x9_2 a1 fun x11_3 =>
 .ok (.val x11_3) T nx
theorem g26_ok (ro : List HT) (a0 a1 : AV) (T : HT) (nx : Nat) : GOk Tryz.prog envE 26 [a0, a1] ro T nx (g26 ro a0 a1 T nx) := by
 refine GOk.of_body Tryz.func26 rfl Tryz.ntmps26 (by kernel_rfl) rfl fun r T' n' h1 w0 base ρ0 its hS hP => ?_
 have X : CtxW envE ρ0 ro r T' n' := trivial
 unfold g26 at h1
 refine sr ?_
 refine as_ ?_
 refine dn ?_
 refine sr ?_
 refine mv ?_
 refine mv ?_
 refine vy (V.bin0 h1 rfl rfl) fun x7_1 h2 => ?_
 refine mv ?_
 refine vy (V.add h2 rfl rfl) fun x9_2 h3 => ?_
 refine mv ?_
 refine vy (V.bin0 h3 rfl rfl) fun x11_3 h4 => ?_
 refine as_ ?_
 refine dn ?_
 refine CV.ret ?_
 cases h4
 exact PV.ret (by simp) Tryz.results26 hS (RS.tmp rfl RS.nil) rfl
noncomputable def g28_b1 (ro : List HT) (lp1 : AV → AV → AV → AV → HT → Nat → R) (y0 y1 y4 y5 : AV) (T1 : HT) (n1 : Nat) : R :=
 lenSK 280013 y0 fun x14_4 =>
 ltK Tryz.prog 3 (.tmp 12) (.tmp 14) 280014 y5 x14_4 fun x15_5 =>
 condK 280015 x15_5
 (
  iaK 280018 y0 y5 1 fun x20_6 =>
  ldK 280019 T1 ro x20_6 fun x21_7 =>
  iaK 280022 y1 y5 1 fun x24_8 =>
  ldK 280023 T1 ro x24_8 fun x25_9 =>
  eqSK Tryz.prog 9 (.tmp 21) (.tmp 25) 280024 x21_7 x25_9 fun x26_10 =>
  notK 280027 x26_10 fun x28_11 =>
  condK 280028 x28_11
  (
   .bad 280029
  )
  (
   addK Tryz.prog 3 (.tmp 16) (.const (.int .i64 (.ofNat 1))) 280031 y5 (.lit (.int .i64 (.ofNat 1))) fun x17_12 =>
   lp1 y0 y1 y4 x17_12 T1 n1
  )
 )
 (
  .ok (.val (.lit (.bool true))) T1 n1
 )
noncomputable def g28 (ro : List HT) (a0 a1 : AV) (T : HT) (nx : Nat) : R :=
 lenSK 280003 a0 fun x8_1 =>
 lenSK 280005 a1 fun x10_2 =>
 neK Tryz.prog 3 (.tmp 8) (.tmp 10) 280006 x8_1 x10_2 fun x11_3 =>
 condK 280007 x11_3
 (
  .bad 280008
 )
 (
  lpf4 280010 (g28_b1 ro) 100000 a0 a1 (.lit (.bool false)) (.lit (.int .i64 (.ofNat 0))) T nx
 )
theorem g28_ok (ro : List HT) (a0 a1 : AV) (T : HT) (nx : Nat) : GOk Tryz.prog envE 28 [a0, a1] ro T nx (g28 ro a0 a1 T nx) := by
 refine GOk.of_body Tryz.func28 rfl Tryz.ntmps28 (by kernel_rfl) rfl fun r T' n' h1 w0 base ρ0 its hS hP => ?_
 have X : CtxW envE ρ0 ro r T' n' := trivial
 unfold g28 at h1
 refine sr ?_
 refine as_ ?_
 refine dn ?_
 refine CV.seq ?_
 refine sr ?_
 refine mv ?_
 refine vy (V.lenS h1 rfl Rcf.ls46) fun x8_1 h2 => ?_
 refine mv ?_
 refine vy (V.lenS h2 rfl Rcf.ls46) fun x10_2 h3 => ?_
 refine vy (V.ne h3 rfl rfl) fun x11_3 h4 => ?_
 refine dn ?_
 refine CV.cond h4 rfl (fun e h5 => ?_) (fun e h5 => ?_)
 ·
  clear h1 h2 h3 h4
  subst e
  cases h5
 ·
  clear h1 h2 h3 h4
  subst e
  refine CV.skip ?_
  refine PV.thenN ?_
  refine CV.seq ?_
  refine sr ?_
  refine as_ ?_
  refine dn ?_
  refine CV.block ?_
  refine cl4 X 0 1 4 5 [] hS h5 ⟨rfl, rfl, rfl, rfl, trivial⟩ ?_
  intro f1 y0 y1 y4 y5 T1 n1 ρ its hS h6
  unfold g28_b1 at h6
  clear h5
  refine CV.seq ?_
  refine sr ?_
  refine mv ?_
  refine mv ?_
  refine vy (V.lenS h6 rfl Rcf.ls46) fun x14_4 h7 => ?_
  refine vy (V.lt h7 rfl rfl) fun x15_5 h8 => ?_
  refine dn ?_
  refine CV.cond h8 rfl (fun e h9 => ?_) (fun e h9 => ?_)
  ·
   clear h6 h7 h8
   subst e
   refine CV.skip ?_
   refine PV.thenN ?_
   refine CV.seq ?_
   refine CV.block ?_
   refine CV.seq ?_
   refine CV.regionM [(0, .anywhere), (1, .anywhere), (2, .anywhere), (3, .held), (4, .anywhere), (5, .anywhere), (6, .anywhere), (7, .held), (8, .held), (9, .held)] rfl (fun c a a' w hd hq => PanicOk.root (P := Tryz.prog) (fn := Tryz.f28) (w0 := w0) (base := base) (E := envE) (ro := ro) (r := r) (T' := T') (n' := n') (ρ0 := ρ0) c a a' w hd hq) (by kernel_rfl) ?_
   refine MV.step0 (i := 0) rfl (VAL.move rfl) rfl rfl rfl ?_
   refine MV.step0 (i := 1) rfl (VAL.move rfl) rfl rfl rfl ?_
   refine MV.lift0 (i := 2) rfl (V.ia h9 rfl rfl Rcf.el46) rfl rfl rfl fun x20_6 h10 => ?_
   refine MV.lift1 (i := 3) rfl (fun _ z => z) (V.ld hS h10 rfl Rcf.one9) rfl rfl rfl [] (by kernel_rfl) fun x21_7 h11 => ?_
   refine MV.step0 (i := 4) rfl (VAL.move rfl) rfl rfl rfl ?_
   refine MV.step0 (i := 5) rfl (VAL.move rfl) rfl rfl rfl ?_
   refine MV.lift0 (i := 6) rfl (V.ia h11 rfl rfl Rcf.el46) rfl rfl rfl fun x24_8 h12 => ?_
   refine MV.lift1 (i := 7) rfl (fun _ z => z) (V.ld hS h12 rfl Rcf.one9) rfl rfl rfl [3] (by kernel_rfl) fun x25_9 h13 => ?_
   refine MV.lift1 (i := 8) rfl (fun _ z => z) (V.eqS h13 rfl rfl) rfl rfl rfl [] (by kernel_rfl) fun x26_10 h14 => ?_
   refine MV.step1 (i := 9) rfl (fun _ z => z) (VAL.assign rfl) rfl rfl rfl [] (by kernel_rfl) ?_
   refine mdn ?_
   refine sr ?_
   refine mv ?_
   refine vy (V.not h14 rfl) fun x28_11 h15 => ?_
   refine dn ?_
   refine CV.cond h15 rfl (fun e h16 => ?_) (fun e h16 => ?_)
   ·
    clear h9 h10 h11 h12 h13 h14 h15
    subst e
    cases h16
   ·
    clear h9 h10 h11 h12 h13 h14 h15
    subst e
    refine CV.skip ?_
    refine PV.blockN ?_
    refine PV.thenN ?_
    refine CV.region ?_
    refine mv ?_
    refine vy (V.add h16 rfl rfl) fun x17_12 h17 => ?_
    refine as_ ?_
    refine LV.done ?_
    exact pb4 hS h17 ⟨rfl, rfl, rfl, rfl, trivial⟩
  ·
   clear h6 h7 h8
   subst e
   refine CV.exit ?_
   refine PV.thenE ?_
   refine PV.thenE ?_
   refine PV.blockE ?_
   refine PV.thenN ?_
   refine sr ?_
   refine as_ ?_
   refine dn ?_
   refine CV.ret ?_
   cases h9
   exact PV.ret (by simp) Tryz.results28 hS (RS.tmp rfl RS.nil) rfl
noncomputable def g29 (ro : List HT) (a0 : AV) (T : HT) (nx : Nat) : R :=
 addK Tryz.prog 3 (.tmp 4) (.const (.int .i64 (.ofNat 1))) 290004 a0 (.lit (.int .i64 (.ofNat 1))) fun x5_1 =>
 sliceF 290005 (.lit (.string ⟨⟨[97, 98, 99, 100, 101, 102, 103, 104, 105, 106, 107, 108]⟩⟩)) (some a0) (some x5_1) fun x6_2 =>
 .ok (.val x6_2) T nx
theorem g29_ok (ro : List HT) (a0 : AV) (T : HT) (nx : Nat) : GOk Tryz.prog envE 29 [a0] ro T nx (g29 ro a0 T nx) := by
 refine GOk.of_body Tryz.func29 rfl Tryz.ntmps29 (by kernel_rfl) rfl fun r T' n' h1 w0 base ρ0 its hS hP => ?_
 have X : CtxW envE ρ0 ro r T' n' := trivial
 unfold g29 at h1
 refine sr ?_
 refine as_ ?_
 refine dn ?_
 refine sr ?_
 refine mv ?_
 refine mv ?_
 refine vy (V.add h1 rfl rfl) fun x5_1 h2 => ?_
 refine vy (V.slBo (sliceF_ok h2) rfl rfl rfl Rcf.st9) fun x6_2 h3 => ?_
 refine as_ ?_
 refine dn ?_
 refine CV.ret ?_
 cases h3
 exact PV.ret (by simp) Tryz.results29 hS (RS.tmp rfl RS.nil) rfl
noncomputable def g8_k7 (c0 : AV) (m0 : Nat) (ro : List HT) (lp6 : AV → AV → AV → AV → AV → AV → HT → Nat → R) (y1 y4 y10 y12 y13 y16 : AV) (T11 : HT) (n11 : Nat) : R :=
 addK Tryz.prog 3 (.tmp 93) (.const (.int .i64 (.ofNat 1))) 80054 y16 (.lit (.int .i64 (.ofNat 1))) fun x94_19 =>
 lp6 y1 y4 y10 y12 y13 x94_19 T11 n11
noncomputable def g8_k8 (c0 : AV) (m0 : Nat) (ro : List HT) (lp6 : AV → AV → AV → AV → AV → AV → HT → Nat → R) (y1 y4 y10 y12 y13 y16 y18 : AV) (T12 : HT) (n12 : Nat) : R :=
 iaK 80076 y12 y16 3 fun x118_30 =>
 faK 80077 x118_30 2 fun x119_31 =>
 ldK 80078 T12 ro x119_31 fun x120_32 =>
 neK Tryz.prog 3 (.tmp 120) (.tmp 121) 80080 x120_32 y18 fun x122_33 =>
 condK 80081 x122_33
 (
  .bad 80082
 )
 (
  g8_k7 c0 m0 ro lp6 y1 y4 y10 y12 y13 y16 T12 n12
 )
noncomputable def g8_k9 (c0 : AV) (m0 : Nat) (ro : List HT) (lp6 : AV → AV → AV → AV → AV → AV → HT → Nat → R) (y1 y4 y10 y12 y13 y16 y136 : AV) (T13 : HT) (n13 : Nat) : R :=
 condK 80098 y136
 (
  .bad 80099
 )
 (
  g8_k7 c0 m0 ro lp6 y1 y4 y10 y12 y13 y16 T13 n13
 )
noncomputable def g8_k10 (c0 : AV) (m0 : Nat) (ro : List HT) (lp6 : AV → AV → AV → AV → AV → AV → HT → Nat → R) (y1 y4 y10 y12 y13 y16 y135 : AV) (T14 : HT) (n14 : Nat) : R :=
 g8_k9 c0 m0 ro lp6 y1 y4 y10 y12 y13 y16 y135 T14 n14
noncomputable def g8_k12 (c0 : AV) (m0 : Nat) (ro : List HT) (y4 y157 : AV) (T18 : HT) (n18 : Nat) : R :=
 .ok (.val y157) T18 n18
noncomputable def g8_k11 (c0 : AV) (m0 : Nat) (ro : List HT) (y4 y10 y147 : AV) (T17 : HT) (n17 : Nat) : R :=
 condK 80120 y147
 (
  lenSK 80123 y10 fun x151_49 =>
  subK Tryz.prog 3 (.tmp 151) (.const (.int .i64 (.ofNat 1))) 80124 x151_49 (.lit (.int .i64 (.ofNat 1))) fun x152_50 =>
  iaK 80125 y10 x152_50 5 fun x153_51 =>
  faK 80126 x153_51 0 fun x154_52 =>
  ldK 80127 T17 ro x154_52 fun x155_53 =>
  eqK Tryz.prog 3 (.tmp 155) (.const (.int .i64 (.ofNat 47))) 80128 x155_53 (.lit (.int .i64 (.ofNat 47))) fun x156_54 =>
  g8_k12 c0 m0 ro y4 x156_54 T17 n17
 )
 (
  g8_k12 c0 m0 ro y4 (.lit (.bool false)) T17 n17
 )
noncomputable def g8_b6 (c0 : AV) (m0 : Nat) (ro : List HT) (lp6 : AV → AV → AV → AV → AV → AV → HT → Nat → R) (y1 y4 y10 y12 y13 y16 : AV) (T10 : HT) (n10 : Nat) : R :=
 lenSK 80050 y12 fun x91_17 =>
 ltK Tryz.prog 3 (.tmp 89) (.tmp 91) 80051 y16 x91_17 fun x92_18 =>
 condK 80052 x92_18
 (
  iaK 80059 y12 y16 3 fun x98_20 =>
  faK 80060 x98_20 0 fun x99_21 =>
  ldK 80061 T10 ro x99_21 fun x100_22 =>
  iaK 80062 y10 x100_22 5 fun x101_23 =>
  faK 80063 x101_23 3 fun x102_24 =>
  ldK 80064 T10 ro x102_24 fun x103_25 =>
  iaK 80068 y12 y16 3 fun x106_26 =>
  faK 80069 x106_26 1 fun x107_27 =>
  ldK 80070 T10 ro x107_27 fun x108_28 =>
  eqK Tryz.prog 3 (.tmp 108) (.const (.int .i64 (.ofNat 1))) 80071 x108_28 (.lit (.int .i64 (.ofNat 1))) fun x109_29 =>
  condK 80072 x109_29
  (
   notK 80084 y1 fun x111_34 =>
   condK 80085 x111_34
   (
    ixK 80087 x103_25 (.lit (.int .i64 (.ofNat 1))) fun x113_35 =>
    bin0 Tryz.prog .sub 5 (.tmp 113) (.const (.int .u8 (.ofNat 97))) 80088 x113_35 (.lit (.int .u8 (.ofNat 97))) fun x114_36 =>
    optK 80089 (convV Tryz.prog 5 3 x114_36) fun x115_37 =>
    g8_k8 c0 m0 ro lp6 y1 y4 y10 y12 y13 y16 x115_37 T10 n10
   )
   (
    g8_k8 c0 m0 ro lp6 y1 y4 y10 y12 y13 y16 (.lit (.int .i64 (.ofNat 0))) T10 n10
   )
  )
  (
   iaK 80093 y12 y16 3 fun x125_38 =>
   faK 80094 x125_38 1 fun x126_39 =>
   ldK 80095 T10 ro x126_39 fun x127_40 =>
   neK Tryz.prog 3 (.tmp 127) (.const (.int .i64 (.ofNat 2))) 80096 x127_40 (.lit (.int .i64 (.ofNat 2))) fun x128_41 =>
   condK 80100 x128_41
   (
    g8_k9 c0 m0 ro lp6 y1 y4 y10 y12 y13 y16 (.lit (.bool true)) T10 n10
   )
   (
    neSK Tryz.prog 9 (.tmp 130) (.const (.string ⟨⟨[108]⟩⟩)) 80103 x103_25 (.lit (.string ⟨⟨[108]⟩⟩)) fun x131_42 =>
    condK 80106 x131_42
    (
     neSK Tryz.prog 9 (.tmp 133) (.const (.string ⟨⟨[121]⟩⟩)) 80108 x103_25 (.lit (.string ⟨⟨[121]⟩⟩)) fun x134_43 =>
     g8_k10 c0 m0 ro lp6 y1 y4 y10 y12 y13 y16 x134_43 T10 n10
    )
    (
     g8_k10 c0 m0 ro lp6 y1 y4 y10 y12 y13 y16 (.lit (.bool false)) T10 n10
    )
   )
  )
 )
 (
  iaK 80112 y13 (.lit (.int .i64 (.ofNat 0))) 4 fun x138_44 =>
  faK 80113 x138_44 3 fun x139_45 =>
  ldK 80114 T10 ro x139_45 fun x140_46 =>
  bsK 80115 T10 n10 2 9 1 [(0, (.lit (.string ⟨⟨[108]⟩⟩))), (1, (.lit (.string ⟨⟨[121]⟩⟩)))] fun x141_47 T15 n15 =>
  callK (g28 ro x140_46 x141_47 T15 n15) fun x142_48 T16 n16 =>
  condK 80131 x142_48
  (
   lenSK 80133 y10 fun x145_55 =>
   gtK Tryz.prog 3 (.tmp 145) (.const (.int .i64 (.ofNat 0))) 80134 x145_55 (.lit (.int .i64 (.ofNat 0))) fun x146_56 =>
   g8_k11 c0 m0 ro y4 y10 x146_56 T16 n16
  )
  (
   g8_k11 c0 m0 ro y4 y10 (.lit (.bool false)) T16 n16
  )
 )
noncomputable def g8_k5 (c0 : AV) (m0 : Nat) (ro : List HT) (y1 y4 y10 y12 y13 y15 : AV) (T9 : HT) (n9 : Nat) : R :=
 iaK 80039 y13 (.lit (.int .i64 (.ofNat 0))) 4 fun x84_13 =>
 faK 80040 x84_13 2 fun x85_14 =>
 ldK 80041 T9 ro x85_14 fun x86_15 =>
 neK Tryz.prog 3 (.tmp 86) (.tmp 87) 80043 x86_15 y15 fun x88_16 =>
 condK 80044 x88_16
 (
  .bad 80045
 )
 (
  lpf6 80047 (g8_b6 c0 m0 ro) 100000 y1 y4 y10 y12 y13 (.lit (.int .i64 (.ofNat 0))) T9 n9
 )
noncomputable def g8_k4 (c0 : AV) (m0 : Nat) (ro : List HT) (y0 y1 y4 y10 y12 y13 y80 : AV) (T8 : HT) (n8 : Nat) : R :=
 condK 80034 y80
 (
  .bad 80035
 )
 (
  condK 80138 y1
  (
   g8_k5 c0 m0 ro (.lit (.bool true)) y4 y10 y12 y13 (.lit (.int .i64 (.ofNat 1))) T8 n8
  )
  (
   g8_k5 c0 m0 ro (.lit (.bool false)) y4 y10 y12 y13 y0 T8 n8
  )
 )
noncomputable def g8_k3 (c0 : AV) (m0 : Nat) (ro : List HT) (y0 y1 y4 y5 y10 y12 y13 y76 : AV) (T7 : HT) (n7 : Nat) : R :=
 condK 80140 y76
 (
  g8_k4 c0 m0 ro y0 y1 y4 y10 y12 y13 (.lit (.bool true)) T7 n7
 )
 (
  notK 80143 y5 fun x79_57 =>
  g8_k4 c0 m0 ro y0 y1 y4 y10 y12 y13 x79_57 T7 n7
 )
noncomputable def g8_k2 (c0 : AV) (m0 : Nat) (ro : List HT) (y0 y1 y4 y5 y10 y12 y13 y71 : AV) (T6 : HT) (n6 : Nat) : R :=
 condK 80145 y71
 (
  g8_k3 c0 m0 ro y0 y1 y4 y5 y10 y12 y13 (.lit (.bool true)) T6 n6
 )
 (
  lenSK 80148 y13 fun x74_58 =>
  neK Tryz.prog 3 (.tmp 74) (.const (.int .i64 (.ofNat 1))) 80149 x74_58 (.lit (.int .i64 (.ofNat 1))) fun x75_59 =>
  g8_k3 c0 m0 ro y0 y1 y4 y5 y10 y12 y13 x75_59 T6 n6
 )
noncomputable def g8_k1 (c0 : AV) (m0 : Nat) (ro : List HT) (y0 y1 y4 y5 y6 : AV) (T3 : HT) (n3 : Nat) : R :=
 callK (g11 ro y6 T3 n3) fun x57_5 T4 n4 =>
 exK 80016 x57_5 0 fun x58_6 =>
 exK 80017 x57_5 1 fun x59_7 =>
 callK (g27 ro x58_6 (.lit (.slice none 0 0)) T4 n4) fun x62_8 T5 n5 =>
 exK 80023 x62_8 0 fun x63_9 =>
 exK 80024 x62_8 1 fun x64_10 =>
 exK 80025 x62_8 2 fun x65_11 =>
 bin0 Tryz.prog .neq 25 (.tmp 66) (.const (.nilIface)) 80030 x59_7 (.lit (.nilIface)) fun x67_12 =>
 condK 80151 x67_12
 (
  g8_k2 c0 m0 ro y0 y1 y4 y5 x58_6 x63_9 x64_10 (.lit (.bool true)) T5 n5
 )
 (
  bin0 Tryz.prog .neq 25 (.tmp 69) (.const (.nilIface)) 80154 x65_11 (.lit (.nilIface)) fun x70_60 =>
  g8_k2 c0 m0 ro y0 y1 y4 y5 x58_6 x63_9 x64_10 x70_60 T5 n5
 )
noncomputable def g8_b13 (c0 : AV) (m0 : Nat) (ro : List HT) (lp13 : AV → AV → AV → AV → AV → AV → HT → Nat → R) (y0 y1 y4 y5 y6 y7 : AV) (T19 : HT) (n19 : Nat) : R :=
 ltK Tryz.prog 3 (.tmp 26) (.tmp 27) 80162 y7 y0 fun x28_61 =>
 condK 80163 x28_61
 (
  addSK Tryz.prog 9 (.tmp 31) (.const (.string ⟨⟨[121, 32, 61, 32, 91, 97, 32, 102, 111, 114, 32, 97, 32, 105, 110, 32, 108, 93, 10]⟩⟩)) 80165 y6 (.lit (.string ⟨⟨[121, 32, 61, 32, 91, 97, 32, 102, 111, 114, 32, 97, 32, 105, 110, 32, 108, 93, 10]⟩⟩)) fun x32_62 =>
  addK Tryz.prog 3 (.tmp 29) (.const (.int .i64 (.ofNat 1))) 80168 y7 (.lit (.int .i64 (.ofNat 1))) fun x30_63 =>
  lp13 y0 y1 y4 y5 x32_62 x30_63 T19 n19
 )
 (
  g8_k1 c0 m0 ro y0 y1 y4 y5 y6 T19 n19
 )
noncomputable def g8_b14 (c0 : AV) (m0 : Nat) (ro : List HT) (lp14 : AV → AV → AV → AV → AV → AV → AV → HT → Nat → R) (y0 y1 y4 y5 y6 y8 y9 : AV) (T21 : HT) (n21 : Nat) : R :=
 geK Tryz.prog 3 (.tmp 39) (.const (.int .i64 (.ofNat 0))) 80180 y9 (.lit (.int .i64 (.ofNat 0))) fun x40_68 =>
 condK 80181 x40_68
 (
  addSK Tryz.prog 9 (.const (.string ⟨⟨[91]⟩⟩)) (.tmp 43) 80183 (.lit (.string ⟨⟨[91]⟩⟩)) y8 fun x44_69 =>
  addSK Tryz.prog 9 (.tmp 44) (.const (.string ⟨⟨[32, 102, 111, 114, 32, 118]⟩⟩)) 80184 x44_69 (.lit (.string ⟨⟨[32, 102, 111, 114, 32, 118]⟩⟩)) fun x45_70 =>
  callK (g29 ro y9 T21 n21) fun x47_71 T22 n22 =>
  addSK Tryz.prog 9 (.tmp 45) (.tmp 47) 80187 x45_70 x47_71 fun x48_72 =>
  addSK Tryz.prog 9 (.tmp 48) (.const (.string ⟨⟨[32, 105, 110, 32, 108, 93]⟩⟩)) 80188 x48_72 (.lit (.string ⟨⟨[32, 105, 110, 32, 108, 93]⟩⟩)) fun x49_73 =>
  subK Tryz.prog 3 (.tmp 41) (.const (.int .i64 (.ofNat 1))) 80191 y9 (.lit (.int .i64 (.ofNat 1))) fun x42_74 =>
  lp14 y0 y1 y4 y5 y6 x49_73 x42_74 T22 n22
 )
 (
  addSK Tryz.prog 9 (.tmp 50) (.const (.string ⟨⟨[121, 32, 61, 32]⟩⟩)) 80194 y6 (.lit (.string ⟨⟨[121, 32, 61, 32]⟩⟩)) fun x51_75 =>
  addSK Tryz.prog 9 (.tmp 51) (.tmp 52) 80196 x51_75 y8 fun x53_76 =>
  addSK Tryz.prog 9 (.tmp 53) (.const (.string ⟨⟨[10]⟩⟩)) 80197 x53_76 (.lit (.string ⟨⟨[10]⟩⟩)) fun x54_77 =>
  g8_k1 c0 m0 ro y0 y1 y4 y5 x54_77 T21 n21
 )
noncomputable def g8 (c0 : AV) (m0 : Nat) (ro : List HT) (q0 q1 : AV) (T : HT) (nx : Nat) : R :=
 callK (.ok (.val (.lit (.bool true))) T nx) fun x19_1 T1 n1 =>
 notK 80005 x19_1 fun x21_2 =>
 condK 80006 x21_2
 (
  .bad 80007
 )
 (
  callK (isK (.lit (.int .i64 (.ofNat 12))) m0 c0 T1 n1) fun x23_3 T2 n2 =>
  addK Tryz.prog 3 (.tmp 23) (.const (.int .i64 (.ofNat 1))) 80010 x23_3 (.lit (.int .i64 (.ofNat 1))) fun x24_4 =>
  condK 80157 q1
  (
   lpf6 80159 (g8_b13 c0 m0 ro) 100000 x24_4 (.lit (.bool true)) (.lit (.bool false)) x19_1 (.lit (.string ⟨⟨[108, 32, 61, 32, 91, 93, 10]⟩⟩)) (.lit (.int .i64 (.ofNat 0))) T2 n2
  )
  (
   subK Tryz.prog 3 (.tmp 33) (.const (.int .i64 (.ofNat 1))) 80171 x24_4 (.lit (.int .i64 (.ofNat 1))) fun x34_64 =>
   callK (g29 ro x34_64 T2 n2) fun x35_65 T20 n20 =>
   addSK Tryz.prog 9 (.const (.string ⟨⟨[118]⟩⟩)) (.tmp 35) 80173 (.lit (.string ⟨⟨[118]⟩⟩)) x35_65 fun x36_66 =>
   subK Tryz.prog 3 (.tmp 37) (.const (.int .i64 (.ofNat 1))) 80176 x24_4 (.lit (.int .i64 (.ofNat 1))) fun x38_67 =>
   lpf7 80178 (g8_b14 c0 m0 ro) 100000 x24_4 (.lit (.bool false)) (.lit (.bool false)) x19_1 (.lit (.string ⟨⟨[108, 32, 61, 32, 91, 93, 10]⟩⟩)) x36_66 x38_67 T20 n20
  )
 )
theorem g8_ok (c0 : AV) (m0 : Nat) (q0 q1 : AV) (hC0 : ∀ z ro T nx, GOk Tryz.prog envE 26 [q0, z] ro T nx (isK z m0 c0 T nx)) (ro : List HT) (T : HT) (nx : Nat) (hF : GOk Tryz.prog envE 24 [] ro T nx (.ok (.val (.lit (.bool true))) T nx)) : GOk Tryz.prog envE 8 [q0, q1] ro T nx (g8 c0 m0 ro q0 q1 T nx) := by
 refine GOk.of_body Tryz.func8 rfl Tryz.ntmps8 (by kernel_rfl) rfl fun r T' n' h1 w0 base ρ0 its hS hP => ?_
 have X : CtxW envE ρ0 ro r T' n' := trivial
 unfold g8 at h1
 refine sr ?_
 refine as_ ?_
 refine dn ?_
 refine sr ?_
 refine LV.call hS h1 (hF) hP rfl rfl rfl rfl fun x19_1 T1 n1 h2 ρ its hS => ?_
 refine as_ ?_
 refine dn ?_
 refine CV.seq ?_
 refine sr ?_
 refine mv ?_
 refine vy (V.not h2 rfl) fun x21_2 h3 => ?_
 refine dn ?_
 refine CV.cond h3 rfl (fun e h4 => ?_) (fun e h4 => ?_)
 ·
  clear h1 h2 h3
  subst e
  cases h4
 ·
  clear h1 h2 h3
  subst e
  refine CV.skip ?_
  refine PV.thenN ?_
  refine sr ?_
  refine mv ?_
  refine LV.call hS h4 (hC0 _ _ _ _) hP rfl rfl rfl rfl fun x23_3 T2 n2 h5 ρ its hS => ?_
  refine vy (V.add h5 rfl rfl) fun x24_4 h6 => ?_
  refine as_ ?_
  refine dn ?_
  refine sr ?_
  refine as_ ?_
  refine dn ?_
  refine cs5 X 0 1 4 5 6 [] (g8_k1 c0 m0 ro) ?_ ?_
  ·
   refine sr ?_
   refine mv ?_
   refine dn ?_
   refine CV.cond h6 rfl (fun e h90 => ?_) (fun e h90 => ?_)
   ·
    clear h4 h5 h6
    subst e
    refine sr ?_
    refine as_ ?_
    refine dn ?_
    refine CV.block ?_
    refine cl6 X 0 1 4 5 6 7 [] hS h90 ⟨rfl, rfl, rfl, rfl, rfl, rfl, trivial⟩ ?_
    intro f13 y0 y1 y4 y5 y6 y7 T19 n19 ρ its hS h91
    unfold g8_b13 at h91
    clear h90
    refine CV.seq ?_
    refine sr ?_
    refine mv ?_
    refine mv ?_
    refine vy (V.lt h91 rfl rfl) fun x28_61 h92 => ?_
    refine dn ?_
    refine CV.cond h92 rfl (fun e h93 => ?_) (fun e h93 => ?_)
    ·
     clear h91 h92
     subst e
     refine CV.skip ?_
     refine PV.thenN ?_
     refine CV.seq ?_
     refine CV.block ?_
     refine CV.region ?_
     refine mv ?_
     refine vy (V.addS h93 rfl rfl) fun x32_62 h94 => ?_
     refine as_ ?_
     refine LV.done ?_
     refine PV.blockN ?_
     refine PV.thenN ?_
     refine CV.region ?_
     refine mv ?_
     refine vy (V.add h94 rfl rfl) fun x30_63 h95 => ?_
     refine as_ ?_
     refine LV.done ?_
     exact pb6 hS h95 ⟨rfl, rfl, rfl, rfl, rfl, rfl, trivial⟩
    ·
     clear h91 h92
     subst e
     refine CV.exit ?_
     refine PV.thenE ?_
     refine PV.thenE ?_
     refine PV.blockE ?_
     exact pa5 hS h93 ⟨rfl, rfl, rfl, rfl, rfl, trivial⟩
   ·
    clear h4 h5 h6
    subst e
    refine sr ?_
    refine mv ?_
    refine vy (V.sub h90 rfl rfl) fun x34_64 h96 => ?_
    refine LV.call hS h96 (g29_ok _ _ _ _ ) hP rfl rfl rfl rfl fun x35_65 T20 n20 h97 ρ its hS => ?_
    refine vy (V.addS h97 rfl rfl) fun x36_66 h98 => ?_
    refine as_ ?_
    refine dn ?_
    refine CV.seq ?_
    refine sr ?_
    refine mv ?_
    refine vy (V.sub h98 rfl rfl) fun x38_67 h99 => ?_
    refine as_ ?_
    refine dn ?_
    refine CV.block ?_
    refine cl7 X 0 1 4 5 6 8 9 [] hS h99 ⟨rfl, rfl, rfl, rfl, rfl, rfl, rfl, trivial⟩ ?_
    intro f14 y0 y1 y4 y5 y6 y8 y9 T21 n21 ρ its hS h100
    unfold g8_b14 at h100
    clear h90 h96 h97 h98 h99
    refine CV.seq ?_
    refine sr ?_
    refine mv ?_
    refine vy (V.ge h100 rfl rfl) fun x40_68 h101 => ?_
    refine dn ?_
    refine CV.cond h101 rfl (fun e h102 => ?_) (fun e h102 => ?_)
    ·
     clear h100 h101
     subst e
     refine CV.skip ?_
     refine PV.thenN ?_
     refine CV.seq ?_
     refine CV.block ?_
     refine CV.region ?_
     refine mv ?_
     refine vy (V.addS h102 rfl rfl) fun x44_69 h103 => ?_
     refine vy (V.addS h103 rfl rfl) fun x45_70 h104 => ?_
     refine mv ?_
     refine LV.call hS h104 (g29_ok _ _ _ _ ) hP rfl rfl rfl rfl fun x47_71 T22 n22 h105 ρ its hS => ?_
     refine vy (V.addS h105 rfl rfl) fun x48_72 h106 => ?_
     refine vy (V.addS h106 rfl rfl) fun x49_73 h107 => ?_
     refine as_ ?_
     refine LV.done ?_
     refine PV.blockN ?_
     refine PV.thenN ?_
     refine CV.region ?_
     refine mv ?_
     refine vy (V.sub h107 rfl rfl) fun x42_74 h108 => ?_
     refine as_ ?_
     refine LV.done ?_
     exact pb7 hS h108 ⟨rfl, rfl, rfl, rfl, rfl, rfl, rfl, trivial⟩
    ·
     clear h100 h101
     subst e
     refine CV.exit ?_
     refine PV.thenE ?_
     refine PV.thenE ?_
     refine PV.blockE ?_
     refine PV.thenN ?_
     refine CV.region ?_
     refine mv ?_
     refine vy (V.addS h102 rfl rfl) fun x51_75 h109 => ?_
     refine mv ?_
     refine vy (V.addS h109 rfl rfl) fun x53_76 h110 => ?_
     refine vy (V.addS h110 rfl rfl) fun x54_77 h111 => ?_
     refine as_ ?_
     refine LV.done ?_
     exact pa5 hS h111 ⟨rfl, rfl, rfl, rfl, rfl, trivial⟩
  ·
   intro y0 y1 y4 y5 y6 T3 n3 ρ its hS h7
   unfold g8_k1 at h7
   clear h4 h5 h6
   refine sr ?_
   refine mv ?_
   refine LV.call hS h7 (g11_ok _ _ _ _ ) hP rfl rfl rfl rfl fun x57_5 T4 n4 h8 ρ its hS => ?_
   refine mv ?_
   refine vy (V.ex h8 rfl) fun x58_6 h9 => ?_
   refine vy (V.ex h9 rfl) fun x59_7 h10 => ?_
   refine as_ ?_
   refine as_ ?_
   refine dn ?_
   refine sr ?_
   refine mv ?_
   refine LV.call hS h10 (g27_ok _ _ _ _ _ ) hP rfl rfl rfl rfl fun x62_8 T5 n5 h11 ρ its hS => ?_
   refine mv ?_
   refine vy (V.ex h11 rfl) fun x63_9 h12 => ?_
   refine vy (V.ex h12 rfl) fun x64_10 h13 => ?_
   refine vy (V.ex h13 rfl) fun x65_11 h14 => ?_
   refine as_ ?_
   refine as_ ?_
   refine as_ ?_
   refine dn ?_
   refine CV.seq ?_
   refine sr ?_
   refine mv ?_
   refine vy (V.bin0 h14 rfl rfl) fun x67_12 h15 => ?_
   refine mv ?_
   refine ls8 X 0 1 4 5 10 12 13 71 [] (g8_k2 c0 m0 ro) 3 ?_ ?_
   ·
    rcases condK_inv h15 with ⟨e, h88⟩ | ⟨e, h88⟩
    ·
     clear h7 h8 h9 h10 h11 h12 h13 h14 h15
     subst e
     refine sk ?_
     refine sk ?_
     refine pu ?_
     exact la8 hS h88 ⟨rfl, rfl, rfl, rfl, rfl, rfl, rfl, rfl, trivial⟩
    ·
     clear h7 h8 h9 h10 h11 h12 h13 h14 h15
     subst e
     refine mv ?_
     refine vy (V.bin0 h88 rfl rfl) fun x70_60 h89 => ?_
     refine pu ?_
     exact la8 hS h89 ⟨rfl, rfl, rfl, rfl, rfl, rfl, rfl, rfl, trivial⟩
   ·
    intro y0 y1 y4 y5 y10 y12 y13 y71 T6 n6 ρ its hS h16
    unfold g8_k2 at h16
    clear h7 h8 h9 h10 h11 h12 h13 h14 h15
    refine mv ?_
    refine ls8 X 0 1 4 5 10 12 13 76 [] (g8_k3 c0 m0 ro) 4 ?_ ?_
    ·
     rcases condK_inv h16 with ⟨e, h85⟩ | ⟨e, h85⟩
     ·
      clear h16
      subst e
      refine sk ?_
      refine sk ?_
      refine sk ?_
      refine pu ?_
      exact la8 hS h85 ⟨rfl, rfl, rfl, rfl, rfl, rfl, rfl, rfl, trivial⟩
     ·
      clear h16
      subst e
      refine mv ?_
      refine vy (V.lenS h85 rfl Rcf.ls51) fun x74_58 h86 => ?_
      refine vy (V.ne h86 rfl rfl) fun x75_59 h87 => ?_
      refine pu ?_
      exact la8 hS h87 ⟨rfl, rfl, rfl, rfl, rfl, rfl, rfl, rfl, trivial⟩
    ·
     intro y0 y1 y4 y5 y10 y12 y13 y76 T7 n7 ρ its hS h17
     unfold g8_k3 at h17
     clear h16
     refine mv ?_
     refine ls7 X 0 1 4 10 12 13 80 [] (g8_k4 c0 m0 ro) 3 ?_ ?_
     ·
      rcases condK_inv h17 with ⟨e, h83⟩ | ⟨e, h83⟩
      ·
       clear h17
       subst e
       refine sk ?_
       refine sk ?_
       refine pu ?_
       exact la7 hS h83 ⟨rfl, rfl, rfl, rfl, rfl, rfl, rfl, trivial⟩
      ·
       clear h17
       subst e
       refine mv ?_
       refine vy (V.not h83 rfl) fun x79_57 h84 => ?_
       refine pu ?_
       exact la7 hS h84 ⟨rfl, rfl, rfl, rfl, rfl, rfl, rfl, trivial⟩
     ·
      intro y0 y1 y4 y10 y12 y13 y80 T8 n8 ρ its hS h18
      unfold g8_k4 at h18
      clear h17
      refine dn ?_
      refine CV.cond h18 rfl (fun e h19 => ?_) (fun e h19 => ?_)
      ·
       clear h18
       subst e
       cases h19
      ·
       clear h18
       subst e
       refine CV.skip ?_
       refine PV.thenN ?_
       refine sr ?_
       refine mv ?_
       refine as_ ?_
       refine dn ?_
       refine cs6 X 1 4 10 12 13 15 [] (g8_k5 c0 m0 ro) ?_ ?_
       ·
        refine sr ?_
        refine mv ?_
        refine dn ?_
        refine CV.cond h19 rfl (fun e h82 => ?_) (fun e h82 => ?_)
        ·
         clear h19
         subst e
         refine CV.region ?_
         refine as_ ?_
         refine LV.done ?_
         exact pa6 hS h82 ⟨rfl, rfl, rfl, rfl, rfl, rfl, trivial⟩
        ·
         clear h19
         subst e
         refine CV.skip ?_
         exact pa6 hS h82 ⟨rfl, rfl, rfl, rfl, rfl, rfl, trivial⟩
       ·
        intro y1 y4 y10 y12 y13 y15 T9 n9 ρ its hS h20
        unfold g8_k5 at h20
        clear h19
        refine CV.seq ?_
        refine sr ?_
        refine mv ?_
        refine vy (V.ia h20 rfl rfl Rcf.el51) fun x84_13 h21 => ?_
        refine vy (V.fa h21 rfl Rcf.fo56_2) fun x85_14 h22 => ?_
        refine vy (V.ld hS h22 rfl Rcf.one3) fun x86_15 h23 => ?_
        refine mv ?_
        refine vy (V.ne h23 rfl rfl) fun x88_16 h24 => ?_
        refine dn ?_
        refine CV.cond h24 rfl (fun e h25 => ?_) (fun e h25 => ?_)
        ·
         clear h20 h21 h22 h23 h24
         subst e
         cases h25
        ·
         clear h20 h21 h22 h23 h24
         subst e
         refine CV.skip ?_
         refine PV.thenN ?_
         refine CV.seq ?_
         refine sr ?_
         refine as_ ?_
         refine dn ?_
         refine CV.block ?_
         refine cl6 X 1 4 10 12 13 16 [] hS h25 ⟨rfl, rfl, rfl, rfl, rfl, rfl, trivial⟩ ?_
         intro f6 y1 y4 y10 y12 y13 y16 T10 n10 ρ its hS h26
         unfold g8_b6 at h26
         clear h25
         refine CV.seq ?_
         refine sr ?_
         refine mv ?_
         refine mv ?_
         refine vy (V.lenS h26 rfl Rcf.ls50) fun x91_17 h27 => ?_
         refine vy (V.lt h27 rfl rfl) fun x92_18 h28 => ?_
         refine dn ?_
         refine CV.cond h28 rfl (fun e h29 => ?_) (fun e h29 => ?_)
         ·
          clear h26 h27 h28
          subst e
          refine CV.skip ?_
          refine PV.thenN ?_
          refine cs6 X 1 4 10 12 13 16 [] (g8_k7 c0 m0 ro (lpf6 80047 (g8_b6 c0 m0 ro) f6)) ?_ ?_
          ·
           refine CV.block ?_
           refine sr ?_
           refine mv ?_
           refine mv ?_
           refine mv ?_
           refine vy (V.ia h29 rfl rfl Rcf.el50) fun x98_20 h32 => ?_
           refine vy (V.fa h32 rfl Rcf.fo58_0) fun x99_21 h33 => ?_
           refine vy (V.ld hS h33 rfl Rcf.one3) fun x100_22 h34 => ?_
           refine vy (V.ia h34 rfl rfl Rcf.el23) fun x101_23 h35 => ?_
           refine vy (V.fa h35 rfl Rcf.fo32_3) fun x102_24 h36 => ?_
           refine vy (V.ld hS h36 rfl Rcf.one9) fun x103_25 h37 => ?_
           refine as_ ?_
           refine dn ?_
           refine sr ?_
           refine mv ?_
           refine mv ?_
           refine vy (V.ia h37 rfl rfl Rcf.el50) fun x106_26 h38 => ?_
           refine vy (V.fa h38 rfl Rcf.fo58_1) fun x107_27 h39 => ?_
           refine vy (V.ld hS h39 rfl Rcf.one3) fun x108_28 h40 => ?_
           refine vy (V.eq h40 rfl rfl) fun x109_29 h41 => ?_
           refine dn ?_
           refine CV.cond h41 rfl (fun e h42 => ?_) (fun e h42 => ?_)
           ·
            clear h29 h32 h33 h34 h35 h36 h37 h38 h39 h40 h41
            subst e
            refine sr ?_
            refine as_ ?_
            refine dn ?_
            refine cs7 X 1 4 10 12 13 16 18 [] (g8_k8 c0 m0 ro (lpf6 80047 (g8_b6 c0 m0 ro) f6)) ?_ ?_
            ·
             refine sr ?_
             refine mv ?_
             refine vy (V.not h42 rfl) fun x111_34 h49 => ?_
             refine dn ?_
             refine CV.cond h49 rfl (fun e h50 => ?_) (fun e h50 => ?_)
             ·
              clear h42 h49
              subst e
              refine CV.region ?_
              refine mv ?_
              refine vy (V.ix h50 rfl rfl Rcf.st9) fun x113_35 h51 => ?_
              refine vy (V.bin0 h51 rfl rfl) fun x114_36 h52 => ?_
              refine vy (V.conv h52 rfl) fun x115_37 h53 => ?_
              refine as_ ?_
              refine LV.done ?_
              exact pa7 hS h53 ⟨rfl, rfl, rfl, rfl, rfl, rfl, rfl, trivial⟩
             ·
              clear h42 h49
              subst e
              refine CV.skip ?_
              exact pa7 hS h50 ⟨rfl, rfl, rfl, rfl, rfl, rfl, rfl, trivial⟩
            ·
             intro y1 y4 y10 y12 y13 y16 y18 T12 n12 ρ its hS h43
             unfold g8_k8 at h43
             clear h42
             refine sr ?_
             refine mv ?_
             refine mv ?_
             refine vy (V.ia h43 rfl rfl Rcf.el50) fun x118_30 h44 => ?_
             refine vy (V.fa h44 rfl Rcf.fo58_2) fun x119_31 h45 => ?_
             refine vy (V.ld hS h45 rfl Rcf.one3) fun x120_32 h46 => ?_
             refine mv ?_
             refine vy (V.ne h46 rfl rfl) fun x122_33 h47 => ?_
             refine dn ?_
             refine CV.cond h47 rfl (fun e h48 => ?_) (fun e h48 => ?_)
             ·
              clear h43 h44 h45 h46 h47
              subst e
              cases h48
             ·
              clear h43 h44 h45 h46 h47
              subst e
              refine CV.skip ?_
              refine PV.blockN ?_
              exact pa6 hS h48 ⟨rfl, rfl, rfl, rfl, rfl, rfl, trivial⟩
           ·
            clear h29 h32 h33 h34 h35 h36 h37 h38 h39 h40 h41
            subst e
            refine sr ?_
            refine mv ?_
            refine mv ?_
            refine vy (V.ia h42 rfl rfl Rcf.el50) fun x125_38 h54 => ?_
            refine vy (V.fa h54 rfl Rcf.fo58_1) fun x126_39 h55 => ?_
            refine vy (V.ld hS h55 rfl Rcf.one3) fun x127_40 h56 => ?_
            refine vy (V.ne h56 rfl rfl) fun x128_41 h57 => ?_
            refine mv ?_
            refine ls7 X 1 4 10 12 13 16 136 [] (g8_k9 c0 m0 ro (lpf6 80047 (g8_b6 c0 m0 ro) f6)) 7 ?_ ?_
            ·
             rcases condK_inv h57 with ⟨e, h60⟩ | ⟨e, h60⟩
             ·
              clear h42 h54 h55 h56 h57
              subst e
              refine sk ?_
              refine sk ?_
              refine sk ?_
              refine sk ?_
              refine sk ?_
              refine sk ?_
              refine pu ?_
              exact la7 hS h60 ⟨rfl, rfl, rfl, rfl, rfl, rfl, rfl, trivial⟩
             ·
              clear h42 h54 h55 h56 h57
              subst e
              refine mv ?_
              refine vy (V.neS h60 rfl rfl) fun x131_42 h61 => ?_
              refine mv ?_
              refine ls7 X 1 4 10 12 13 16 135 [(129, (.lit (.bool false)))] (g8_k10 c0 m0 ro (lpf6 80047 (g8_b6 c0 m0 ro) f6)) 3 ?_ ?_
              ·
               rcases condK_inv h61 with ⟨e, h63⟩ | ⟨e, h63⟩
               ·
                clear h60 h61
                subst e
                refine mv ?_
                refine vy (V.neS h63 rfl rfl) fun x134_43 h64 => ?_
                refine pu ?_
                exact la7 hS h64 ⟨rfl, rfl, rfl, rfl, rfl, rfl, rfl, rfl, trivial⟩
               ·
                clear h60 h61
                subst e
                refine sk ?_
                refine sk ?_
                refine pu ?_
                exact la7 hS h63 ⟨rfl, rfl, rfl, rfl, rfl, rfl, rfl, rfl, trivial⟩
              ·
               intro y1 y4 y10 y12 y13 y16 y135 T14 n14 ρ its hS h62
               unfold g8_k10 at h62
               clear h60 h61
               refine pu ?_
               exact la7 hS h62 ⟨rfl, rfl, rfl, rfl, rfl, rfl, rfl, trivial⟩
            ·
             intro y1 y4 y10 y12 y13 y16 y136 T13 n13 ρ its hS h58
             unfold g8_k9 at h58
             clear h42 h54 h55 h56 h57
             refine dn ?_
             refine CV.cond h58 rfl (fun e h59 => ?_) (fun e h59 => ?_)
             ·
              clear h58
              subst e
              cases h59
             ·
              clear h58
              subst e
              refine CV.skip ?_
              refine PV.blockN ?_
              exact pa6 hS h59 ⟨rfl, rfl, rfl, rfl, rfl, rfl, trivial⟩
          ·
           intro y1 y4 y10 y12 y13 y16 T11 n11 ρ its hS h30
           unfold g8_k7 at h30
           clear h29
           refine CV.region ?_
           refine mv ?_
           refine vy (V.add h30 rfl rfl) fun x94_19 h31 => ?_
           refine as_ ?_
           refine LV.done ?_
           exact pb6 hS h31 ⟨rfl, rfl, rfl, rfl, rfl, rfl, trivial⟩
         ·
          clear h26 h27 h28
          subst e
          refine CV.exit ?_
          refine PV.thenE ?_
          refine PV.thenE ?_
          refine PV.blockE ?_
          refine PV.thenN ?_
          refine sr ?_
          refine mv ?_
          refine vy (V.ia h29 rfl rfl Rcf.el51) fun x138_44 h65 => ?_
          refine vy (V.fa h65 rfl Rcf.fo56_3) fun x139_45 h66 => ?_
          refine vy (V.ld hS h66 rfl Rcf.one46) fun x140_46 h67 => ?_
          refine LV.bslice hS h67 rfl rfl Rcf.el46 rfl rfl rfl rfl fun x141_47 T15 n15 h68 ρ its hS hdr => ?_
          refine LV.call hS h68 (g28_ok _ _ _ _ _ ) hP rfl rfl rfl rfl fun x142_48 T16 n16 h69 ρ its hS => ?_
          refine mv ?_
          refine ls3 X 4 10 147 [] (g8_k11 c0 m0 ro) 4 ?_ ?_
          ·
           rcases condK_inv h69 with ⟨e, h79⟩ | ⟨e, h79⟩
           ·
            clear h29 h65 h66 h67 h68 h69
            subst e
            refine mv ?_
            refine vy (V.lenS h79 rfl Rcf.ls23) fun x145_55 h80 => ?_
            refine vy (V.gt h80 rfl rfl) fun x146_56 h81 => ?_
            refine pu ?_
            exact la3 hS h81 ⟨rfl, rfl, rfl, trivial⟩
           ·
            clear h29 h65 h66 h67 h68 h69
            subst e
            refine sk ?_
            refine sk ?_
            refine sk ?_
            refine pu ?_
            exact la3 hS h79 ⟨rfl, rfl, rfl, trivial⟩
          ·
           intro y4 y10 y147 T17 n17 ρ its hS h70
           unfold g8_k11 at h70
           clear h29 h65 h66 h67 h68 h69
           refine mv ?_
           refine ls2 X 4 157 [] (g8_k12 c0 m0 ro) 9 ?_ ?_
           ·
            rcases condK_inv h70 with ⟨e, h72⟩ | ⟨e, h72⟩
            ·
             clear h70
             subst e
             refine mv ?_
             refine mv ?_
             refine vy (V.lenS h72 rfl Rcf.ls23) fun x151_49 h73 => ?_
             refine vy (V.sub h73 rfl rfl) fun x152_50 h74 => ?_
             refine vy (V.ia h74 rfl rfl Rcf.el23) fun x153_51 h75 => ?_
             refine vy (V.fa h75 rfl Rcf.fo32_0) fun x154_52 h76 => ?_
             refine vy (V.ld hS h76 rfl Rcf.one3) fun x155_53 h77 => ?_
             refine vy (V.eq h77 rfl rfl) fun x156_54 h78 => ?_
             refine pu ?_
             exact la2 hS h78 ⟨rfl, rfl, trivial⟩
            ·
             clear h70
             subst e
             refine sk ?_
             refine sk ?_
             refine sk ?_
             refine sk ?_
             refine sk ?_
             refine sk ?_
             refine sk ?_
             refine sk ?_
             refine pu ?_
             exact la2 hS h72 ⟨rfl, rfl, trivial⟩
           ·
            intro y4 y157 T18 n18 ρ its hS h71
            unfold g8_k12 at h71
            clear h70
            refine as_ ?_
            refine dn ?_
            refine CV.ret ?_
            cases h71
            exact PV.ret (by simp) Tryz.results8 hS (RS.tmp rfl RS.nil) rfl

end Go.Proofs.YtdepmlcnllofiaaGreatDoor.Rc
