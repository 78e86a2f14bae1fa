/-
  Proved here: plain functions that do what the program's functions do, each with its proof.
-/
import Derived.Test.YtlljgagoboapaaaGreatDoorCnh
namespace Go.Proofs.YtlljgagoboapaaaGreatDoor.Cn
open Go.EY Go.EX Go.SX Go.RowKit
noncomputable def g83_b2 (ro : List HT) (lp2 : AV → AV → AV → AV → HT → Nat → R) (y0 y2 y3 y5 : AV) (T5 : HT) (n5 : Nat) : R :=
 lenSK 830028 y5 fun x28_12 =>
 gtK Tryz.prog 3 (.tmp 28) (.const (.int .i64 (.ofNat 0))) 830029 x28_12 (.lit (.int .i64 (.ofNat 0))) fun x29_13 =>
 condK 830030 x29_13
 (
  lenSK 830033 y5 fun x32_14 =>
  subK Tryz.prog 3 (.tmp 32) (.const (.int .i64 (.ofNat 1))) 830034 x32_14 (.lit (.int .i64 (.ofNat 1))) fun x33_15 =>
  iaK 830035 y5 x33_15 2 fun x34_16 =>
  ldAK 830036 T5 ro x34_16 2 fun x35_17 =>
  newK T5 n5 (.obj [.lit (.int .i64 0), .lit (.int .i64 0)] 226) fun x6_18 T6 n6 =>
  stAK 830038 T6 x6_18 x35_17 2 fun T7 =>
  lenSK 830041 y5 fun x38_19 =>
  subK Tryz.prog 3 (.tmp 38) (.const (.int .i64 (.ofNat 1))) 830042 x38_19 (.lit (.int .i64 (.ofNat 1))) fun x39_20 =>
  cutHiK 830043 T7 ro y5 x39_20 fun x40_21 =>
  faK 830045 x6_18 0 fun x42_22 =>
  ldK 830046 T7 ro x42_22 fun x43_23 =>
  lenSK 830048 y3 fun x45_24 =>
  geK Tryz.prog 3 (.tmp 43) (.tmp 45) 830049 x43_23 x45_24 fun x46_25 =>
  condK 830051 x46_25
  (
   .bad 830052
  )
  (
   faK 830054 x6_18 0 fun x49_26 =>
   ldK 830055 T7 ro x49_26 fun x50_27 =>
   iaK 830056 y3 x50_27 1 fun x51_28 =>
   ldK 830057 T7 ro x51_28 fun x52_29 =>
   faK 830058 x6_18 1 fun x53_30 =>
   ldK 830059 T7 ro x53_30 fun x54_31 =>
   eqK Tryz.prog 3 (.tmp 52) (.tmp 54) 830060 x52_29 x54_31 fun x55_32 =>
   condK 830062 x55_32
   (
    lp2 y0 y2 y3 x40_21 T7 n6
   )
   (
    faK 830064 x6_18 0 fun x58_33 =>
    ldK 830065 T7 ro x58_33 fun x59_34 =>
    iaK 830066 y3 x59_34 1 fun x60_35 =>
    ldK 830067 T7 ro x60_35 fun x61_36 =>
    geK Tryz.prog 3 (.tmp 61) (.const (.int .i64 (.ofNat 0))) 830068 x61_36 (.lit (.int .i64 (.ofNat 0))) fun x62_37 =>
    condK 830070 x62_37
    (
     .bad 830071
    )
    (
     faK 830073 x6_18 0 fun x64_38 =>
     ldK 830074 T7 ro x64_38 fun x65_39 =>
     faK 830075 x6_18 1 fun x66_40 =>
     ldK 830076 T7 ro x66_40 fun x67_41 =>
     iaK 830077 y3 x65_39 1 fun x68_42 =>
     stK 830078 T7 x68_42 x67_41 fun T8 =>
     ldAK 830080 T8 ro x6_18 2 fun x71_43 =>
     callK (g114 ro y0 x71_43 T8 n6) fun x72_44 T9 n9 =>
     exK 830083 x72_44 0 fun x73_45 =>
     exK 830084 x72_44 1 fun x74_46 =>
     notK 830088 x74_46 fun x76_47 =>
     condK 830089 x76_47
     (
      .bad 830090
     )
     (
      shrK 830094 T9 x40_21 fun T10 =>
      appEK 830093 T10 ro n9 226 2 16 x40_21 x73_45 fun x79_48 T11 n11 =>
      lp2 y0 y2 y3 x79_48 T11 n11
     )
    )
   )
  )
 )
 (
  .ok (.val (.lit (.bool true))) T5 n5
 )
noncomputable def g83_b1 (ro : List HT) (lp1 : AV → AV → AV → AV → AV → HT → Nat → R) (y0 y2 y3 y17 y18 : AV) (T2 : HT) (n2 : Nat) : R :=
 ltK Tryz.prog 3 (.tmp 18) (.tmp 17) 830013 y18 y17 fun x19_7 =>
 condK 830014 x19_7
 (
  iaK 830019 y3 y18 1 fun x23_8 =>
  stK 830020 T2 x23_8 (.lit (.int .i64 (.negSucc 0))) fun T3 =>
  addK Tryz.prog 3 (.tmp 18) (.const (.int .i64 (.ofNat 1))) 830021 y18 (.lit (.int .i64 (.ofNat 1))) fun x24_9 =>
  lp1 y0 y2 y3 y17 x24_9 T3 n2
 )
 (
  optK 830023 (bld226 []) fun x25_10 =>
  bsK 830024 T2 n2 1 226 2 [(0, x25_10)] fun x26_11 T4 n4 =>
  lpf4 830026 (g83_b2 ro) 100000 y0 y2 y3 x26_11 T4 n4
 )
noncomputable def g83 (ro : List HT) (a0 : AV) (T : HT) (nx : Nat) : R :=
 faK 830003 a0 4 fun x11_1 =>
 faK 830004 x11_1 5 fun x12_2 =>
 ldK 830005 T ro x12_2 fun x13_3 =>
 lenSK 830006 x13_3 fun x14_4 =>
 mkK 830007 T nx 3 8 (.lit (.int .i64 0)) x14_4 fun x15_5 T1 n1 =>
 lenSK 830010 x15_5 fun x17_6 =>
 lpf5 830012 (g83_b1 ro) 100000 a0 (.lit (.bool false)) x15_5 x17_6 (.lit (.int .i64 (.ofNat 0))) T1 n1
theorem g83_ok (ro : List HT) (a0 : AV) (T : HT) (nx : Nat) : GOk Tryz.prog envE 83 [a0] ro T nx (g83 ro a0 T nx) := by
 refine GOk.of_body Tryz.func83 rfl Tryz.ntmps83 (by kernel_rfl) rfl fun r T' n' h1 w0 base ρ0 its hS hP => ?_
 have X : CtxW envE ρ0 ro r T' n' := trivial
 unfold g83 at h1
 refine sr ?_
 refine as_ ?_
 refine dn ?_
 refine sr ?_
 refine mv ?_
 refine fa2 h1 Cnf.fo179_1 fun x11_1 h2 => ?_
 refine vy (V.fa h2 rfl Cnf.fo175_5) fun x12_2 h3 => ?_
 refine vy (V.ld hS h3 rfl Cnf.one161) fun x13_3 h4 => ?_
 refine vy (V.lenS h4 rfl Cnf.ls161) fun x14_4 h5 => ?_
 refine LV.mk hS h5 rfl rfl rfl Cnf.el170 rfl rfl rfl rfl fun x15_5 T1 n1 h6 ρ its hS hdr => ?_
 refine as_ ?_
 refine dn ?_
 refine CV.seq ?_
 refine sr ?_
 refine mv ?_
 refine vy (V.lenS h6 rfl Cnf.ls170) fun x17_6 h7 => ?_
 refine mv ?_
 refine dn ?_
 refine CV.block ?_
 refine cl5 X 0 2 3 17 18 [] hS h7 ⟨rfl, rfl, rfl, rfl, rfl, trivial⟩ ?_
 intro f1 y0 y2 y3 y17 y18 T2 n2 ρ its hS h8
 unfold g83_b1 at h8
 clear h1 h2 h3 h4 h5 h6 h7
 refine sr ?_
 refine vy (V.lt h8 rfl rfl) fun x19_7 h9 => ?_
 refine dn ?_
 refine CV.seq ?_
 refine CV.cond h9 rfl (fun e h10 => ?_) (fun e h10 => ?_)
 ·
  clear h8 h9
  subst e
  refine CV.skip ?_
  refine PV.thenN ?_
  refine CV.seq ?_
  refine CV.block ?_
  refine sr ?_
  refine mv ?_
  refine as_ ?_
  refine dn ?_
  refine CV.region ?_
  refine mv ?_
  refine mv ?_
  refine vy (V.ia h10 rfl rfl Cnf.el170) fun x23_8 h11 => ?_
  refine LV.st hS h11 rfl rfl rfl Cnf.siz3 rfl rfl fun T3 its h12 hS => ?_
  refine LV.done ?_
  refine PV.blockN ?_
  refine PV.thenN ?_
  refine CV.region ?_
  refine vy (V.add h12 rfl rfl) fun x24_9 h13 => ?_
  refine mv ?_
  refine LV.done ?_
  exact pb5 hS h13 ⟨rfl, rfl, rfl, rfl, rfl, trivial⟩
 ·
  clear h8 h9
  subst e
  refine CV.exit ?_
  refine PV.thenE ?_
  refine PV.thenE ?_
  refine PV.blockE ?_
  refine PV.thenN ?_
  refine sr ?_
  refine vy (V.bld h10 rfl) fun x25_10 h14 => ?_
  refine LV.bslice hS h14 rfl rfl Cnf.el227 rfl rfl rfl rfl fun x26_11 T4 n4 h15 ρ its hS hdr => ?_
  refine as_ ?_
  refine dn ?_
  refine CV.seq ?_
  refine CV.block ?_
  refine cl4 X 0 2 3 5 [] hS h15 ⟨rfl, rfl, rfl, rfl, trivial⟩ ?_
  intro f2 y0 y2 y3 y5 T5 n5 ρ its hS h16
  unfold g83_b2 at h16
  clear h10 h14 h15
  refine CV.seq ?_
  refine sr ?_
  refine mv ?_
  refine vy (V.lenS h16 rfl Cnf.ls227) fun x28_12 h17 => ?_
  refine vy (V.gt h17 rfl rfl) fun x29_13 h18 => ?_
  refine dn ?_
  refine CV.cond h18 rfl (fun e h19 => ?_) (fun e h19 => ?_)
  ·
   clear h16 h17 h18
   subst e
   refine CV.skip ?_
   refine PV.thenN ?_
   refine CV.block ?_
   refine sr ?_
   refine mv ?_
   refine mv ?_
   refine vy (V.lenS h19 rfl Cnf.ls227) fun x32_14 h20 => ?_
   refine vy (V.sub h20 rfl rfl) fun x33_15 h21 => ?_
   refine vy (V.ia h21 rfl rfl Cnf.el227) fun x34_16 h22 => ?_
   refine vy (V.ldA hS h22 rfl Cnf.agg226) fun x35_17 h23 => ?_
   refine LV.alloc hS h23 rfl Cnf.zr226 rfl rfl rfl fun x6_18 T6 n6 h24 ρ its hS hdr => ?_
   refine LV.stA hS h24 rfl rfl rfl Cnf.agg226 rfl rfl rfl fun T7 its h25 hS => ?_
   refine dn ?_
   refine sr ?_
   refine mv ?_
   refine mv ?_
   refine vy (V.lenS h25 rfl Cnf.ls227) fun x38_19 h26 => ?_
   refine vy (V.sub h26 rfl rfl) fun x39_20 h27 => ?_
   refine vy (V.cutHi hS h27 rfl rfl Cnf.el227) fun x40_21 h28 => ?_
   refine as_ ?_
   refine dn ?_
   refine CV.seq ?_
   refine CV.block ?_
   refine sr ?_
   refine vy (V.fa h28 rfl Cnf.fo226_0) fun x42_22 h29 => ?_
   refine vy (V.ld hS h29 rfl Cnf.one3) fun x43_23 h30 => ?_
   refine mv ?_
   refine vy (V.lenS h30 rfl Cnf.ls170) fun x45_24 h31 => ?_
   refine vy (V.ge h31 rfl rfl) fun x46_25 h32 => ?_
   refine as_ ?_
   refine dn ?_
   refine CV.cond h32 rfl (fun e h33 => ?_) (fun e h33 => ?_)
   ·
    clear h19 h20 h21 h22 h23 h24 h25 h26 h27 h28 h29 h30 h31 h32
    subst e
    cases h33
   ·
    clear h19 h20 h21 h22 h23 h24 h25 h26 h27 h28 h29 h30 h31 h32
    subst e
    refine CV.seq ?_
    refine CV.regionM [(0, .anywhere), (1, .anywhere), (2, .held), (3, .held), (4, .held), (5, .anywhere), (6, .held), (7, .held), (8, .held)] rfl (fun c a a' w hd hq => PanicOk.root (P := Tryz.prog) (fn := Tryz.f83) (w0 := w0) (base := base) (E := envE) (ro := ro) (r := r) (T' := T') (n' := n') (ρ0 := ρ0) c a a' w hd hq) (by kernel_rfl) ?_
    refine MV.step0 (i := 0) rfl (VAL.move rfl) rfl rfl rfl ?_
    refine MV.lift0 (i := 1) rfl (V.fa h33 rfl Cnf.fo226_0) rfl rfl rfl fun x49_26 h34 => ?_
    refine MV.lift1 (i := 2) rfl (fun _ z => z) (V.ld hS h34 rfl Cnf.one3) rfl rfl rfl [] (by kernel_rfl) fun x50_27 h35 => ?_
    refine MV.lift1 (i := 3) rfl (fun _ z => z) (V.ia h35 rfl rfl Cnf.el170) rfl rfl rfl [] (by kernel_rfl) fun x51_28 h36 => ?_
    refine MV.lift1 (i := 4) rfl (fun _ z => z) (V.ld hS h36 rfl Cnf.one3) rfl rfl rfl [] (by kernel_rfl) fun x52_29 h37 => ?_
    refine MV.lift0 (i := 5) rfl (V.fa h37 rfl Cnf.fo226_1) rfl rfl rfl fun x53_30 h38 => ?_
    refine MV.lift1 (i := 6) rfl (fun _ z => z) (V.ld hS h38 rfl Cnf.one3) rfl rfl rfl [4] (by kernel_rfl) fun x54_31 h39 => ?_
    refine MV.lift1 (i := 7) rfl (fun _ z => z) (V.eq h39 rfl rfl) rfl rfl rfl [] (by kernel_rfl) fun x55_32 h40 => ?_
    refine MV.step1 (i := 8) rfl (fun _ z => z) (VAL.assign rfl) rfl rfl rfl [] (by kernel_rfl) ?_
    refine mdn ?_
    refine CV.cond h40 rfl (fun e h41 => ?_) (fun e h41 => ?_)
    ·
     clear h33 h34 h35 h36 h37 h38 h39 h40
     subst e
     refine CV.exit ?_
     refine PV.blockO rfl ?_
     refine PV.thenE ?_
     refine PV.blockE ?_
     exact pb4 hS h41 ⟨rfl, rfl, rfl, rfl, trivial⟩
    ·
     clear h33 h34 h35 h36 h37 h38 h39 h40
     subst e
     refine sr ?_
     refine mv ?_
     refine vy (V.fa h41 rfl Cnf.fo226_0) fun x58_33 h42 => ?_
     refine vy (V.ld hS h42 rfl Cnf.one3) fun x59_34 h43 => ?_
     refine vy (V.ia h43 rfl rfl Cnf.el170) fun x60_35 h44 => ?_
     refine vy (V.ld hS h44 rfl Cnf.one3) fun x61_36 h45 => ?_
     refine vy (V.ge h45 rfl rfl) fun x62_37 h46 => ?_
     refine as_ ?_
     refine dn ?_
     refine CV.cond h46 rfl (fun e h47 => ?_) (fun e h47 => ?_)
     ·
      clear h41 h42 h43 h44 h45 h46
      subst e
      cases h47
     ·
      clear h41 h42 h43 h44 h45 h46
      subst e
      refine CV.skip ?_
      refine PV.blockN ?_
      refine PV.thenN ?_
      refine sr ?_
      refine mv ?_
      refine vy (V.fa h47 rfl Cnf.fo226_0) fun x64_38 h48 => ?_
      refine vy (V.ld hS h48 rfl Cnf.one3) fun x65_39 h49 => ?_
      refine vy (V.fa h49 rfl Cnf.fo226_1) fun x66_40 h50 => ?_
      refine vy (V.ld hS h50 rfl Cnf.one3) fun x67_41 h51 => ?_
      refine vy (V.ia h51 rfl rfl Cnf.el170) fun x68_42 h52 => ?_
      refine LV.st hS h52 rfl rfl rfl Cnf.siz3 rfl rfl fun T8 its h53 hS => ?_
      refine dn ?_
      refine sr ?_
      refine mv ?_
      refine vy (V.ldA hS h53 rfl Cnf.agg226) fun x71_43 h54 => ?_
      refine LV.call hS h54 (g114_ok _ _ _ _ _ ) hP rfl rfl rfl rfl fun x72_44 T9 n9 h55 ρ its hS => ?_
      refine mv ?_
      refine vy (V.ex h55 rfl) fun x73_45 h56 => ?_
      refine vy (V.ex h56 rfl) fun x74_46 h57 => ?_
      refine as_ ?_
      refine as_ ?_
      refine dn ?_
      refine CV.seq ?_
      refine sr ?_
      refine mv ?_
      refine vy (V.not h57 rfl) fun x76_47 h58 => ?_
      refine dn ?_
      refine CV.cond h58 rfl (fun e h59 => ?_) (fun e h59 => ?_)
      ·
       clear h47 h48 h49 h50 h51 h52 h53 h54 h55 h56 h57 h58
       subst e
       cases h59
      ·
       clear h47 h48 h49 h50 h51 h52 h53 h54 h55 h56 h57 h58
       subst e
       refine CV.skip ?_
       refine PV.thenN ?_
       refine CV.region ?_
       refine mv ?_
       refine mv ?_
       obtain ⟨T10, its1, h60, hS, hW⟩ := shrK_inv hS h59
       refine LV.world hW ?_
       refine LV.appE hS h60 rfl rfl rfl rfl Cnf.el227 rfl rfl rfl fun x79_48 T11 n11 h61 ρ its hS => ?_
       refine as_ ?_
       refine LV.done ?_
       refine PV.blockN ?_
       exact pb4 hS h61 ⟨rfl, rfl, rfl, rfl, trivial⟩
  ·
   clear h16 h17 h18
   subst e
   refine CV.exit ?_
   refine PV.thenE ?_
   refine PV.thenE ?_
   refine PV.blockE ?_
   refine PV.thenN ?_
   refine sr ?_
   refine as_ ?_
   refine dn ?_
   refine CV.ret ?_
   cases h19
   exact PV.ret (by simp) Tryz.results83 hS (RS.tmp rfl RS.nil) rfl
noncomputable def g45_b2 (ro : List HT) (lp2 : AV → AV → AV → AV → AV → AV → HT → Nat → R) (y2 y3 y4 y32 y33 y34 : AV) (T9 : HT) (n9 : Nat) : R :=
 ltK Tryz.prog 3 (.tmp 34) (.tmp 33) 450039 y34 y33 fun x35_24 =>
 condK 450040 x35_24
 (
  iaK 450041 y32 y34 6 fun x36_25 =>
  ldAK 450042 T9 ro x36_25 6 fun x37_26 =>
  newK T9 n9 (.obj [.lit (.string ⟨#[]⟩), .lit (.int .i64 0), .lit (.int .i64 0), .lit (.int .i64 0), .lit (.slice none 0 0), .lit (.slice none 0 0)] 175) fun x8_27 T10 n10 =>
  stAK 450044 T10 x8_27 x37_26 6 fun T11 =>
  ldK 450045 T11 ro y3 fun x38_28 =>
  ldAK 450046 T11 ro x8_27 6 fun x39_29 =>
  faK 450047 x38_28 4 fun x41_30 =>
  stAK 450048 T11 x41_30 x39_29 6 fun T12 =>
  faK 450049 x8_27 5 fun x42_31 =>
  ldK 450050 T12 ro x42_31 fun x43_32 =>
  callK (g80 ro x43_32 (.fn (.func 81) [] [y3]) T12 n10) fun x45_33 T13 n13 =>
  geK Tryz.prog 3 (.tmp 46) (.const (.int .i64 (.ofNat 0))) 450055 x45_33 (.lit (.int .i64 (.ofNat 0))) fun x47_34 =>
  condK 450056 x47_34
  (
   .bad 450057
  )
  (
   ldK 450058 T13 ro y3 fun x52_35 =>
   callK (g83 ro x52_35 T13 n13) fun x53_36 T14 n14 =>
   notK 450060 x53_36 fun x54_37 =>
   condK 450061 x54_37
   (
    .bad 450062
   )
   (
    faK 450064 x8_27 5 fun x58_38 =>
    ldK 450065 T14 ro x58_38 fun x59_39 =>
    lenSK 450066 x59_39 fun x60_40 =>
    addK Tryz.prog 3 (.tmp 57) (.tmp 60) 450067 y4 x60_40 fun x61_41 =>
    addK Tryz.prog 3 (.tmp 34) (.const (.int .i64 (.ofNat 1))) 450069 y34 (.lit (.int .i64 (.ofNat 1))) fun x62_42 =>
    lp2 y2 y3 x61_41 y32 y33 x62_42 T14 n14
   )
  )
 )
 (
  .ok (.val (.lit (.nilIface))) T9 n9
 )
noncomputable def g45_b1 (ro : List HT) (lp1 : AV → AV → AV → AV → AV → AV → AV → HT → Nat → R) (y1 y2 y3 y4 y14 y15 y16 : AV) (T5 : HT) (n5 : Nat) : R :=
 ltK Tryz.prog 3 (.tmp 16) (.tmp 15) 450014 y16 y15 fun x17_9 =>
 condK 450015 x17_9
 (
  iaK 450016 y14 y16 6 fun x18_10 =>
  ldAK 450017 T5 ro x18_10 6 fun x19_11 =>
  newK T5 n5 (.obj [.lit (.string ⟨#[]⟩), .lit (.int .i64 0), .lit (.int .i64 0), .lit (.int .i64 0), .lit (.slice none 0 0), .lit (.slice none 0 0)] 175) fun x6_12 T6 n6 =>
  stAK 450019 T6 x6_12 x19_11 6 fun T7 =>
  faK 450021 x6_12 5 fun x21_13 =>
  ldK 450022 T7 ro x21_13 fun x22_14 =>
  lenSK 450023 x22_14 fun x23_15 =>
  addK Tryz.prog 3 (.tmp 20) (.tmp 23) 450024 y4 x23_15 fun x24_16 =>
  addK Tryz.prog 3 (.tmp 16) (.const (.int .i64 (.ofNat 1))) 450026 y16 (.lit (.int .i64 (.ofNat 1))) fun x25_17 =>
  lp1 y1 y2 y3 x24_16 y14 y15 x25_17 T7 n6
 )
 (
  ldK 450028 T5 ro y3 fun x26_18 =>
  callK (g78 ro x26_18 T5 n5) fun x27_19 T8 n8 =>
  notK 450030 x27_19 fun x28_20 =>
  condK 450031 x28_20
  (
   .bad 450032
  )
  (
   faK 450034 y1 0 fun x31_21 =>
   ldK 450035 T8 ro x31_21 fun x32_22 =>
   lenSK 450036 x32_22 fun x33_23 =>
   lpf6 450038 (g45_b2 ro) 100000 y2 y3 (.lit (.int .i64 (.ofNat 0))) x32_22 x33_23 (.lit (.int .i64 (.ofNat 0))) T8 n8
  )
 )
noncomputable def g45 (ro : List HT) (a0 : AV) (T : HT) (nx : Nat) : R :=
 boxK 450001 T nx a0 114 fun x1_1 T1 n1 =>
 ldAK 450003 T1 ro x1_1 4 fun x10_2 =>
 optK 450004 (bld179 [(0, x10_2)]) fun x11_3 =>
 boxK 450005 T1 n1 x11_3 179 fun x12_4 T2 n2 =>
 newK T2 n2 (.obj [.lit (.pointer none)] 177) fun x3_5 T3 n3 =>
 stK 450007 T3 x3_5 x12_4 fun T4 =>
 faK 450009 x1_1 0 fun x13_6 =>
 ldK 450010 T4 ro x13_6 fun x14_7 =>
 lenSK 450011 x14_7 fun x15_8 =>
 lpf7 450013 (g45_b1 ro) 100000 x1_1 (.lit (.nilIface)) x3_5 (.lit (.int .i64 (.ofNat 0))) x14_7 x15_8 (.lit (.int .i64 (.ofNat 0))) T4 n3
theorem g45_ok (ro : List HT) (a0 : AV) (T : HT) (nx : Nat) : GOk Tryz.prog envE 45 [a0] ro T nx (g45 ro a0 T nx) := by
 refine GOk.of_body Tryz.func45 rfl Tryz.ntmps45 (by kernel_rfl) rfl fun r T' n' h1 w0 base ρ0 its hS hP => ?_
 have X : CtxW envE ρ0 ro r T' n' := trivial
 unfold g45 at h1
 refine sr ?_
 refine LV.box hS h1 rfl rfl rfl rfl rfl fun x1_1 T1 n1 h2 ρ its hS hdr => ?_
 refine as_ ?_
 refine dn ?_
 refine sr ?_
 refine vy (V.ldA hS h2 rfl Cnf.agg114) fun x10_2 h3 => ?_
 refine vy (V.bld h3 rfl) fun x11_3 h4 => ?_
 refine LV.box hS h4 rfl rfl rfl rfl rfl fun x12_4 T2 n2 h5 ρ its hS hdr => ?_
 refine LV.alloc hS h5 rfl Cnf.zr177 rfl rfl rfl fun x3_5 T3 n3 h6 ρ its hS hdr => ?_
 refine LV.st hS h6 rfl rfl rfl Cnf.siz177 rfl rfl fun T4 its h7 hS => ?_
 refine dn ?_
 refine sr ?_
 refine as_ ?_
 refine dn ?_
 refine CV.seq ?_
 refine sr ?_
 refine vy (V.fa h7 rfl Cnf.fo114_0) fun x13_6 h8 => ?_
 refine vy (V.ld hS h8 rfl Cnf.one112) fun x14_7 h9 => ?_
 refine vy (V.lenS h9 rfl Cnf.ls112) fun x15_8 h10 => ?_
 refine mv ?_
 refine dn ?_
 refine CV.block ?_
 refine cl7 X 1 2 3 4 14 15 16 [] hS h10 ⟨rfl, rfl, rfl, rfl, rfl, rfl, rfl, trivial⟩ ?_
 intro f1 y1 y2 y3 y4 y14 y15 y16 T5 n5 ρ its hS h11
 unfold g45_b1 at h11
 clear h1 h2 h3 h4 h5 h6 h7 h8 h9 h10
 refine sr ?_
 refine vy (V.lt h11 rfl rfl) fun x17_9 h12 => ?_
 refine dn ?_
 refine CV.seq ?_
 refine CV.cond h12 rfl (fun e h13 => ?_) (fun e h13 => ?_)
 ·
  clear h11 h12
  subst e
  refine CV.skip ?_
  refine PV.thenN ?_
  refine CV.seq ?_
  refine CV.block ?_
  refine sr ?_
  refine vy (V.ia h13 rfl rfl Cnf.el112) fun x18_10 h14 => ?_
  refine vy (V.ldA hS h14 rfl Cnf.agg175) fun x19_11 h15 => ?_
  refine LV.alloc hS h15 rfl Cnf.zr175 rfl rfl rfl fun x6_12 T6 n6 h16 ρ its hS hdr => ?_
  refine LV.stA hS h16 rfl rfl rfl Cnf.agg175 rfl rfl rfl fun T7 its h17 hS => ?_
  refine dn ?_
  refine CV.region ?_
  refine mv ?_
  refine vy (V.fa h17 rfl Cnf.fo175_5) fun x21_13 h18 => ?_
  refine vy (V.ld hS h18 rfl Cnf.one161) fun x22_14 h19 => ?_
  refine vy (V.lenS h19 rfl Cnf.ls161) fun x23_15 h20 => ?_
  refine vy (V.add h20 rfl rfl) fun x24_16 h21 => ?_
  refine as_ ?_
  refine LV.done ?_
  refine PV.blockN ?_
  refine PV.thenN ?_
  refine CV.region ?_
  refine vy (V.add h21 rfl rfl) fun x25_17 h22 => ?_
  refine mv ?_
  refine LV.done ?_
  exact pb7 hS h22 ⟨rfl, rfl, rfl, rfl, rfl, rfl, rfl, trivial⟩
 ·
  clear h11 h12
  subst e
  refine CV.exit ?_
  refine PV.thenE ?_
  refine PV.thenE ?_
  refine PV.blockE ?_
  refine PV.thenN ?_
  refine CV.seq ?_
  refine sr ?_
  refine vy (V.ld hS h13 rfl Cnf.one177) fun x26_18 h23 => ?_
  refine LV.call hS h23 (g78_ok _ _ _ _ ) hP rfl rfl rfl rfl fun x27_19 T8 n8 h24 ρ its hS => ?_
  refine vy (V.not h24 rfl) fun x28_20 h25 => ?_
  refine dn ?_
  refine CV.cond h25 rfl (fun e h26 => ?_) (fun e h26 => ?_)
  ·
   clear h13 h23 h24 h25
   subst e
   cases h26
  ·
   clear h13 h23 h24 h25
   subst e
   refine CV.skip ?_
   refine PV.thenN ?_
   refine sr ?_
   refine as_ ?_
   refine dn ?_
   refine CV.seq ?_
   refine sr ?_
   refine vy (V.fa h26 rfl Cnf.fo114_0) fun x31_21 h27 => ?_
   refine vy (V.ld hS h27 rfl Cnf.one112) fun x32_22 h28 => ?_
   refine vy (V.lenS h28 rfl Cnf.ls112) fun x33_23 h29 => ?_
   refine mv ?_
   refine dn ?_
   refine CV.block ?_
   refine cl6 X 2 3 4 32 33 34 [] hS h29 ⟨rfl, rfl, rfl, rfl, rfl, rfl, trivial⟩ ?_
   intro f2 y2 y3 y4 y32 y33 y34 T9 n9 ρ its hS h30
   unfold g45_b2 at h30
   clear h26 h27 h28 h29
   refine sr ?_
   refine vy (V.lt h30 rfl rfl) fun x35_24 h31 => ?_
   refine dn ?_
   refine CV.seq ?_
   refine CV.cond h31 rfl (fun e h32 => ?_) (fun e h32 => ?_)
   ·
    clear h30 h31
    subst e
    refine CV.skip ?_
    refine PV.thenN ?_
    refine CV.seq ?_
    refine CV.block ?_
    refine sr ?_
    refine vy (V.ia h32 rfl rfl Cnf.el112) fun x36_25 h33 => ?_
    refine vy (V.ldA hS h33 rfl Cnf.agg175) fun x37_26 h34 => ?_
    refine LV.alloc hS h34 rfl Cnf.zr175 rfl rfl rfl fun x8_27 T10 n10 h35 ρ its hS hdr => ?_
    refine LV.stA hS h35 rfl rfl rfl Cnf.agg175 rfl rfl rfl fun T11 its h36 hS => ?_
    refine dn ?_
    refine sr ?_
    refine vy (V.ld hS h36 rfl Cnf.one177) fun x38_28 h37 => ?_
    refine vy (V.ldA hS h37 rfl Cnf.agg175) fun x39_29 h38 => ?_
    refine fa2 h38 Cnf.fo179_1 fun x41_30 h39 => ?_
    refine LV.stA hS h39 rfl rfl rfl Cnf.agg175 rfl rfl rfl fun T12 its h40 hS => ?_
    refine dn ?_
    refine CV.seq ?_
    refine sr ?_
    refine vy (V.fa h40 rfl Cnf.fo175_5) fun x42_31 h41 => ?_
    refine vy (V.ld hS h41 rfl Cnf.one161) fun x43_32 h42 => ?_
    refine pu ?_
    refine LV.call hS h42 (g80_ok _ _ _ _ _ ) hP rfl rfl rfl rfl fun x45_33 T13 n13 h43 ρ its hS => ?_
    refine as_ ?_
    refine dn ?_
    refine sr ?_
    refine mv ?_
    refine vy (V.ge h43 rfl rfl) fun x47_34 h44 => ?_
    refine dn ?_
    refine CV.cond h44 rfl (fun e h45 => ?_) (fun e h45 => ?_)
    ·
     clear h32 h33 h34 h35 h36 h37 h38 h39 h40 h41 h42 h43 h44
     subst e
     cases h45
    ·
     clear h32 h33 h34 h35 h36 h37 h38 h39 h40 h41 h42 h43 h44
     subst e
     refine CV.skip ?_
     refine PV.thenN ?_
     refine CV.seq ?_
     refine sr ?_
     refine vy (V.ld hS h45 rfl Cnf.one177) fun x52_35 h46 => ?_
     refine LV.call hS h46 (g83_ok _ _ _ _ ) hP rfl rfl rfl rfl fun x53_36 T14 n14 h47 ρ its hS => ?_
     refine vy (V.not h47 rfl) fun x54_37 h48 => ?_
     refine dn ?_
     refine CV.cond h48 rfl (fun e h49 => ?_) (fun e h49 => ?_)
     ·
      clear h45 h46 h47 h48
      subst e
      cases h49
     ·
      clear h45 h46 h47 h48
      subst e
      refine CV.skip ?_
      refine PV.thenN ?_
      refine CV.region ?_
      refine mv ?_
      refine vy (V.fa h49 rfl Cnf.fo175_5) fun x58_38 h50 => ?_
      refine vy (V.ld hS h50 rfl Cnf.one161) fun x59_39 h51 => ?_
      refine vy (V.lenS h51 rfl Cnf.ls161) fun x60_40 h52 => ?_
      refine vy (V.add h52 rfl rfl) fun x61_41 h53 => ?_
      refine as_ ?_
      refine LV.done ?_
      refine PV.blockN ?_
      refine PV.thenN ?_
      refine CV.region ?_
      refine vy (V.add h53 rfl rfl) fun x62_42 h54 => ?_
      refine mv ?_
      refine LV.done ?_
      exact pb6 hS h54 ⟨rfl, rfl, rfl, rfl, rfl, rfl, trivial⟩
   ·
    clear h30 h31
    subst e
    refine CV.exit ?_
    refine PV.thenE ?_
    refine PV.thenE ?_
    refine PV.blockE ?_
    refine PV.thenN ?_
    refine sr ?_
    refine as_ ?_
    refine dn ?_
    refine CV.ret ?_
    cases h32
    exact PV.ret (by simp) Tryz.results45 hS (RS.tmp rfl RS.nil) rfl
noncomputable def g46_b1 (ro : List HT) (lp1 : AV → AV → AV → AV → HT → Nat → R) (y0 y1 y4 y5 : AV) (T1 : HT) (n1 : Nat) : R :=
 lenSK 460013 y0 fun x14_4 =>
 ltK Tryz.prog 3 (.tmp 12) (.tmp 14) 460014 y5 x14_4 fun x15_5 =>
 condK 460015 x15_5
 (
  iaK 460018 y0 y5 1 fun x20_6 =>
  ldK 460019 T1 ro x20_6 fun x21_7 =>
  iaK 460022 y1 y5 1 fun x24_8 =>
  ldK 460023 T1 ro x24_8 fun x25_9 =>
  eqSK Tryz.prog 9 (.tmp 21) (.tmp 25) 460024 x21_7 x25_9 fun x26_10 =>
  notK 460027 x26_10 fun x28_11 =>
  condK 460028 x28_11
  (
   .bad 460029
  )
  (
   addK Tryz.prog 3 (.tmp 16) (.const (.int .i64 (.ofNat 1))) 460031 y5 (.lit (.int .i64 (.ofNat 1))) fun x17_12 =>
   lp1 y0 y1 y4 x17_12 T1 n1
  )
 )
 (
  .ok (.val (.lit (.bool true))) T1 n1
 )
noncomputable def g46 (ro : List HT) (a0 a1 : AV) (T : HT) (nx : Nat) : R :=
 lenSK 460003 a0 fun x8_1 =>
 lenSK 460005 a1 fun x10_2 =>
 neK Tryz.prog 3 (.tmp 8) (.tmp 10) 460006 x8_1 x10_2 fun x11_3 =>
 condK 460007 x11_3
 (
  .bad 460008
 )
 (
  lpf4 460010 (g46_b1 ro) 100000 a0 a1 (.lit (.bool false)) (.lit (.int .i64 (.ofNat 0))) T nx
 )
theorem g46_ok (ro : List HT) (a0 a1 : AV) (T : HT) (nx : Nat) : GOk Tryz.prog envE 46 [a0, a1] ro T nx (g46 ro a0 a1 T nx) := by
 refine GOk.of_body Tryz.func46 rfl Tryz.ntmps46 (by kernel_rfl) rfl fun r T' n' h1 w0 base ρ0 its hS hP => ?_
 have X : CtxW envE ρ0 ro r T' n' := trivial
 unfold g46 at h1
 refine sr ?_
 refine as_ ?_
 refine dn ?_
 refine CV.seq ?_
 refine sr ?_
 refine mv ?_
 refine vy (V.lenS h1 rfl Cnf.ls54) fun x8_1 h2 => ?_
 refine mv ?_
 refine vy (V.lenS h2 rfl Cnf.ls54) fun x10_2 h3 => ?_
 refine vy (V.ne h3 rfl rfl) fun x11_3 h4 => ?_
 refine dn ?_
 refine CV.cond h4 rfl (fun e h5 => ?_) (fun e h5 => ?_)
 ·
  clear h1 h2 h3 h4
  subst e
  cases h5
 ·
  clear h1 h2 h3 h4
  subst e
  refine CV.skip ?_
  refine PV.thenN ?_
  refine CV.seq ?_
  refine sr ?_
  refine as_ ?_
  refine dn ?_
  refine CV.block ?_
  refine cl4 X 0 1 4 5 [] hS h5 ⟨rfl, rfl, rfl, rfl, trivial⟩ ?_
  intro f1 y0 y1 y4 y5 T1 n1 ρ its hS h6
  unfold g46_b1 at h6
  clear h5
  refine CV.seq ?_
  refine sr ?_
  refine mv ?_
  refine mv ?_
  refine vy (V.lenS h6 rfl Cnf.ls54) fun x14_4 h7 => ?_
  refine vy (V.lt h7 rfl rfl) fun x15_5 h8 => ?_
  refine dn ?_
  refine CV.cond h8 rfl (fun e h9 => ?_) (fun e h9 => ?_)
  ·
   clear h6 h7 h8
   subst e
   refine CV.skip ?_
   refine PV.thenN ?_
   refine CV.seq ?_
   refine CV.block ?_
   refine CV.seq ?_
   refine CV.regionM [(0, .anywhere), (1, .anywhere), (2, .anywhere), (3, .held), (4, .anywhere), (5, .anywhere), (6, .anywhere), (7, .held), (8, .held), (9, .held)] rfl (fun c a a' w hd hq => PanicOk.root (P := Tryz.prog) (fn := Tryz.f46) (w0 := w0) (base := base) (E := envE) (ro := ro) (r := r) (T' := T') (n' := n') (ρ0 := ρ0) c a a' w hd hq) (by kernel_rfl) ?_
   refine MV.step0 (i := 0) rfl (VAL.move rfl) rfl rfl rfl ?_
   refine MV.step0 (i := 1) rfl (VAL.move rfl) rfl rfl rfl ?_
   refine MV.lift0 (i := 2) rfl (V.ia h9 rfl rfl Cnf.el54) rfl rfl rfl fun x20_6 h10 => ?_
   refine MV.lift1 (i := 3) rfl (fun _ z => z) (V.ld hS h10 rfl Cnf.one9) rfl rfl rfl [] (by kernel_rfl) fun x21_7 h11 => ?_
   refine MV.step0 (i := 4) rfl (VAL.move rfl) rfl rfl rfl ?_
   refine MV.step0 (i := 5) rfl (VAL.move rfl) rfl rfl rfl ?_
   refine MV.lift0 (i := 6) rfl (V.ia h11 rfl rfl Cnf.el54) rfl rfl rfl fun x24_8 h12 => ?_
   refine MV.lift1 (i := 7) rfl (fun _ z => z) (V.ld hS h12 rfl Cnf.one9) rfl rfl rfl [3] (by kernel_rfl) fun x25_9 h13 => ?_
   refine MV.lift1 (i := 8) rfl (fun _ z => z) (V.eqS h13 rfl rfl) rfl rfl rfl [] (by kernel_rfl) fun x26_10 h14 => ?_
   refine MV.step1 (i := 9) rfl (fun _ z => z) (VAL.assign rfl) rfl rfl rfl [] (by kernel_rfl) ?_
   refine mdn ?_
   refine sr ?_
   refine mv ?_
   refine vy (V.not h14 rfl) fun x28_11 h15 => ?_
   refine dn ?_
   refine CV.cond h15 rfl (fun e h16 => ?_) (fun e h16 => ?_)
   ·
    clear h9 h10 h11 h12 h13 h14 h15
    subst e
    cases h16
   ·
    clear h9 h10 h11 h12 h13 h14 h15
    subst e
    refine CV.skip ?_
    refine PV.blockN ?_
    refine PV.thenN ?_
    refine CV.region ?_
    refine mv ?_
    refine vy (V.add h16 rfl rfl) fun x17_12 h17 => ?_
    refine as_ ?_
    refine LV.done ?_
    exact pb4 hS h17 ⟨rfl, rfl, rfl, rfl, trivial⟩
  ·
   clear h6 h7 h8
   subst e
   refine CV.exit ?_
   refine PV.thenE ?_
   refine PV.thenE ?_
   refine PV.blockE ?_
   refine PV.thenN ?_
   refine sr ?_
   refine as_ ?_
   refine dn ?_
   refine CV.ret ?_
   cases h9
   exact PV.ret (by simp) Tryz.results46 hS (RS.tmp rfl RS.nil) rfl
noncomputable def g25_k4 (ro : List HT) (y40 : AV) (T8 : HT) (n8 : Nat) : R :=
 .ok (.val y40) T8 n8
noncomputable def g25_k3 (ro : List HT) (y3 y34 : AV) (T7 : HT) (n7 : Nat) : R :=
 condK 250027 y34
 (
  faK 250028 y3 2 fun x36_10 =>
  ldK 250029 T7 ro x36_10 fun x37_11 =>
  bsK 250030 T7 n7 1 9 1 [(0, (.lit (.string ⟨⟨[120]⟩⟩)))] fun x38_12 T9 n9 =>
  callK (g46 ro x37_11 x38_12 T9 n9) fun x39_13 T10 n10 =>
  g25_k4 ro x39_13 T10 n10
 )
 (
  g25_k4 ro (.lit (.bool false)) T7 n7
 )
noncomputable def g25_k2 (ro : List HT) (y3 y28 : AV) (T6 : HT) (n6 : Nat) : R :=
 condK 250034 y28
 (
  faK 250035 y3 1 fun x30_14 =>
  ldK 250036 T6 ro x30_14 fun x31_15 =>
  lenSK 250037 x31_15 fun x32_16 =>
  geK Tryz.prog 3 (.tmp 32) (.const (.int .i64 (.ofNat 1))) 250038 x32_16 (.lit (.int .i64 (.ofNat 1))) fun x33_17 =>
  g25_k3 ro y3 x33_17 T6 n6
 )
 (
  g25_k3 ro y3 (.lit (.bool false)) T6 n6
 )
noncomputable def g25_k1 (ro : List HT) (y3 y22 : AV) (T5 : HT) (n5 : Nat) : R :=
 condK 250041 y22
 (
  faK 250042 y3 0 fun x24_18 =>
  ldK 250043 T5 ro x24_18 fun x25_19 =>
  lenSK 250044 x25_19 fun x26_20 =>
  eqK Tryz.prog 3 (.tmp 26) (.const (.int .i64 (.ofNat 1))) 250045 x26_20 (.lit (.int .i64 (.ofNat 1))) fun x27_21 =>
  g25_k2 ro y3 x27_21 T5 n5
 )
 (
  g25_k2 ro y3 (.lit (.bool false)) T5 n5
 )
noncomputable def g25 (ro : List HT) (T : HT) (nx : Nat) : R :=
 callK (g43 ro (.lit (.string ⟨⟨[120, 32, 61, 32, 49]⟩⟩)) T nx) fun x6_1 T1 n1 =>
 exK 250004 x6_1 0 fun x7_2 =>
 exK 250005 x6_1 1 fun x8_3 =>
 bin0 Tryz.prog .neq 36 (.tmp 9) (.const (.nilIface)) 250009 x8_3 (.lit (.nilIface)) fun x10_4 =>
 condK 250010 x10_4
 (
  .bad 250011
 )
 (
  callK (g44 ro x7_2 (.lit (.slice none 0 0)) T1 n1) fun x13_5 T2 n2 =>
  exK 250015 x13_5 0 fun x14_6 =>
  exK 250016 x13_5 1 fun x15_7 =>
  newK T2 n2 (.obj [.lit (.slice none 0 0), .lit (.slice none 0 0), .lit (.slice none 0 0), .lit (.slice none 0 0)] 114) fun x3_8 T3 n3 =>
  stAK 250018 T3 x3_8 x14_6 4 fun T4 =>
  bin0 Tryz.prog .eql 36 (.tmp 16) (.const (.nilIface)) 250021 x15_7 (.lit (.nilIface)) fun x17_9 =>
  condK 250048 x17_9
  (
   ldAK 250049 T4 ro x3_8 4 fun x19_22 =>
   callK (g45 ro x19_22 T4 n3) fun x20_23 T11 n11 =>
   bin0 Tryz.prog .eql 36 (.tmp 20) (.const (.nilIface)) 250051 x20_23 (.lit (.nilIface)) fun x21_24 =>
   g25_k1 ro x3_8 x21_24 T11 n11
  )
  (
   g25_k1 ro x3_8 (.lit (.bool false)) T4 n3
  )
 )
theorem g25_ok (ro : List HT) (T : HT) (nx : Nat) : GOk Tryz.prog envE 25 [] ro T nx (g25 ro T nx) := by
 refine GOk.of_body Tryz.func25 rfl Tryz.ntmps25 (by kernel_rfl) rfl fun r T' n' h1 w0 base ρ0 its hS hP => ?_
 have X : CtxW envE ρ0 ro r T' n' := trivial
 unfold g25 at h1
 refine sr ?_
 refine as_ ?_
 refine dn ?_
 refine sr ?_
 refine LV.call hS h1 (g43_ok _ _ _ _ ) hP rfl rfl rfl rfl fun x6_1 T1 n1 h2 ρ its hS => ?_
 refine mv ?_
 refine vy (V.ex h2 rfl) fun x7_2 h3 => ?_
 refine vy (V.ex h3 rfl) fun x8_3 h4 => ?_
 refine as_ ?_
 refine as_ ?_
 refine dn ?_
 refine CV.seq ?_
 refine sr ?_
 refine mv ?_
 refine vy (V.bin0 h4 rfl rfl) fun x10_4 h5 => ?_
 refine dn ?_
 refine CV.cond h5 rfl (fun e h6 => ?_) (fun e h6 => ?_)
 ·
  clear h1 h2 h3 h4 h5
  subst e
  cases h6
 ·
  clear h1 h2 h3 h4 h5
  subst e
  refine CV.skip ?_
  refine PV.thenN ?_
  refine sr ?_
  refine mv ?_
  refine LV.call hS h6 (g44_ok _ _ _ _ _ ) hP rfl rfl rfl rfl fun x13_5 T2 n2 h7 ρ its hS => ?_
  refine mv ?_
  refine vy (V.ex h7 rfl) fun x14_6 h8 => ?_
  refine vy (V.ex h8 rfl) fun x15_7 h9 => ?_
  refine LV.alloc hS h9 rfl Cnf.zr114 rfl rfl rfl fun x3_8 T3 n3 h10 ρ its hS hdr => ?_
  refine LV.stA hS h10 rfl rfl rfl Cnf.agg114 rfl rfl rfl fun T4 its h11 hS => ?_
  refine as_ ?_
  refine dn ?_
  refine sr ?_
  refine mv ?_
  refine vy (V.bin0 h11 rfl rfl) fun x17_9 h12 => ?_
  refine mv ?_
  refine ls2 X 3 22 [(0, (.lit (.bool false)))] (g25_k1 ro) 4 ?_ ?_
  ·
   rcases condK_inv h12 with ⟨e, h32⟩ | ⟨e, h32⟩
   ·
    clear h6 h7 h8 h9 h10 h11 h12
    subst e
    refine vy (V.ldA hS h32 rfl Cnf.agg114) fun x19_22 h33 => ?_
    refine LV.call hS h33 (g45_ok _ _ _ _ ) hP rfl rfl rfl rfl fun x20_23 T11 n11 h34 ρ its hS => ?_
    refine vy (V.bin0 h34 rfl rfl) fun x21_24 h35 => ?_
    refine pu ?_
    exact la2 hS h35 ⟨rfl, rfl, rfl, trivial⟩
   ·
    clear h6 h7 h8 h9 h10 h11 h12
    subst e
    refine sk ?_
    refine sk ?_
    refine sk ?_
    refine pu ?_
    exact la2 hS h32 ⟨rfl, rfl, rfl, trivial⟩
  ·
   intro y3 y22 T5 n5 ρ its hS h13
   unfold g25_k1 at h13
   clear h6 h7 h8 h9 h10 h11 h12
   refine mv ?_
   refine ls2 X 3 28 [(0, (.lit (.bool false)))] (g25_k2 ro) 5 ?_ ?_
   ·
    rcases condK_inv h13 with ⟨e, h27⟩ | ⟨e, h27⟩
    ·
     clear h13
     subst e
     refine vy (V.fa h27 rfl Cnf.fo114_0) fun x24_18 h28 => ?_
     refine vy (V.ld hS h28 rfl Cnf.one112) fun x25_19 h29 => ?_
     refine vy (V.lenS h29 rfl Cnf.ls112) fun x26_20 h30 => ?_
     refine vy (V.eq h30 rfl rfl) fun x27_21 h31 => ?_
     refine pu ?_
     exact la2 hS h31 ⟨rfl, rfl, rfl, trivial⟩
    ·
     clear h13
     subst e
     refine sk ?_
     refine sk ?_
     refine sk ?_
     refine sk ?_
     refine pu ?_
     exact la2 hS h27 ⟨rfl, rfl, rfl, trivial⟩
   ·
    intro y3 y28 T6 n6 ρ its hS h14
    unfold g25_k2 at h14
    clear h13
    refine mv ?_
    refine ls2 X 3 34 [(0, (.lit (.bool false)))] (g25_k3 ro) 5 ?_ ?_
    ·
     rcases condK_inv h14 with ⟨e, h22⟩ | ⟨e, h22⟩
     ·
      clear h14
      subst e
      refine vy (V.fa h22 rfl Cnf.fo114_1) fun x30_14 h23 => ?_
      refine vy (V.ld hS h23 rfl Cnf.one109) fun x31_15 h24 => ?_
      refine vy (V.lenS h24 rfl Cnf.ls109) fun x32_16 h25 => ?_
      refine vy (V.ge h25 rfl rfl) fun x33_17 h26 => ?_
      refine pu ?_
      exact la2 hS h26 ⟨rfl, rfl, rfl, trivial⟩
     ·
      clear h14
      subst e
      refine sk ?_
      refine sk ?_
      refine sk ?_
      refine sk ?_
      refine pu ?_
      exact la2 hS h22 ⟨rfl, rfl, rfl, trivial⟩
    ·
     intro y3 y34 T7 n7 ρ its hS h15
     unfold g25_k3 at h15
     clear h14
     refine mv ?_
     refine ls1 X 40 [(0, (.lit (.bool false)))] (g25_k4 ro) 5 ?_ ?_
     ·
      rcases condK_inv h15 with ⟨e, h17⟩ | ⟨e, h17⟩
      ·
       clear h15
       subst e
       refine vy (V.fa h17 rfl Cnf.fo114_2) fun x36_10 h18 => ?_
       refine vy (V.ld hS h18 rfl Cnf.one54) fun x37_11 h19 => ?_
       refine LV.bslice hS h19 rfl rfl Cnf.el54 rfl rfl rfl rfl fun x38_12 T9 n9 h20 ρ its hS hdr => ?_
       refine LV.call hS h20 (g46_ok _ _ _ _ _ ) hP rfl rfl rfl rfl fun x39_13 T10 n10 h21 ρ its hS => ?_
       refine pu ?_
       exact la1 hS h21 ⟨rfl, rfl, trivial⟩
      ·
       clear h15
       subst e
       refine sk ?_
       refine sk ?_
       refine sk ?_
       refine sk ?_
       refine pu ?_
       exact la1 hS h17 ⟨rfl, rfl, trivial⟩
     ·
      intro y40 T8 n8 ρ its hS h16
      unfold g25_k4 at h16
      clear h15
      refine as_ ?_
      refine dn ?_
      refine CV.ret ?_
      cases h16
      exact PV.ret (by simp) Tryz.results25 hS (RS.tmp rfl RS.nil) rfl
noncomputable def g47 (ro : List HT) (T : HT) (nx : Nat) : R :=
 bsK 470002 T nx 34 9 1 [(0, (.lit (.string ⟨⟨[]⟩⟩))), (1, (.lit (.string ⟨⟨[99, 111, 110, 115, 116]⟩⟩))), (2, (.lit (.string ⟨⟨[108, 111, 99, 97, 108]⟩⟩))), (3, (.lit (.string ⟨⟨[115, 101, 116, 108, 111, 99, 97, 108]⟩⟩))), (4, (.lit (.string ⟨⟨[103, 108, 111, 98, 97, 108]⟩⟩))), (5, (.lit (.string ⟨⟨[115, 101, 116, 103, 108, 111, 98, 97, 108]⟩⟩))), (6, (.lit (.string ⟨⟨[112, 114, 101]⟩⟩))), (7, (.lit (.string ⟨⟨[108, 105, 115, 116]⟩⟩))), (8, (.lit (.string ⟨⟨[116, 117, 112, 108, 101]⟩⟩))), (9, (.lit (.string ⟨⟨[100, 105, 99, 116]⟩⟩))), (10, (.lit (.string ⟨⟨[117, 110, 97, 114, 121]⟩⟩))), (11, (.lit (.string ⟨⟨[98, 105, 110, 97, 114, 121]⟩⟩))), (12, (.lit (.string ⟨⟨[106, 117, 109, 112]⟩⟩))), (13, (.lit (.string ⟨⟨[105, 102, 110, 111, 116]⟩⟩))), (14, (.lit (.string ⟨⟨[107, 101, 101, 112, 105, 102]⟩⟩))), (15, (.lit (.string ⟨⟨[107, 101, 101, 112, 105, 102, 110, 111, 116]⟩⟩))), (16, (.lit (.string ⟨⟨[99, 97, 108, 108]⟩⟩))), (17, (.lit (.string ⟨⟨[100, 111, 116]⟩⟩))), (18, (.lit (.string ⟨⟨[105, 110, 100, 101, 120]⟩⟩))), (19, (.lit (.string ⟨⟨[115, 108, 105, 99, 101]⟩⟩))), (20, (.lit (.string ⟨⟨[112, 117, 116]⟩⟩))), (21, (.lit (.string ⟨⟨[115, 112, 114, 101, 97, 100]⟩⟩))), (22, (.lit (.string ⟨⟨[101, 97, 99, 104]⟩⟩))), (23, (.lit (.string ⟨⟨[110, 101, 120, 116]⟩⟩))), (24, (.lit (.string ⟨⟨[111, 118, 101, 114]⟩⟩))), (25, (.lit (.string ⟨⟨[97, 100, 100]⟩⟩))), (26, (.lit (.string ⟨⟨[108, 97, 121]⟩⟩))), (27, (.lit (.string ⟨⟨[112, 111, 112]⟩⟩))), (28, (.lit (.string ⟨⟨[102, 117, 110, 99]⟩⟩))), (29, (.lit (.string ⟨⟨[114, 101, 116, 117, 114, 110]⟩⟩))), (30, (.lit (.string ⟨⟨[108, 111, 97, 100]⟩⟩))), (31, (.lit (.string ⟨⟨[116, 119, 111]⟩⟩))), (32, (.lit (.string ⟨⟨[112, 105, 99, 107]⟩⟩))), (33, (.lit (.string ⟨⟨[117, 110, 115, 101, 116]⟩⟩)))] fun x1_1 T1 n1 =>
 .ok (.val x1_1) T1 n1
theorem g47_ok (ro : List HT) (T : HT) (nx : Nat) : GOk Tryz.prog envE 47 [] ro T nx (g47 ro T nx) := by
 refine GOk.of_body Tryz.func47 rfl Tryz.ntmps47 (by kernel_rfl) rfl fun r T' n' h1 w0 base ρ0 its hS hP => ?_
 have X : CtxW envE ρ0 ro r T' n' := trivial
 unfold g47 at h1
 refine sr ?_
 refine as_ ?_
 refine dn ?_
 refine sr ?_
 refine LV.bslice hS h1 rfl rfl Cnf.el54 rfl rfl rfl rfl fun x1_1 T1 n1 h2 ρ its hS hdr => ?_
 refine as_ ?_
 refine dn ?_
 refine CV.ret ?_
 cases h2
 exact PV.ret (by simp) Tryz.results47 hS (RS.tmp rfl RS.nil) rfl
noncomputable def g26_k1 (ro : List HT) (y0 y8 : AV) (T1 : HT) (n1 : Nat) : R :=
 condK 260005 y8
 (
  .ok (.val (.lit (.string ⟨⟨[]⟩⟩))) T1 n1
 )
 (
  callK (g47 ro T1 n1) fun x9_2 T2 n2 =>
  iaK 260009 x9_2 y0 1 fun x11_3 =>
  ldK 260010 T2 ro x11_3 fun x12_4 =>
  .ok (.val x12_4) T2 n2
 )
noncomputable def g26 (ro : List HT) (a0 : AV) (T : HT) (nx : Nat) : R :=
 ltK Tryz.prog 3 (.tmp 3) (.const (.int .i64 (.ofNat 0))) 260003 a0 (.lit (.int .i64 (.ofNat 0))) fun x4_1 =>
 condK 260012 x4_1
 (
  g26_k1 ro a0 (.lit (.bool true)) T nx
 )
 (
  gtK Tryz.prog 3 (.tmp 6) (.const (.int .i64 (.ofNat 33))) 260015 a0 (.lit (.int .i64 (.ofNat 33))) fun x7_5 =>
  g26_k1 ro a0 x7_5 T nx
 )
theorem g26_ok (ro : List HT) (a0 : AV) (T : HT) (nx : Nat) : GOk Tryz.prog envE 26 [a0] ro T nx (g26 ro a0 T nx) := by
 refine GOk.of_body Tryz.func26 rfl Tryz.ntmps26 (by kernel_rfl) rfl fun r T' n' h1 w0 base ρ0 its hS hP => ?_
 have X : CtxW envE ρ0 ro r T' n' := trivial
 unfold g26 at h1
 refine sr ?_
 refine as_ ?_
 refine dn ?_
 refine CV.seq ?_
 refine sr ?_
 refine mv ?_
 refine vy (V.lt h1 rfl rfl) fun x4_1 h2 => ?_
 refine mv ?_
 refine ls2 X 0 8 [(2, (.lit (.string ⟨⟨[]⟩⟩)))] (g26_k1 ro) 3 ?_ ?_
 ·
  rcases condK_inv h2 with ⟨e, h8⟩ | ⟨e, h8⟩
  ·
   clear h1 h2
   subst e
   refine sk ?_
   refine sk ?_
   refine pu ?_
   exact la2 hS h8 ⟨rfl, rfl, rfl, trivial⟩
  ·
   clear h1 h2
   subst e
   refine mv ?_
   refine vy (V.gt h8 rfl rfl) fun x7_5 h9 => ?_
   refine pu ?_
   exact la2 hS h9 ⟨rfl, rfl, rfl, trivial⟩
 ·
  intro y0 y8 T1 n1 ρ its hS h3
  unfold g26_k1 at h3
  clear h1 h2
  refine dn ?_
  refine CV.cond h3 rfl (fun e h4 => ?_) (fun e h4 => ?_)
  ·
   clear h3
   subst e
   refine sr ?_
   refine as_ ?_
   refine dn ?_
   refine CV.ret ?_
   refine PV.thenR ?_
   cases h4
   exact PV.ret (by simp) Tryz.results26 hS (RS.tmp rfl RS.nil) rfl
  ·
   clear h3
   subst e
   refine CV.skip ?_
   refine PV.thenN ?_
   refine sr ?_
   refine LV.call hS h4 (g47_ok _ _ _ ) hP rfl rfl rfl rfl fun x9_2 T2 n2 h5 ρ its hS => ?_
   refine mv ?_
   refine vy (V.ia h5 rfl rfl Cnf.el54) fun x11_3 h6 => ?_
   refine vy (V.ld hS h6 rfl Cnf.one9) fun x12_4 h7 => ?_
   refine as_ ?_
   refine dn ?_
   refine CV.ret ?_
   cases h7
   exact PV.ret (by simp) Tryz.results26 hS (RS.tmp rfl RS.nil) rfl
noncomputable def g27_b1 (ro : List HT) (lp1 : AV → AV → AV → AV → HT → Nat → R) (y0 y1 y4 y5 : AV) (T1 : HT) (n1 : Nat) : R :=
 lenSK 270006 y0 fun x8_1 =>
 ltK Tryz.prog 3 (.tmp 6) (.tmp 8) 270007 y5 x8_1 fun x9_2 =>
 condK 270008 x9_2
 (
  iaK 270011 y0 y5 1 fun x14_3 =>
  ldK 270012 T1 ro x14_3 fun x15_4 =>
  eqSK Tryz.prog 9 (.tmp 15) (.tmp 16) 270014 x15_4 y1 fun x17_5 =>
  condK 270015 x17_5
  (
   .bad 270016
  )
  (
   addK Tryz.prog 3 (.tmp 10) (.const (.int .i64 (.ofNat 1))) 270018 y5 (.lit (.int .i64 (.ofNat 1))) fun x11_6 =>
   lp1 y0 y1 y4 x11_6 T1 n1
  )
 )
 (
  .ok (.val (.lit (.int .i64 (.negSucc 0)))) T1 n1
 )
noncomputable def g27 (ro : List HT) (a0 a1 : AV) (T : HT) (nx : Nat) : R :=
 lpf4 270003 (g27_b1 ro) 100000 a0 a1 (.lit (.int .i64 (.ofNat 0))) (.lit (.int .i64 (.ofNat 0))) T nx
theorem g27_ok (ro : List HT) (a0 a1 : AV) (T : HT) (nx : Nat) : GOk Tryz.prog envE 27 [a0, a1] ro T nx (g27 ro a0 a1 T nx) := by
 refine GOk.of_body Tryz.func27 rfl Tryz.ntmps27 (by kernel_rfl) rfl fun r T' n' h1 w0 base ρ0 its hS hP => ?_
 have X : CtxW envE ρ0 ro r T' n' := trivial
 unfold g27 at h1
 refine sr ?_
 refine as_ ?_
 refine dn ?_
 refine CV.seq ?_
 refine sr ?_
 refine as_ ?_
 refine dn ?_
 refine CV.block ?_
 refine cl4 X 0 1 4 5 [] hS h1 ⟨rfl, rfl, rfl, rfl, trivial⟩ ?_
 intro f1 y0 y1 y4 y5 T1 n1 ρ its hS h2
 unfold g27_b1 at h2
 clear h1
 refine CV.seq ?_
 refine sr ?_
 refine mv ?_
 refine mv ?_
 refine vy (V.lenS h2 rfl Cnf.ls54) fun x8_1 h3 => ?_
 refine vy (V.lt h3 rfl rfl) fun x9_2 h4 => ?_
 refine dn ?_
 refine CV.cond h4 rfl (fun e h5 => ?_) (fun e h5 => ?_)
 ·
  clear h2 h3 h4
  subst e
  refine CV.skip ?_
  refine PV.thenN ?_
  refine CV.seq ?_
  refine CV.block ?_
  refine sr ?_
  refine mv ?_
  refine mv ?_
  refine vy (V.ia h5 rfl rfl Cnf.el54) fun x14_3 h6 => ?_
  refine vy (V.ld hS h6 rfl Cnf.one9) fun x15_4 h7 => ?_
  refine mv ?_
  refine vy (V.eqS h7 rfl rfl) fun x17_5 h8 => ?_
  refine dn ?_
  refine CV.cond h8 rfl (fun e h9 => ?_) (fun e h9 => ?_)
  ·
   clear h5 h6 h7 h8
   subst e
   cases h9
  ·
   clear h5 h6 h7 h8
   subst e
   refine CV.skip ?_
   refine PV.blockN ?_
   refine PV.thenN ?_
   refine CV.region ?_
   refine mv ?_
   refine vy (V.add h9 rfl rfl) fun x11_6 h10 => ?_
   refine as_ ?_
   refine LV.done ?_
   exact pb4 hS h10 ⟨rfl, rfl, rfl, rfl, trivial⟩
 ·
  clear h2 h3 h4
  subst e
  refine CV.exit ?_
  refine PV.thenE ?_
  refine PV.thenE ?_
  refine PV.blockE ?_
  refine PV.thenN ?_
  refine sr ?_
  refine as_ ?_
  refine dn ?_
  refine CV.ret ?_
  cases h5
  exact PV.ret (by simp) Tryz.results27 hS (RS.tmp rfl RS.nil) rfl
noncomputable def g5_k2 (q0 q1 q2 c3 c4 m1 m2 ex ey : AV) (xd : HT → Nat → R) (ro : List HT) (lp1 : AV → AV → AV → AV → HT → Nat → R) (y6 y7 y8 y9 y10 y31 : AV) (T4 : HT) (n4 : Nat) : R :=
 condK 50020 y31
 (
  .ok (.val (.lit (.bool false))) T4 n4
 )
 (
  bsK 50024 T4 n4 1 9 1 [(0, y10)] fun x34_6 T5 n5 =>
  shrK 50026 T5 y8 fun T6 =>
  appEK 50025 T6 ro n5 9 1 16 y8 x34_6 fun x35_7 T7 n7 =>
  addK Tryz.prog 3 (.tmp 20) (.const (.int .i64 (.ofNat 1))) 50029 y9 (.lit (.int .i64 (.ofNat 1))) fun x21_8 =>
  lp1 y6 y7 x35_7 x21_8 T7 n7
 )
noncomputable def g5_k7 (q0 q1 q2 c3 c4 m1 m2 ex ey : AV) (xd : HT → Nat → R) (ro : List HT) (y6 y7 y68 : AV) (T14 : HT) (n14 : Nat) : R :=
 .ok (.val y68) T14 n14
noncomputable def g5_k6 (q0 q1 q2 c3 c4 m1 m2 ex ey : AV) (xd : HT → Nat → R) (ro : List HT) (y6 y7 y12 y64 : AV) (T13 : HT) (n13 : Nat) : R :=
 condK 50060 y64
 (
  geK Tryz.prog 3 (.tmp 66) (.const (.int .i64 (.ofNat 0))) 50062 y12 (.lit (.int .i64 (.ofNat 0))) fun x67_15 =>
  g5_k7 q0 q1 q2 c3 c4 m1 m2 ex ey xd ro y6 y7 x67_15 T13 n13
 )
 (
  g5_k7 q0 q1 q2 c3 c4 m1 m2 ex ey xd ro y6 y7 (.lit (.bool false)) T13 n13
 )
noncomputable def g5_k10 (q0 q1 q2 c3 c4 m1 m2 ex ey : AV) (xd : HT → Nat → R) (ro : List HT) (y6 y90 : AV) (T18 : HT) (n18 : Nat) : R :=
 pkK y90 (.lit (.bool true)) (.lit (.bool false)) fun x92_20 =>
 .ok (.val x92_20) T18 n18
noncomputable def g5_k9 (q0 q1 q2 c3 c4 m1 m2 ex ey : AV) (xd : HT → Nat → R) (ro : List HT) (y6 y14 y86 : AV) (T17 : HT) (n17 : Nat) : R :=
 condK 50087 y86
 (
  eqK Tryz.prog 3 (.tmp 88) (.const (.int .i64 (.ofNat 0))) 50089 y14 (.lit (.int .i64 (.ofNat 0))) fun x89_21 =>
  g5_k10 q0 q1 q2 c3 c4 m1 m2 ex ey xd ro y6 x89_21 T17 n17
 )
 (
  g5_k10 q0 q1 q2 c3 c4 m1 m2 ex ey xd ro y6 (.lit (.bool false)) T17 n17
 )
noncomputable def g5_k8 (q0 q1 q2 c3 c4 m1 m2 ex ey : AV) (xd : HT → Nat → R) (ro : List HT) (y6 y13 y14 y82 : AV) (T16 : HT) (n16 : Nat) : R :=
 condK 50092 y82
 (
  eqK Tryz.prog 3 (.tmp 84) (.const (.int .i64 (.ofNat 0))) 50094 y13 (.lit (.int .i64 (.ofNat 0))) fun x85_22 =>
  g5_k9 q0 q1 q2 c3 c4 m1 m2 ex ey xd ro y6 y14 x85_22 T16 n16
 )
 (
  g5_k9 q0 q1 q2 c3 c4 m1 m2 ex ey xd ro y6 y14 (.lit (.bool false)) T16 n16
 )
noncomputable def g5_k5 (q0 q1 q2 c3 c4 m1 m2 ex ey : AV) (xd : HT → Nat → R) (ro : List HT) (y6 y7 y49 : AV) (T11 : HT) (n11 : Nat) : R :=
 condK 50043 y49
 (
  callK (.ok (.val (.tup [ex, ey])) T11 n11) fun x57_12 T12 n12 =>
  exK 50052 x57_12 0 fun x58_13 =>
  exK 50053 x57_12 1 fun x59_14 =>
  condK 50065 y7
  (
   geK Tryz.prog 3 (.tmp 62) (.const (.int .i64 (.ofNat 0))) 50067 x58_13 (.lit (.int .i64 (.ofNat 0))) fun x63_16 =>
   g5_k6 q0 q1 q2 c3 c4 m1 m2 ex ey xd ro y6 (.lit (.bool true)) x59_14 x63_16 T12 n12
  )
  (
   g5_k6 q0 q1 q2 c3 c4 m1 m2 ex ey xd ro y6 (.lit (.bool false)) x59_14 (.lit (.bool false)) T12 n12
  )
 )
 (
  callK (xd T11 n11) fun x74_17 T15 n15 =>
  exK 50076 x74_17 0 fun x75_18 =>
  exK 50077 x74_17 1 fun x76_19 =>
  condK 50097 y7
  (
   callK (g26 ro q0 T15 n15) fun x80_23 T19 n19 =>
   eqSK Tryz.prog 9 (.tmp 80) (.const (.string ⟨⟨[]⟩⟩)) 50100 x80_23 (.lit (.string ⟨⟨[]⟩⟩)) fun x81_24 =>
   g5_k8 q0 q1 q2 c3 c4 m1 m2 ex ey xd ro y6 x75_18 x76_19 x81_24 T19 n19
  )
  (
   g5_k8 q0 q1 q2 c3 c4 m1 m2 ex ey xd ro y6 x75_18 x76_19 (.lit (.bool false)) T15 n15
  )
 )
noncomputable def g5_k4 (q0 q1 q2 c3 c4 m1 m2 ex ey : AV) (xd : HT → Nat → R) (ro : List HT) (y6 y7 y45 : AV) (T10 : HT) (n10 : Nat) : R :=
 condK 50103 y45
 (
  g5_k5 q0 q1 q2 c3 c4 m1 m2 ex ey xd ro y6 y7 (.lit (.bool true)) T10 n10
 )
 (
  g5_k5 q0 q1 q2 c3 c4 m1 m2 ex ey xd ro y6 y7 c4 T10 n10
 )
noncomputable def g5_k3 (q0 q1 q2 c3 c4 m1 m2 ex ey : AV) (xd : HT → Nat → R) (ro : List HT) (y6 y7 y41 : AV) (T9 : HT) (n9 : Nat) : R :=
 condK 50108 y41
 (
  g5_k4 q0 q1 q2 c3 c4 m1 m2 ex ey xd ro y6 y7 (.lit (.bool true)) T9 n9
 )
 (
  g5_k4 q0 q1 q2 c3 c4 m1 m2 ex ey xd ro y6 y7 c3 T9 n9
 )
noncomputable def g5_b1 (q0 q1 q2 c3 c4 m1 m2 ex ey : AV) (xd : HT → Nat → R) (ro : List HT) (lp1 : AV → AV → AV → AV → HT → Nat → R) (y6 y7 y8 y9 : AV) (T2 : HT) (n2 : Nat) : R :=
 leK Tryz.prog 3 (.tmp 18) (.const (.int .i64 (.ofNat 33))) 50012 y9 (.lit (.int .i64 (.ofNat 33))) fun x19_3 =>
 condK 50013 x19_3
 (
  callK (g26 ro y9 T2 n2) fun x23_4 T3 n3 =>
  eqSK Tryz.prog 9 (.tmp 24) (.const (.string ⟨⟨[]⟩⟩)) 50018 x23_4 (.lit (.string ⟨⟨[]⟩⟩)) fun x25_5 =>
  condK 50031 x25_5
  (
   g5_k2 q0 q1 q2 c3 c4 m1 m2 ex ey xd ro lp1 y6 y7 y8 y9 x23_4 (.lit (.bool true)) T3 n3
  )
  (
   callK (g27 ro y8 x23_4 T3 n3) fun x29_9 T8 n8 =>
   geK Tryz.prog 3 (.tmp 29) (.const (.int .i64 (.ofNat 0))) 50036 x29_9 (.lit (.int .i64 (.ofNat 0))) fun x30_10 =>
   g5_k2 q0 q1 q2 c3 c4 m1 m2 ex ey xd ro lp1 y6 y7 y8 y9 x23_4 x30_10 T8 n8
  )
 )
 (
  geK Tryz.prog 3 (.tmp 36) (.const (.int .i64 (.ofNat 1))) 50039 q0 (.lit (.int .i64 (.ofNat 1))) fun x37_11 =>
  condK 50113 x37_11
  (
   leK Tryz.prog 3 (.tmp 39) (.const (.int .i64 (.ofNat 33))) 50115 q0 (.lit (.int .i64 (.ofNat 33))) fun x40_25 =>
   g5_k3 q0 q1 q2 c3 c4 m1 m2 ex ey xd ro y6 y7 x40_25 T2 n2
  )
  (
   g5_k3 q0 q1 q2 c3 c4 m1 m2 ex ey xd ro y6 y7 (.lit (.bool false)) T2 n2
  )
 )
noncomputable def g5 (q0 q1 q2 c3 c4 m1 m2 ex ey : AV) (xd : HT → Nat → R) (ro : List HT) (q0 q1 q2 : AV) (T : HT) (nx : Nat) : R :=
 callK (.ok (.val (.lit (.bool true))) T nx) fun x15_1 T1 n1 =>
 notK 50005 x15_1 fun x17_2 =>
 condK 50006 x17_2
 (
  .ok (.val (.lit (.bool false))) T1 n1
 )
 (
  lpf4 50010 (g5_b1 q0 q1 q2 c3 c4 m1 m2 ex ey xd ro) 100000 (.lit (.bool false)) x15_1 (.lit (.slice none 0 0)) (.lit (.int .i64 (.ofNat 1))) T1 n1
 )
theorem g5_ok (q0 q1 q2 c3 c4 m1 m2 ex ey : AV) (xd : HT → Nat → R) (hA3 : ∀ (W : World → Prop) (ρ : Rho) (af : AF), evalA af (.tmp 43) = some q1 → VAL Tryz.prog W ρ af (.binOp .gtr 3 (.tmp 43) (.const (.int .i64 (.ofNat 1000))) 3) c3) (hA4 : ∀ (W : World → Prop) (ρ : Rho) (af : AF), evalA af (.tmp 47) = some q2 → VAL Tryz.prog W ρ af (.binOp .gtr 3 (.tmp 47) (.const (.int .i64 (.ofNat 1000))) 3) c4) (hA5 : ∀ (W : World → Prop) (ρ : Rho) (af : AF), evalA af (.tmp 52) = some q1 → VAL Tryz.prog W ρ af (.call { callee := .builtin .min, args := #[.tmp 52, (.const (.int .i64 (.ofNat 1000)))], argTypes := #[3, 3] }) m1) (hA6 : ∀ (W : World → Prop) (ρ : Rho) (af : AF), evalA af (.tmp 54) = some q2 → VAL Tryz.prog W ρ af (.call { callee := .builtin .min, args := #[.tmp 54, (.const (.int .i64 (.ofNat 1000)))], argTypes := #[3, 3] }) m2) (hE : ∀ ro T nx, GOk Tryz.prog envE 28 [(.agg [q0, m1, m2, (.lit (.int .i64 0))])] ro T nx (.ok (.val (.tup [ex, ey])) T nx)) (hD : ∀ ro T nx, GOk Tryz.prog envE 28 [(.agg [q0, q1, q2, (.lit (.int .i64 0))])] ro T nx (xd T nx)) (hB1 : bld60 [(0, q0), (1, m1), (2, m2)] = some (.agg [q0, m1, m2, (.lit (.int .i64 0))])) (hB2 : bld60 [(0, q0), (1, q1), (2, q2)] = some (.agg [q0, q1, q2, (.lit (.int .i64 0))])) (ro : List HT) (T : HT) (nx : Nat) (hF : GOk Tryz.prog envE 25 [] ro T nx (.ok (.val (.lit (.bool true))) T nx)) : GOk Tryz.prog envE 5 [q0, q1, q2] ro T nx (g5 q0 q1 q2 c3 c4 m1 m2 ex ey xd ro q0 q1 q2 T nx) := by
 refine GOk.of_body Tryz.func5 rfl Tryz.ntmps5 (by kernel_rfl) rfl fun r T' n' h1 w0 base ρ0 its hS hP => ?_
 have X : CtxW envE ρ0 ro r T' n' := trivial
 unfold g5 at h1
 refine sr ?_
 refine as_ ?_
 refine dn ?_
 refine sr ?_
 refine LV.call hS h1 (hF) hP rfl rfl rfl rfl fun x15_1 T1 n1 h2 ρ its hS => ?_
 refine as_ ?_
 refine dn ?_
 refine CV.seq ?_
 refine sr ?_
 refine mv ?_
 refine vy (V.not h2 rfl) fun x17_2 h3 => ?_
 refine dn ?_
 refine CV.cond h3 rfl (fun e h4 => ?_) (fun e h4 => ?_)
 ·
  clear h1 h2 h3
  subst e
  refine sr ?_
  refine as_ ?_
  refine dn ?_
  refine CV.ret ?_
  refine PV.thenR ?_
  cases h4
  exact PV.ret (by simp) Tryz.results5 hS (RS.tmp rfl RS.nil) rfl
 ·
  clear h1 h2 h3
  subst e
  refine CV.skip ?_
  refine PV.thenN ?_
  refine sr ?_
  refine as_ ?_
  refine dn ?_
  refine CV.seq ?_
  refine sr ?_
  refine as_ ?_
  refine dn ?_
  refine CV.block ?_
  refine cl4 X 6 7 8 9 [(0, q0), (1, q1), (2, q2)] hS h4 ⟨rfl, rfl, rfl, rfl, rfl, rfl, rfl, trivial⟩ ?_
  intro f1 y6 y7 y8 y9 T2 n2 ρ its hS h5
  unfold g5_b1 at h5
  clear h4
  refine CV.seq ?_
  refine sr ?_
  refine mv ?_
  refine vy (V.le h5 rfl rfl) fun x19_3 h6 => ?_
  refine dn ?_
  refine CV.cond h6 rfl (fun e h7 => ?_) (fun e h7 => ?_)
  ·
   clear h5 h6
   subst e
   refine CV.skip ?_
   refine PV.thenN ?_
   refine CV.seq ?_
   refine CV.block ?_
   refine sr ?_
   refine mv ?_
   refine LV.call hS h7 (g26_ok _ _ _ _ ) hP rfl rfl rfl rfl fun x23_4 T3 n3 h8 ρ its hS => ?_
   refine as_ ?_
   refine dn ?_
   refine CV.seq ?_
   refine sr ?_
   refine mv ?_
   refine vy (V.eqS h8 rfl rfl) fun x25_5 h9 => ?_
   refine mv ?_
   refine ls6 X 6 7 8 9 10 31 [(0, q0), (1, q1), (2, q2)] (g5_k2 q0 q1 q2 c3 c4 m1 m2 ex ey xd ro (lpf4 50010 (g5_b1 q0 q1 q2 c3 c4 m1 m2 ex ey xd ro) f1)) 5 ?_ ?_
   ·
    rcases condK_inv h9 with ⟨e, h16⟩ | ⟨e, h16⟩
    ·
     clear h7 h8 h9
     subst e
     refine sk ?_
     refine sk ?_
     refine sk ?_
     refine sk ?_
     refine pu ?_
     exact la6 hS h16 ⟨rfl, rfl, rfl, rfl, rfl, rfl, rfl, rfl, rfl, trivial⟩
    ·
     clear h7 h8 h9
     subst e
     refine mv ?_
     refine mv ?_
     refine LV.call hS h16 (g27_ok _ _ _ _ _ ) hP rfl rfl rfl rfl fun x29_9 T8 n8 h17 ρ its hS => ?_
     refine vy (V.ge h17 rfl rfl) fun x30_10 h18 => ?_
     refine pu ?_
     exact la6 hS h18 ⟨rfl, rfl, rfl, rfl, rfl, rfl, rfl, rfl, rfl, trivial⟩
   ·
    intro y6 y7 y8 y9 y10 y31 T4 n4 ρ its hS h10
    unfold g5_k2 at h10
    clear h7 h8 h9
    refine dn ?_
    refine CV.cond h10 rfl (fun e h11 => ?_) (fun e h11 => ?_)
    ·
     clear h10
     subst e
     refine sr ?_
     refine as_ ?_
     refine dn ?_
     refine CV.ret ?_
     refine PV.thenR ?_
     refine PV.blockR ?_
     refine PV.thenR ?_
     refine PV.thenR ?_
     refine PV.blockR ?_
     refine PV.thenR ?_
     cases h11
     exact PV.ret (by simp) Tryz.results5 hS (RS.tmp rfl RS.nil) rfl
    ·
     clear h10
     subst e
     refine CV.skip ?_
     refine PV.thenN ?_
     refine CV.region ?_
     refine mv ?_
     refine mv ?_
     refine LV.bslice hS h11 rfl rfl Cnf.el54 rfl rfl rfl rfl fun x34_6 T5 n5 h12 ρ its hS hdr => ?_
     obtain ⟨T6, its1, h13, hS, hW⟩ := shrK_inv hS h12
     refine LV.world hW ?_
     refine LV.appE hS h13 rfl rfl rfl rfl Cnf.el54 rfl rfl rfl fun x35_7 T7 n7 h14 ρ its hS => ?_
     refine as_ ?_
     refine LV.done ?_
     refine PV.blockN ?_
     refine PV.thenN ?_
     refine CV.region ?_
     refine mv ?_
     refine vy (V.add h14 rfl rfl) fun x21_8 h15 => ?_
     refine as_ ?_
     refine LV.done ?_
     exact pb4 hS h15 ⟨rfl, rfl, rfl, rfl, rfl, rfl, rfl, trivial⟩
  ·
   clear h5 h6
   subst e
   refine CV.exit ?_
   refine PV.thenE ?_
   refine PV.thenE ?_
   refine PV.blockE ?_
   refine PV.thenN ?_
   refine CV.seq ?_
   refine sr ?_
   refine mv ?_
   refine vy (V.ge h7 rfl rfl) fun x37_11 h19 => ?_
   refine mv ?_
   refine ls3 X 6 7 41 [(0, q0), (1, q1), (2, q2)] (g5_k3 q0 q1 q2 c3 c4 m1 m2 ex ey xd ro) 3 ?_ ?_
   ·
    rcases condK_inv h19 with ⟨e, h49⟩ | ⟨e, h49⟩
    ·
     clear h7 h19
     subst e
     refine mv ?_
     refine vy (V.le h49 rfl rfl) fun x40_25 h50 => ?_
     refine pu ?_
     exact la3 hS h50 ⟨rfl, rfl, rfl, rfl, rfl, rfl, trivial⟩
    ·
     clear h7 h19
     subst e
     refine sk ?_
     refine sk ?_
     refine pu ?_
     exact la3 hS h49 ⟨rfl, rfl, rfl, rfl, rfl, rfl, trivial⟩
   ·
    intro y6 y7 y41 T9 n9 ρ its hS h20
    unfold g5_k3 at h20
    clear h7 h19
    refine mv ?_
    refine ls3 X 6 7 45 [(0, q0), (1, q1), (2, q2)] (g5_k4 q0 q1 q2 c3 c4 m1 m2 ex ey xd ro) 3 ?_ ?_
    ·
     rcases condK_inv h20 with ⟨e, h48⟩ | ⟨e, h48⟩
     ·
      clear h20
      subst e
      refine sk ?_
      refine sk ?_
      refine pu ?_
      exact la3 hS h48 ⟨rfl, rfl, rfl, rfl, rfl, rfl, trivial⟩
     ·
      clear h20
      subst e
      refine mv ?_
      refine sv (hA3 _ _ _ rfl) ?_
      refine pu ?_
      exact la3 hS h48 ⟨rfl, rfl, rfl, rfl, rfl, rfl, trivial⟩
    ·
     intro y6 y7 y45 T10 n10 ρ its hS h21
     unfold g5_k4 at h21
     clear h20
     refine mv ?_
     refine ls3 X 6 7 49 [(0, q0), (1, q1), (2, q2)] (g5_k5 q0 q1 q2 c3 c4 m1 m2 ex ey xd ro) 3 ?_ ?_
     ·
      rcases condK_inv h21 with ⟨e, h47⟩ | ⟨e, h47⟩
      ·
       clear h21
       subst e
       refine sk ?_
       refine sk ?_
       refine pu ?_
       exact la3 hS h47 ⟨rfl, rfl, rfl, rfl, rfl, rfl, trivial⟩
      ·
       clear h21
       subst e
       refine mv ?_
       refine sv (hA4 _ _ _ rfl) ?_
       refine pu ?_
       exact la3 hS h47 ⟨rfl, rfl, rfl, rfl, rfl, rfl, trivial⟩
     ·
      intro y6 y7 y49 T11 n11 ρ its hS h22
      unfold g5_k5 at h22
      clear h21
      refine dn ?_
      refine CV.cond h22 rfl (fun e h23 => ?_) (fun e h23 => ?_)
      ·
       clear h22
       subst e
       refine sr ?_
       refine mv ?_
       refine mv ?_
       refine sv (hA5 _ _ _ rfl) ?_
       refine mv ?_
       refine sv (hA6 _ _ _ rfl) ?_
       refine sv (VAL.build (Eq.trans (b := bld60 [(0, q0), (1, m1), (2, m2)]) rfl hB1)) ?_
       refine LV.call hS h23 (hE _ _ _) hP rfl rfl rfl rfl fun x57_12 T12 n12 h24 ρ its hS => ?_
       refine mv ?_
       refine vy (V.ex h24 rfl) fun x58_13 h25 => ?_
       refine vy (V.ex h25 rfl) fun x59_14 h26 => ?_
       refine as_ ?_
       refine as_ ?_
       refine dn ?_
       refine sr ?_
       refine mv ?_
       refine mv ?_
       refine ls4 X 6 7 12 64 [(0, q0), (1, q1), (2, q2)] (g5_k6 q0 q1 q2 c3 c4 m1 m2 ex ey xd ro) 3 ?_ ?_
       ·
        rcases condK_inv h26 with ⟨e, h31⟩ | ⟨e, h31⟩
        ·
         clear h23 h24 h25 h26
         subst e
         refine mv ?_
         refine vy (V.ge h31 rfl rfl) fun x63_16 h32 => ?_
         refine pu ?_
         exact la4 hS h32 ⟨rfl, rfl, rfl, rfl, rfl, rfl, rfl, trivial⟩
        ·
         clear h23 h24 h25 h26
         subst e
         refine sk ?_
         refine sk ?_
         refine pu ?_
         exact la4 hS h31 ⟨rfl, rfl, rfl, rfl, rfl, rfl, rfl, trivial⟩
       ·
        intro y6 y7 y12 y64 T13 n13 ρ its hS h27
        unfold g5_k6 at h27
        clear h23 h24 h25 h26
        refine mv ?_
        refine ls3 X 6 7 68 [(0, q0), (1, q1), (2, q2)] (g5_k7 q0 q1 q2 c3 c4 m1 m2 ex ey xd ro) 3 ?_ ?_
        ·
         rcases condK_inv h27 with ⟨e, h29⟩ | ⟨e, h29⟩
         ·
          clear h27
          subst e
          refine mv ?_
          refine vy (V.ge h29 rfl rfl) fun x67_15 h30 => ?_
          refine pu ?_
          exact la3 hS h30 ⟨rfl, rfl, rfl, rfl, rfl, rfl, trivial⟩
         ·
          clear h27
          subst e
          refine sk ?_
          refine sk ?_
          refine pu ?_
          exact la3 hS h29 ⟨rfl, rfl, rfl, rfl, rfl, rfl, trivial⟩
        ·
         intro y6 y7 y68 T14 n14 ρ its hS h28
         unfold g5_k7 at h28
         clear h27
         refine as_ ?_
         refine dn ?_
         refine CV.ret ?_
         refine PV.thenR ?_
         cases h28
         exact PV.ret (by simp) Tryz.results5 hS (RS.tmp rfl RS.nil) rfl
      ·
       clear h22
       subst e
       refine CV.skip ?_
       refine PV.thenN ?_
       refine sr ?_
       refine mv ?_
       refine mv ?_
       refine mv ?_
       refine sv (VAL.build (Eq.trans (b := bld60 [(0, q0), (1, q1), (2, q2)]) rfl hB2)) ?_
       refine LV.call hS h23 (hD _ _ _) hP rfl rfl rfl rfl fun x74_17 T15 n15 h33 ρ its hS => ?_
       refine mv ?_
       refine vy (V.ex h33 rfl) fun x75_18 h34 => ?_
       refine vy (V.ex h34 rfl) fun x76_19 h35 => ?_
       refine as_ ?_
       refine as_ ?_
       refine dn ?_
       refine sr ?_
       refine mv ?_
       refine mv ?_
       refine ls4 X 6 13 14 82 [] (g5_k8 q0 q1 q2 c3 c4 m1 m2 ex ey xd ro) 4 ?_ ?_
       ·
        rcases condK_inv h35 with ⟨e, h44⟩ | ⟨e, h44⟩
        ·
         clear h23 h33 h34 h35
         subst e
         refine mv ?_
         refine LV.call hS h44 (g26_ok _ _ _ _ ) hP rfl rfl rfl rfl fun x80_23 T19 n19 h45 ρ its hS => ?_
         refine vy (V.eqS h45 rfl rfl) fun x81_24 h46 => ?_
         refine pu ?_
         exact la4 hS h46 ⟨rfl, rfl, rfl, rfl, trivial⟩
        ·
         clear h23 h33 h34 h35
         subst e
         refine sk ?_
         refine sk ?_
         refine sk ?_
         refine pu ?_
         exact la4 hS h44 ⟨rfl, rfl, rfl, rfl, trivial⟩
       ·
        intro y6 y13 y14 y82 T16 n16 ρ its hS h36
        unfold g5_k8 at h36
        clear h23 h33 h34 h35
        refine mv ?_
        refine ls3 X 6 14 86 [] (g5_k9 q0 q1 q2 c3 c4 m1 m2 ex ey xd ro) 3 ?_ ?_
        ·
         rcases condK_inv h36 with ⟨e, h42⟩ | ⟨e, h42⟩
         ·
          clear h36
          subst e
          refine mv ?_
          refine vy (V.eq h42 rfl rfl) fun x85_22 h43 => ?_
          refine pu ?_
          exact la3 hS h43 ⟨rfl, rfl, rfl, trivial⟩
         ·
          clear h36
          subst e
          refine sk ?_
          refine sk ?_
          refine pu ?_
          exact la3 hS h42 ⟨rfl, rfl, rfl, trivial⟩
        ·
         intro y6 y14 y86 T17 n17 ρ its hS h37
         unfold g5_k9 at h37
         clear h36
         refine mv ?_
         refine ls2 X 6 90 [] (g5_k10 q0 q1 q2 c3 c4 m1 m2 ex ey xd ro) 3 ?_ ?_
         ·
          rcases condK_inv h37 with ⟨e, h40⟩ | ⟨e, h40⟩
          ·
           clear h37
           subst e
           refine mv ?_
           refine vy (V.eq h40 rfl rfl) fun x89_21 h41 => ?_
           refine pu ?_
           exact la2 hS h41 ⟨rfl, rfl, trivial⟩
          ·
           clear h37
           subst e
           refine sk ?_
           refine sk ?_
           refine pu ?_
           exact la2 hS h40 ⟨rfl, rfl, trivial⟩
         ·
          intro y6 y90 T18 n18 ρ its hS h38
          unfold g5_k10 at h38
          clear h37
          refine mv ?_
          refine vy (V.pk h38 rfl rfl rfl) fun x92_20 h39 => ?_
          refine as_ ?_
          refine dn ?_
          refine CV.ret ?_
          cases h39
          exact PV.ret (by simp) Tryz.results5 hS (RS.tmp rfl RS.nil) rfl

end Go.Proofs.YtlljgagoboapaaaGreatDoor.Cn
