/-
  Proved here: plain functions that do what the program's functions do, each with its proof.
-/
import Derived.Test.YtlljgagoboapaaaGreatDoorVdb
namespace Go.Proofs.YtlljgagoboapaaaGreatDoor.Vd
open Go.EY Go.EX Go.SX Go.RowKit
noncomputable def g281_b1 (ih : FuncId → List HT → List AV → HT → Nat → R) (ro : List HT) (lp1 : AV → AV → AV → AV → HT → Nat → R) (y0 y2 y3 y4 : AV) (T5 : HT) (n5 : Nat) : R :=
 callK (g86 ro y0 T5 n5) fun x54_27 T6 n6 =>
 eqK Tryz.prog 3 (.tmp 54) (.const (.int .i64 (.ofNat 3))) 2810046 x54_27 (.lit (.int .i64 (.ofNat 3))) fun x55_28 =>
 condK 2810047 x55_28
 (
  ncK 2810050 y0 fun x58_29 =>
  faK 2810051 x58_29 0 fun x59_30 =>
  ldK 2810052 T6 ro x59_30 fun x60_31 =>
  ncK 2810054 y0 fun x62_32 =>
  faK 2810055 x62_32 1 fun x63_33 =>
  ldK 2810056 T6 ro x63_33 fun x64_34 =>
  iaK 2810057 x60_31 x64_34 3 fun x65_35 =>
  faK 2810058 x65_35 1 fun x66_36 =>
  ldK 2810059 T6 ro x66_36 fun x67_37 =>
  addSK Tryz.prog 9 (.tmp 56) (.tmp 67) 2810060 y4 x67_37 fun x68_38 =>
  fldK 2810063 T6 ro y0 1 fun x72_39 =>
  addK Tryz.prog 3 (.tmp 72) (.const (.int .i64 (.ofNat 1))) 2810064 x72_39 (.lit (.int .i64 (.ofNat 1))) fun x73_40 =>
  faK 2810065 y0 1 fun x75_41 =>
  stK 2810066 T6 x75_41 x73_40 fun T7 =>
  lp1 y0 y2 y3 x68_38 T7 n6
 )
 (
  faK 2810068 y3 2 fun x77_42 =>
  ldK 2810069 T6 ro x77_42 fun x78_43 =>
  callK (g103 ro y0 (.lit (.int .i64 (.ofNat 5))) x78_43 y4 (.lit (.slice none 0 0)) T6 n6) fun x80_44 T8 n8 =>
  .ok (.val x80_44) T8 n8
 )
noncomputable def g281 (ih : FuncId → List HT → List AV → HT → Nat → R) (ro : List HT) (a0 : AV) (T : HT) (nx : Nat) : R :=
 ncK 2810003 a0 fun x6_1 =>
 faK 2810004 x6_1 0 fun x7_2 =>
 ldK 2810005 T ro x7_2 fun x8_3 =>
 ncK 2810007 a0 fun x10_4 =>
 faK 2810008 x10_4 1 fun x11_5 =>
 ldK 2810009 T ro x11_5 fun x12_6 =>
 iaK 2810010 x8_3 x12_6 3 fun x13_7 =>
 ldAK 2810011 T ro x13_7 3 fun x14_8 =>
 newK T nx (.obj [.lit (.int .i64 0), .lit (.string ⟨#[]⟩), .lit (.int .i64 0)] 233) fun x3_9 T1 n1 =>
 stAK 2810013 T1 x3_9 x14_8 3 fun T2 =>
 faK 2810014 x3_9 0 fun x16_10 =>
 ldK 2810015 T2 ro x16_10 fun x17_11 =>
 eqK Tryz.prog 3 (.tmp 17) (.const (.int .i64 (.ofNat 1))) 2810016 x17_11 (.lit (.int .i64 (.ofNat 1))) fun x18_12 =>
 condK 2810018 x18_12
 (
  .bad 2810019
 )
 (
  faK 2810020 x3_9 0 fun x33_13 =>
  ldK 2810021 T2 ro x33_13 fun x34_14 =>
  eqK Tryz.prog 3 (.tmp 34) (.const (.int .i64 (.ofNat 2))) 2810022 x34_14 (.lit (.int .i64 (.ofNat 2))) fun x35_15 =>
  condK 2810024 x35_15
  (
   fldK 2810026 T2 ro a0 1 fun x39_16 =>
   addK Tryz.prog 3 (.tmp 39) (.const (.int .i64 (.ofNat 1))) 2810027 x39_16 (.lit (.int .i64 (.ofNat 1))) fun x40_17 =>
   faK 2810028 a0 1 fun x42_18 =>
   stK 2810029 T2 x42_18 x40_17 fun T3 =>
   faK 2810031 x3_9 2 fun x44_19 =>
   ldK 2810032 T3 ro x44_19 fun x45_20 =>
   faK 2810033 x3_9 1 fun x46_21 =>
   ldK 2810034 T3 ro x46_21 fun x47_22 =>
   callK (g103 ro a0 (.lit (.int .i64 (.ofNat 4))) x45_20 x47_22 (.lit (.slice none 0 0)) T3 n1) fun x48_23 T4 n4 =>
   .ok (.val x48_23) T4 n4
  )
  (
   faK 2810037 x3_9 0 fun x50_24 =>
   ldK 2810038 T2 ro x50_24 fun x51_25 =>
   eqK Tryz.prog 3 (.tmp 51) (.const (.int .i64 (.ofNat 3))) 2810039 x51_25 (.lit (.int .i64 (.ofNat 3))) fun x52_26 =>
   condK 2810041 x52_26
   (
    lpf4 2810043 (g281_b1 ih ro) 100000 a0 (.lit (.int .i64 (.ofNat 0))) x3_9 (.lit (.string ⟨⟨[]⟩⟩)) T2 n1
   )
   (
    callK (g154 ro a0 (.lit (.string ⟨⟨[78, 111, 110, 101]⟩⟩)) T2 n1) fun x83_45 T9 n9 =>
    condK 2810076 x83_45
    (
     .bad 2810077
    )
    (
     callK (g154 ro a0 (.lit (.string ⟨⟨[84, 114, 117, 101]⟩⟩)) T9 n9) fun x90_46 T10 n10 =>
     condK 2810081 x90_46
     (
      .bad 2810082
     )
     (
      callK (g154 ro a0 (.lit (.string ⟨⟨[70, 97, 108, 115, 101]⟩⟩)) T10 n10) fun x97_47 T11 n11 =>
      condK 2810086 x97_47
      (
       .bad 2810087
      )
      (
       bsK 2810089 T11 n11 1 9 1 [(0, (.lit (.string ⟨⟨[40]⟩⟩)))] fun x104_48 T12 n12 =>
       callK (g134 ro a0 x104_48 T12 n12) fun x105_49 T13 n13 =>
       condK 2810092 x105_49
       (
        callK (ih 285 ro [a0] T13 n13) fun x107_50 T14 n14 =>
        .ok (.val x107_50) T14 n14
       )
       (
        bsK 2810097 T13 n13 1 9 1 [(0, (.lit (.string ⟨⟨[91]⟩⟩)))] fun x110_51 T15 n15 =>
        callK (g134 ro a0 x110_51 T15 n15) fun x111_52 T16 n16 =>
        condK 2810100 x111_52
        (
         callK (ih 286 ro [a0] T16 n16) fun x113_53 T17 n17 =>
         .ok (.val x113_53) T17 n17
        )
        (
         bsK 2810105 T16 n16 1 9 1 [(0, (.lit (.string ⟨⟨[123]⟩⟩)))] fun x116_54 T18 n18 =>
         callK (g134 ro a0 x116_54 T18 n18) fun x117_55 T19 n19 =>
         condK 2810108 x117_55
         (
          callK (ih 287 ro [a0] T19 n19) fun x119_56 T20 n20 =>
          .ok (.val x119_56) T20 n20
         )
         (
          callK (g116 ro a0 T19 n19) fun x121_57 T21 n21 =>
          .ok (.val (.lit (.int .i64 (.ofNat 0)))) T21 n21
         )
        )
       )
      )
     )
    )
   )
  )
 )
theorem g281_ok (ih : FuncId → List HT → List AV → HT → Nat → R) (hI : ∀ f ro args T nx, GOk Tryz.prog envE f args ro T nx (ih f ro args T nx)) (ro : List HT) (a0 : AV) (T : HT) (nx : Nat) : GOk Tryz.prog envE 281 [a0] ro T nx (g281 ih ro a0 T nx) := by
 refine GOk.of_body Tryz.func281 rfl Tryz.ntmps281 (by kernel_rfl) rfl fun r T' n' h1 w0 base ρ0 its hS hP => ?_
 have X : CtxW envE ρ0 ro r T' n' := trivial
 unfold g281 at h1
 refine sr ?_
 refine as_ ?_
 refine dn ?_
 refine CV.seq ?_
 refine CV.regionM [(0, .anywhere), (1, .anywhere), (2, .anywhere), (3, .held), (4, .anywhere), (5, .anywhere), (6, .anywhere), (7, .held), (8, .held), (9, .held), (10, .alone), (11, .alone)] rfl (fun c a a' w hd hq => PanicOk.root (P := Tryz.prog) (fn := Tryz.f281) (w0 := w0) (base := base) (E := envE) (ro := ro) (r := r) (T' := T') (n' := n') (ρ0 := ρ0) c a a' w hd hq) (by kernel_rfl) ?_
 refine MV.step0 (i := 0) rfl (VAL.move rfl) rfl rfl rfl ?_
 refine MV.lift0 (i := 1) rfl (V.nc h1 rfl) rfl rfl rfl fun x6_1 h2 => ?_
 refine MV.lift0 (i := 2) rfl (V.fa h2 rfl Vdf.fo185_0) rfl rfl rfl fun x7_2 h3 => ?_
 refine MV.lift1 (i := 3) rfl (fun _ z => z) (V.ld hS h3 rfl Vdf.one183) rfl rfl rfl [] (by kernel_rfl) fun x8_3 h4 => ?_
 refine MV.step0 (i := 4) rfl (VAL.move rfl) rfl rfl rfl ?_
 refine MV.lift0 (i := 5) rfl (V.nc h4 rfl) rfl rfl rfl fun x10_4 h5 => ?_
 refine MV.lift0 (i := 6) rfl (V.fa h5 rfl Vdf.fo185_1) rfl rfl rfl fun x11_5 h6 => ?_
 refine MV.lift1 (i := 7) rfl (fun _ z => z) (V.ld hS h6 rfl Vdf.one3) rfl rfl rfl [3] (by kernel_rfl) fun x12_6 h7 => ?_
 refine MV.lift1 (i := 8) rfl (fun _ z => z) (V.ia h7 rfl rfl Vdf.el183) rfl rfl rfl [] (by kernel_rfl) fun x13_7 h8 => ?_
 refine MV.lift1 (i := 9) rfl (fun _ z => z) (V.ldA hS h8 rfl Vdf.agg233) rfl rfl rfl [] (by kernel_rfl) fun x14_8 h9 => ?_
 refine MV.force (i := 10) rfl ?_
 refine LV.alloc hS h9 rfl Vdf.zr233 rfl rfl rfl fun x3_9 T1 n1 h10 ρ its hS hdr => ?_
 refine LV.nextM [9] (by kernel_rfl) (fun _ => hdr) ?_
 refine MV.force (i := 11) rfl ?_
 refine LV.stA hS h10 rfl rfl rfl Vdf.agg233 rfl rfl rfl fun T2 its h11 hS => ?_
 refine LV.nextM [] (by kernel_rfl) (fun z => absurd rfl z) ?_
 refine mdn ?_
 refine CV.seq ?_
 refine CV.block ?_
 refine sr ?_
 refine vy (V.fa h11 rfl Vdf.fo233_0) fun x16_10 h12 => ?_
 refine vy (V.ld hS h12 rfl Vdf.one3) fun x17_11 h13 => ?_
 refine vy (V.eq h13 rfl rfl) fun x18_12 h14 => ?_
 refine as_ ?_
 refine dn ?_
 refine CV.cond h14 rfl (fun e h15 => ?_) (fun e h15 => ?_)
 ·
  clear h1 h2 h3 h4 h5 h6 h7 h8 h9 h10 h11 h12 h13 h14
  subst e
  cases h15
 ·
  clear h1 h2 h3 h4 h5 h6 h7 h8 h9 h10 h11 h12 h13 h14
  subst e
  refine sr ?_
  refine vy (V.fa h15 rfl Vdf.fo233_0) fun x33_13 h16 => ?_
  refine vy (V.ld hS h16 rfl Vdf.one3) fun x34_14 h17 => ?_
  refine vy (V.eq h17 rfl rfl) fun x35_15 h18 => ?_
  refine as_ ?_
  refine dn ?_
  refine CV.cond h18 rfl (fun e h19 => ?_) (fun e h19 => ?_)
  ·
   clear h15 h16 h17 h18
   subst e
   refine sr ?_
   refine mv ?_
   refine fl hS h19 Vdf.fo185_1 Vdf.one3 fun x39_16 h20 => ?_
   refine vy (V.add h20 rfl rfl) fun x40_17 h21 => ?_
   refine fa2 h21 Vdf.fo185_1 fun x42_18 h22 => ?_
   refine LV.st hS h22 rfl rfl rfl Vdf.siz3 rfl rfl fun T3 its h23 hS => ?_
   refine dn ?_
   refine sr ?_
   refine mv ?_
   refine vy (V.fa h23 rfl Vdf.fo233_2) fun x44_19 h24 => ?_
   refine vy (V.ld hS h24 rfl Vdf.one3) fun x45_20 h25 => ?_
   refine vy (V.fa h25 rfl Vdf.fo233_1) fun x46_21 h26 => ?_
   refine vy (V.ld hS h26 rfl Vdf.one9) fun x47_22 h27 => ?_
   refine LV.call hS h27 (g103_ok _ _ _ _ _ _ _ _ ) hP rfl rfl rfl rfl fun x48_23 T4 n4 h28 ρ its hS => ?_
   refine as_ ?_
   refine dn ?_
   refine CV.ret ?_
   refine PV.blockR ?_
   refine PV.thenR ?_
   cases h28
   exact PV.ret (by simp) Tryz.results281 hS (RS.tmp rfl RS.nil) rfl
  ·
   clear h15 h16 h17 h18
   subst e
   refine sr ?_
   refine vy (V.fa h19 rfl Vdf.fo233_0) fun x50_24 h29 => ?_
   refine vy (V.ld hS h29 rfl Vdf.one3) fun x51_25 h30 => ?_
   refine vy (V.eq h30 rfl rfl) fun x52_26 h31 => ?_
   refine as_ ?_
   refine dn ?_
   refine CV.cond h31 rfl (fun e h32 => ?_) (fun e h32 => ?_)
   ·
    clear h19 h29 h30 h31
    subst e
    refine sr ?_
    refine as_ ?_
    refine dn ?_
    refine CV.seq ?_
    refine CV.block ?_
    refine cl4 X 0 2 3 4 [] hS h32 ⟨rfl, rfl, rfl, rfl, trivial⟩ ?_
    intro f1 y0 y2 y3 y4 T5 n5 ρ its hS h33
    unfold g281_b1 at h33
    clear h32
    refine CV.seq ?_
    refine sr ?_
    refine mv ?_
    refine LV.call hS h33 (g86_ok _ _ _ _ ) hP rfl rfl rfl rfl fun x54_27 T6 n6 h34 ρ its hS => ?_
    refine vy (V.eq h34 rfl rfl) fun x55_28 h35 => ?_
    refine dn ?_
    refine CV.cond h35 rfl (fun e h36 => ?_) (fun e h36 => ?_)
    ·
     clear h33 h34 h35
     subst e
     refine CV.skip ?_
     refine PV.thenN ?_
     refine CV.block ?_
     refine CV.seq ?_
     refine CV.regionM [(0, .anywhere), (1, .anywhere), (2, .anywhere), (3, .anywhere), (4, .held), (5, .anywhere), (6, .anywhere), (7, .anywhere), (8, .held), (9, .held), (10, .held), (11, .held), (12, .held), (13, .held)] rfl (fun c a a' w hd hq => PanicOk.root (P := Tryz.prog) (fn := Tryz.f281) (w0 := w0) (base := base) (E := envE) (ro := ro) (r := r) (T' := T') (n' := n') (ρ0 := ρ0) c a a' w hd hq) (by kernel_rfl) ?_
     refine MV.step0 (i := 0) rfl (VAL.move rfl) rfl rfl rfl ?_
     refine MV.step0 (i := 1) rfl (VAL.move rfl) rfl rfl rfl ?_
     refine MV.lift0 (i := 2) rfl (V.nc h36 rfl) rfl rfl rfl fun x58_29 h37 => ?_
     refine MV.lift0 (i := 3) rfl (V.fa h37 rfl Vdf.fo185_0) rfl rfl rfl fun x59_30 h38 => ?_
     refine MV.lift1 (i := 4) rfl (fun _ z => z) (V.ld hS h38 rfl Vdf.one183) rfl rfl rfl [] (by kernel_rfl) fun x60_31 h39 => ?_
     refine MV.step0 (i := 5) rfl (VAL.move rfl) rfl rfl rfl ?_
     refine MV.lift0 (i := 6) rfl (V.nc h39 rfl) rfl rfl rfl fun x62_32 h40 => ?_
     refine MV.lift0 (i := 7) rfl (V.fa h40 rfl Vdf.fo185_1) rfl rfl rfl fun x63_33 h41 => ?_
     refine MV.lift1 (i := 8) rfl (fun _ z => z) (V.ld hS h41 rfl Vdf.one3) rfl rfl rfl [4] (by kernel_rfl) fun x64_34 h42 => ?_
     refine MV.lift1 (i := 9) rfl (fun _ z => z) (V.ia h42 rfl rfl Vdf.el183) rfl rfl rfl [] (by kernel_rfl) fun x65_35 h43 => ?_
     refine MV.lift1 (i := 10) rfl (fun _ z => z) (V.fa h43 rfl Vdf.fo233_1) rfl rfl rfl [] (by kernel_rfl) fun x66_36 h44 => ?_
     refine MV.lift1 (i := 11) rfl (fun _ z => z) (V.ld hS h44 rfl Vdf.one9) rfl rfl rfl [] (by kernel_rfl) fun x67_37 h45 => ?_
     refine MV.lift1 (i := 12) rfl (fun _ z => z) (V.addS h45 rfl rfl) rfl rfl rfl [] (by kernel_rfl) fun x68_38 h46 => ?_
     refine MV.step1 (i := 13) rfl (fun _ z => z) (VAL.assign rfl) rfl rfl rfl [] (by kernel_rfl) ?_
     refine mdn ?_
     refine CV.region ?_
     refine mv ?_
     refine fl hS h46 Vdf.fo185_1 Vdf.one3 fun x72_39 h47 => ?_
     refine vy (V.add h47 rfl rfl) fun x73_40 h48 => ?_
     refine fa2 h48 Vdf.fo185_1 fun x75_41 h49 => ?_
     refine LV.st hS h49 rfl rfl rfl Vdf.siz3 rfl rfl fun T7 its h50 hS => ?_
     refine LV.done ?_
     refine PV.blockN ?_
     exact pb4 hS h50 ⟨rfl, rfl, rfl, rfl, trivial⟩
    ·
     clear h33 h34 h35
     subst e
     refine CV.exit ?_
     refine PV.thenE ?_
     refine PV.thenE ?_
     refine PV.blockE ?_
     refine PV.thenN ?_
     refine sr ?_
     refine mv ?_
     refine vy (V.fa h36 rfl Vdf.fo233_2) fun x77_42 h51 => ?_
     refine vy (V.ld hS h51 rfl Vdf.one3) fun x78_43 h52 => ?_
     refine mv ?_
     refine LV.call hS h52 (g103_ok _ _ _ _ _ _ _ _ ) hP rfl rfl rfl rfl fun x80_44 T8 n8 h53 ρ its hS => ?_
     refine as_ ?_
     refine dn ?_
     refine CV.ret ?_
     refine PV.blockR ?_
     refine PV.thenR ?_
     cases h53
     exact PV.ret (by simp) Tryz.results281 hS (RS.tmp rfl RS.nil) rfl
   ·
    clear h19 h29 h30 h31
    subst e
    refine sr ?_
    refine mv ?_
    refine LV.call hS h32 (g154_ok _ _ _ _ _ ) hP rfl rfl rfl rfl fun x83_45 T9 n9 h54 ρ its hS => ?_
    refine as_ ?_
    refine dn ?_
    refine CV.cond h54 rfl (fun e h55 => ?_) (fun e h55 => ?_)
    ·
     clear h32 h54
     subst e
     cases h55
    ·
     clear h32 h54
     subst e
     refine sr ?_
     refine mv ?_
     refine LV.call hS h55 (g154_ok _ _ _ _ _ ) hP rfl rfl rfl rfl fun x90_46 T10 n10 h56 ρ its hS => ?_
     refine as_ ?_
     refine dn ?_
     refine CV.cond h56 rfl (fun e h57 => ?_) (fun e h57 => ?_)
     ·
      clear h55 h56
      subst e
      cases h57
     ·
      clear h55 h56
      subst e
      refine sr ?_
      refine mv ?_
      refine LV.call hS h57 (g154_ok _ _ _ _ _ ) hP rfl rfl rfl rfl fun x97_47 T11 n11 h58 ρ its hS => ?_
      refine as_ ?_
      refine dn ?_
      refine CV.cond h58 rfl (fun e h59 => ?_) (fun e h59 => ?_)
      ·
       clear h57 h58
       subst e
       cases h59
      ·
       clear h57 h58
       subst e
       refine sr ?_
       refine mv ?_
       refine LV.bslice hS h59 rfl rfl Vdf.el54 rfl rfl rfl rfl fun x104_48 T12 n12 h60 ρ its hS hdr => ?_
       refine LV.call hS h60 (g134_ok _ _ _ _ _ ) hP rfl rfl rfl rfl fun x105_49 T13 n13 h61 ρ its hS => ?_
       refine as_ ?_
       refine dn ?_
       refine CV.cond h61 rfl (fun e h62 => ?_) (fun e h62 => ?_)
       ·
        clear h59 h60 h61
        subst e
        refine sr ?_
        refine mv ?_
        refine LV.call hS h62 (hI _ _ _ _ _) hP rfl rfl rfl rfl fun x107_50 T14 n14 h63 ρ its hS => ?_
        refine as_ ?_
        refine dn ?_
        refine CV.ret ?_
        refine PV.blockR ?_
        refine PV.thenR ?_
        cases h63
        exact PV.ret (by simp) Tryz.results281 hS (RS.tmp rfl RS.nil) rfl
       ·
        clear h59 h60 h61
        subst e
        refine sr ?_
        refine mv ?_
        refine LV.bslice hS h62 rfl rfl Vdf.el54 rfl rfl rfl rfl fun x110_51 T15 n15 h64 ρ its hS hdr => ?_
        refine LV.call hS h64 (g134_ok _ _ _ _ _ ) hP rfl rfl rfl rfl fun x111_52 T16 n16 h65 ρ its hS => ?_
        refine as_ ?_
        refine dn ?_
        refine CV.cond h65 rfl (fun e h66 => ?_) (fun e h66 => ?_)
        ·
         clear h62 h64 h65
         subst e
         refine sr ?_
         refine mv ?_
         refine LV.call hS h66 (hI _ _ _ _ _) hP rfl rfl rfl rfl fun x113_53 T17 n17 h67 ρ its hS => ?_
         refine as_ ?_
         refine dn ?_
         refine CV.ret ?_
         refine PV.blockR ?_
         refine PV.thenR ?_
         cases h67
         exact PV.ret (by simp) Tryz.results281 hS (RS.tmp rfl RS.nil) rfl
        ·
         clear h62 h64 h65
         subst e
         refine sr ?_
         refine mv ?_
         refine LV.bslice hS h66 rfl rfl Vdf.el54 rfl rfl rfl rfl fun x116_54 T18 n18 h68 ρ its hS hdr => ?_
         refine LV.call hS h68 (g134_ok _ _ _ _ _ ) hP rfl rfl rfl rfl fun x117_55 T19 n19 h69 ρ its hS => ?_
         refine as_ ?_
         refine dn ?_
         refine CV.cond h69 rfl (fun e h70 => ?_) (fun e h70 => ?_)
         ·
          clear h66 h68 h69
          subst e
          refine sr ?_
          refine mv ?_
          refine LV.call hS h70 (hI _ _ _ _ _) hP rfl rfl rfl rfl fun x119_56 T20 n20 h71 ρ its hS => ?_
          refine as_ ?_
          refine dn ?_
          refine CV.ret ?_
          refine PV.blockR ?_
          refine PV.thenR ?_
          cases h71
          exact PV.ret (by simp) Tryz.results281 hS (RS.tmp rfl RS.nil) rfl
         ·
          clear h66 h68 h69
          subst e
          refine CV.skip ?_
          refine PV.blockN ?_
          refine PV.thenN ?_
          refine sr ?_
          refine mv ?_
          refine LV.call hS h70 (g116_ok _ _ _ _ ) hP rfl rfl rfl rfl fun x121_57 T21 n21 h72 ρ its hS => ?_
          refine dn ?_
          refine sr ?_
          refine as_ ?_
          refine dn ?_
          refine CV.ret ?_
          cases h72
          exact PV.ret (by simp) Tryz.results281 hS (RS.tmp rfl RS.nil) rfl
noncomputable def g284 (ih : FuncId → List HT → List AV → HT → Nat → R) (ro : List HT) (a0 : AV) (T : HT) (nx : Nat) : R :=
 bsK 2840005 T nx 2 9 1 [(0, (.lit (.string ⟨⟨[43]⟩⟩))), (1, (.lit (.string ⟨⟨[45]⟩⟩)))] fun x6_1 T1 n1 =>
 callK (ih 256 ro [a0, (.fn (.func 288) [a0] []), x6_1] T1 n1) fun x7_2 T2 n2 =>
 .ok (.val x7_2) T2 n2
theorem g284_ok (ih : FuncId → List HT → List AV → HT → Nat → R) (hI : ∀ f ro args T nx, GOk Tryz.prog envE f args ro T nx (ih f ro args T nx)) (ro : List HT) (a0 : AV) (T : HT) (nx : Nat) : GOk Tryz.prog envE 284 [a0] ro T nx (g284 ih ro a0 T nx) := by
 refine GOk.of_body Tryz.func284 rfl Tryz.ntmps284 (by kernel_rfl) rfl fun r T' n' h1 w0 base ρ0 its hS hP => ?_
 have X : CtxW envE ρ0 ro r T' n' := trivial
 unfold g284 at h1
 refine sr ?_
 refine as_ ?_
 refine dn ?_
 refine sr ?_
 refine mv ?_
 refine mv ?_
 refine pu ?_
 refine LV.bslice hS h1 rfl rfl Vdf.el54 rfl rfl rfl rfl fun x6_1 T1 n1 h2 ρ its hS hdr => ?_
 refine LV.call hS h2 (hI _ _ _ _ _) hP rfl rfl rfl rfl fun x7_2 T2 n2 h3 ρ its hS => ?_
 refine as_ ?_
 refine dn ?_
 refine CV.ret ?_
 cases h3
 exact PV.ret (by simp) Tryz.results284 hS (RS.tmp rfl RS.nil) rfl
noncomputable def g285_k1 (ih : FuncId → List HT → List AV → HT → Nat → R) (ro : List HT) (y2 y4 : AV) (T7 : HT) (n7 : Nat) : R :=
 .ok (.val y4) T7 n7
noncomputable def g285 (ih : FuncId → List HT → List AV → HT → Nat → R) (ro : List HT) (a0 : AV) (T : HT) (nx : Nat) : R :=
 callK (g180 ro a0 (.lit (.string ⟨⟨[40]⟩⟩)) T nx) fun x7_1 T1 n1 =>
 callK (g179 ro a0 x7_1 T1 n1) fun x10_2 T2 n2 =>
 callK (g154 ro a0 (.lit (.string ⟨⟨[41]⟩⟩)) T2 n2) fun x12_3 T3 n3 =>
 condK 2850010 x12_3
 (
  .bad 2850011
 )
 (
  callK (ih 115 ro [a0] T3 n3) fun x25_4 T4 n4 =>
  exK 2850015 x25_4 0 fun x26_5 =>
  exK 2850016 x25_4 1 fun x27_6 =>
  callK (g180 ro a0 (.lit (.string ⟨⟨[41]⟩⟩)) T4 n4) fun x29_7 T5 n5 =>
  fldK 2850022 T5 ro a0 3 fun x33_8 =>
  subK Tryz.prog 3 (.tmp 33) (.const (.int .i64 (.ofNat 1))) 2850023 x33_8 (.lit (.int .i64 (.ofNat 1))) fun x34_9 =>
  faK 2850024 a0 3 fun x36_10 =>
  stK 2850025 T5 x36_10 x34_9 fun T6 =>
  condK 2850029 x27_6
  (
   fldK 2850031 T6 ro a0 2 fun x41_11 =>
   iaK 2850034 x41_11 x26_5 5 fun x44_12 =>
   faK 2850035 x44_12 2 fun x45_13 =>
   stK 2850036 T6 x45_13 x7_1 fun T8 =>
   g285_k1 ih ro (.lit (.int .i64 (.ofNat 0))) x26_5 T8 n5
  )
  (
   g285_k1 ih ro (.lit (.int .i64 (.ofNat 0))) x26_5 T6 n5
  )
 )
theorem g285_ok (ih : FuncId → List HT → List AV → HT → Nat → R) (hI : ∀ f ro args T nx, GOk Tryz.prog envE f args ro T nx (ih f ro args T nx)) (ro : List HT) (a0 : AV) (T : HT) (nx : Nat) : GOk Tryz.prog envE 285 [a0] ro T nx (g285 ih ro a0 T nx) := by
 refine GOk.of_body Tryz.func285 rfl Tryz.ntmps285 (by kernel_rfl) rfl fun r T' n' h1 w0 base ρ0 its hS hP => ?_
 have X : CtxW envE ρ0 ro r T' n' := trivial
 unfold g285 at h1
 refine sr ?_
 refine as_ ?_
 refine dn ?_
 refine sr ?_
 refine mv ?_
 refine LV.call hS h1 (g180_ok _ _ _ _ _ ) hP rfl rfl rfl rfl fun x7_1 T1 n1 h2 ρ its hS => ?_
 refine as_ ?_
 refine dn ?_
 refine sr ?_
 refine mv ?_
 refine mv ?_
 refine LV.call hS h2 (g179_ok _ _ _ _ _ ) hP rfl rfl rfl rfl fun x10_2 T2 n2 h3 ρ its hS => ?_
 refine dn ?_
 refine CV.seq ?_
 refine sr ?_
 refine mv ?_
 refine LV.call hS h3 (g154_ok _ _ _ _ _ ) hP rfl rfl rfl rfl fun x12_3 T3 n3 h4 ρ its hS => ?_
 refine dn ?_
 refine CV.cond h4 rfl (fun e h5 => ?_) (fun e h5 => ?_)
 ·
  clear h1 h2 h3 h4
  subst e
  cases h5
 ·
  clear h1 h2 h3 h4
  subst e
  refine CV.skip ?_
  refine PV.thenN ?_
  refine sr ?_
  refine mv ?_
  refine LV.call hS h5 (hI _ _ _ _ _) hP rfl rfl rfl rfl fun x25_4 T4 n4 h6 ρ its hS => ?_
  refine mv ?_
  refine vy (V.ex h6 rfl) fun x26_5 h7 => ?_
  refine vy (V.ex h7 rfl) fun x27_6 h8 => ?_
  refine as_ ?_
  refine as_ ?_
  refine dn ?_
  refine sr ?_
  refine mv ?_
  refine LV.call hS h8 (g180_ok _ _ _ _ _ ) hP rfl rfl rfl rfl fun x29_7 T5 n5 h9 ρ its hS => ?_
  refine dn ?_
  refine sr ?_
  refine mv ?_
  refine fl hS h9 Vdf.fo185_3 Vdf.one3 fun x33_8 h10 => ?_
  refine vy (V.sub h10 rfl rfl) fun x34_9 h11 => ?_
  refine fa2 h11 Vdf.fo185_3 fun x36_10 h12 => ?_
  refine LV.st hS h12 rfl rfl rfl Vdf.siz3 rfl rfl fun T6 its h13 hS => ?_
  refine dn ?_
  refine cs2 X 2 4 [] (g285_k1 ih ro) ?_ ?_
  ·
   refine sr ?_
   refine mv ?_
   refine dn ?_
   refine CV.cond h13 rfl (fun e h15 => ?_) (fun e h15 => ?_)
   ·
    clear h5 h6 h7 h8 h9 h10 h11 h12 h13
    subst e
    refine CV.region ?_
    refine mv ?_
    refine fl hS h15 Vdf.fo185_2 Vdf.one109 fun x41_11 h16 => ?_
    refine mv ?_
    refine mv ?_
    refine vy (V.ia h16 rfl rfl Vdf.el109) fun x44_12 h17 => ?_
    refine vy (V.fa h17 rfl Vdf.fo172_2) fun x45_13 h18 => ?_
    refine LV.st hS h18 rfl rfl rfl Vdf.siz3 rfl rfl fun T8 its h19 hS => ?_
    refine LV.done ?_
    exact pa2 hS h19 ⟨rfl, rfl, trivial⟩
   ·
    clear h5 h6 h7 h8 h9 h10 h11 h12 h13
    subst e
    refine CV.skip ?_
    exact pa2 hS h15 ⟨rfl, rfl, trivial⟩
  ·
   intro y2 y4 T7 n7 ρ its hS h14
   unfold g285_k1 at h14
   clear h5 h6 h7 h8 h9 h10 h11 h12 h13
   refine sr ?_
   refine mv ?_
   refine as_ ?_
   refine dn ?_
   refine CV.ret ?_
   cases h14
   exact PV.ret (by simp) Tryz.results285 hS (RS.tmp rfl RS.nil) rfl
noncomputable def g286_k1 (ih : FuncId → List HT → List AV → HT → Nat → R) (ro : List HT) (y0 y2 y3 y4 : AV) (T3 : HT) (n3 : Nat) : R :=
 callK (g180 ro y0 (.lit (.string ⟨⟨[93]⟩⟩)) T3 n3) fun x37_3 T4 n4 =>
 fldK 2860012 T4 ro y0 3 fun x41_4 =>
 subK Tryz.prog 3 (.tmp 41) (.const (.int .i64 (.ofNat 1))) 2860013 x41_4 (.lit (.int .i64 (.ofNat 1))) fun x42_5 =>
 faK 2860014 y0 3 fun x44_6 =>
 stK 2860015 T4 x44_6 x42_5 fun T5 =>
 callK (g103 ro y0 (.lit (.int .i64 (.ofNat 7))) y3 (.lit (.string ⟨⟨[]⟩⟩)) y4 T5 n4) fun x48_7 T6 n6 =>
 .ok (.val x48_7) T6 n6
noncomputable def g286_k3 (ih : FuncId → List HT → List AV → HT → Nat → R) (ro : List HT) (lp2 : AV → AV → AV → AV → HT → Nat → R) (y0 y2 y3 y4 y26 : AV) (T14 : HT) (n14 : Nat) : R :=
 condK 2860038 y26
 (
  .bad 2860039
 )
 (
  callK (g154 ro y0 (.lit (.string ⟨⟨[44]⟩⟩)) T14 n14) fun x34_16 T15 n15 =>
  notK 2860042 x34_16 fun x35_17 =>
  condK 2860043 x35_17
  (
   g286_k1 ih ro y0 y2 y3 y4 T15 n15
  )
  (
   lp2 y0 y2 y3 y4 T15 n15
  )
 )
noncomputable def g286_b2 (ih : FuncId → List HT → List AV → HT → Nat → R) (ro : List HT) (lp2 : AV → AV → AV → AV → HT → Nat → R) (y0 y2 y3 y4 : AV) (T7 : HT) (n7 : Nat) : R :=
 bsK 2860023 T7 n7 1 9 1 [(0, (.lit (.string ⟨⟨[93]⟩⟩)))] fun x11_8 T8 n8 =>
 callK (g134 ro y0 x11_8 T8 n8) fun x12_9 T9 n9 =>
 notK 2860025 x12_9 fun x13_10 =>
 condK 2860026 x13_10
 (
  callK (ih 153 ro [y0] T9 n9) fun x16_11 T10 n10 =>
  bsK 2860030 T10 n10 1 3 1 [(0, x16_11)] fun x17_12 T11 n11 =>
  shrK 2860032 T11 y4 fun T12 =>
  appEK 2860031 T12 ro n11 3 1 8 y4 x17_12 fun x18_13 T13 n13 =>
  lenSK 2860035 x18_13 fun x20_14 =>
  eqK Tryz.prog 3 (.tmp 20) (.const (.int .i64 (.ofNat 1))) 2860036 x20_14 (.lit (.int .i64 (.ofNat 1))) fun x21_15 =>
  condK 2860044 x21_15
  (
   bsK 2860046 T13 n13 1 9 1 [(0, (.lit (.string ⟨⟨[102, 111, 114]⟩⟩)))] fun x24_18 T16 n16 =>
   callK (g134 ro y0 x24_18 T16 n16) fun x25_19 T17 n17 =>
   g286_k3 ih ro lp2 y0 y2 y3 x18_13 x25_19 T17 n17
  )
  (
   g286_k3 ih ro lp2 y0 y2 y3 x18_13 (.lit (.bool false)) T13 n13
  )
 )
 (
  g286_k1 ih ro y0 y2 y3 y4 T9 n9
 )
noncomputable def g286 (ih : FuncId → List HT → List AV → HT → Nat → R) (ro : List HT) (a0 : AV) (T : HT) (nx : Nat) : R :=
 callK (g180 ro a0 (.lit (.string ⟨⟨[91]⟩⟩)) T nx) fun x6_1 T1 n1 =>
 callK (g179 ro a0 x6_1 T1 n1) fun x9_2 T2 n2 =>
 lpf4 2860021 (g286_b2 ih ro) 100000 a0 (.lit (.int .i64 (.ofNat 0))) x6_1 (.lit (.slice none 0 0)) T2 n2
theorem g286_ok (ih : FuncId → List HT → List AV → HT → Nat → R) (hI : ∀ f ro args T nx, GOk Tryz.prog envE f args ro T nx (ih f ro args T nx)) (ro : List HT) (a0 : AV) (T : HT) (nx : Nat) : GOk Tryz.prog envE 286 [a0] ro T nx (g286 ih ro a0 T nx) := by
 refine GOk.of_body Tryz.func286 rfl Tryz.ntmps286 (by kernel_rfl) rfl fun r T' n' h1 w0 base ρ0 its hS hP => ?_
 have X : CtxW envE ρ0 ro r T' n' := trivial
 unfold g286 at h1
 refine sr ?_
 refine as_ ?_
 refine dn ?_
 refine sr ?_
 refine mv ?_
 refine LV.call hS h1 (g180_ok _ _ _ _ _ ) hP rfl rfl rfl rfl fun x6_1 T1 n1 h2 ρ its hS => ?_
 refine as_ ?_
 refine dn ?_
 refine sr ?_
 refine mv ?_
 refine mv ?_
 refine LV.call hS h2 (g179_ok _ _ _ _ _ ) hP rfl rfl rfl rfl fun x9_2 T2 n2 h3 ρ its hS => ?_
 refine dn ?_
 refine sr ?_
 refine as_ ?_
 refine dn ?_
 refine cs4 X 0 2 3 4 [] (g286_k1 ih ro) ?_ ?_
 ·
  refine CV.block ?_
  refine cl4 X 0 2 3 4 [] hS h3 ⟨rfl, rfl, rfl, rfl, trivial⟩ ?_
  intro f2 y0 y2 y3 y4 T7 n7 ρ its hS h11
  unfold g286_b2 at h11
  clear h1 h2 h3
  refine CV.seq ?_
  refine sr ?_
  refine mv ?_
  refine LV.bslice hS h11 rfl rfl Vdf.el54 rfl rfl rfl rfl fun x11_8 T8 n8 h12 ρ its hS hdr => ?_
  refine LV.call hS h12 (g134_ok _ _ _ _ _ ) hP rfl rfl rfl rfl fun x12_9 T9 n9 h13 ρ its hS => ?_
  refine vy (V.not h13 rfl) fun x13_10 h14 => ?_
  refine dn ?_
  refine CV.cond h14 rfl (fun e h15 => ?_) (fun e h15 => ?_)
  ·
   clear h11 h12 h13 h14
   subst e
   refine CV.skip ?_
   refine PV.thenN ?_
   refine CV.block ?_
   refine sr ?_
   refine mv ?_
   refine mv ?_
   refine LV.call hS h15 (hI _ _ _ _ _) hP rfl rfl rfl rfl fun x16_11 T10 n10 h16 ρ its hS => ?_
   refine LV.bslice hS h16 rfl rfl Vdf.el170 rfl rfl rfl rfl fun x17_12 T11 n11 h17 ρ its hS hdr => ?_
   obtain ⟨T12, its1, h18, hS, hW⟩ := shrK_inv hS h17
   refine LV.world hW ?_
   refine LV.appE hS h18 rfl rfl rfl rfl Vdf.el170 rfl rfl rfl fun x18_13 T13 n13 h19 ρ its hS => ?_
   refine as_ ?_
   refine dn ?_
   refine CV.seq ?_
   refine sr ?_
   refine mv ?_
   refine vy (V.lenS h19 rfl Vdf.ls170) fun x20_14 h20 => ?_
   refine vy (V.eq h20 rfl rfl) fun x21_15 h21 => ?_
   refine mv ?_
   refine ls5 X 0 2 3 4 26 [] (g286_k3 ih ro (lpf4 2860021 (g286_b2 ih ro) f2)) 4 ?_ ?_
   ·
    rcases condK_inv h21 with ⟨e, h27⟩ | ⟨e, h27⟩
    ·
     clear h15 h16 h17 h18 h19 h20 h21
     subst e
     refine mv ?_
     refine LV.bslice hS h27 rfl rfl Vdf.el54 rfl rfl rfl rfl fun x24_18 T16 n16 h28 ρ its hS hdr => ?_
     refine LV.call hS h28 (g134_ok _ _ _ _ _ ) hP rfl rfl rfl rfl fun x25_19 T17 n17 h29 ρ its hS => ?_
     refine pu ?_
     exact la5 hS h29 ⟨rfl, rfl, rfl, rfl, rfl, trivial⟩
    ·
     clear h15 h16 h17 h18 h19 h20 h21
     subst e
     refine sk ?_
     refine sk ?_
     refine sk ?_
     refine pu ?_
     exact la5 hS h27 ⟨rfl, rfl, rfl, rfl, rfl, trivial⟩
   ·
    intro y0 y2 y3 y4 y26 T14 n14 ρ its hS h22
    unfold g286_k3 at h22
    clear h15 h16 h17 h18 h19 h20 h21
    refine dn ?_
    refine CV.cond h22 rfl (fun e h23 => ?_) (fun e h23 => ?_)
    ·
     clear h22
     subst e
     cases h23
    ·
     clear h22
     subst e
     refine CV.skip ?_
     refine PV.thenN ?_
     refine sr ?_
     refine mv ?_
     refine LV.call hS h23 (g154_ok _ _ _ _ _ ) hP rfl rfl rfl rfl fun x34_16 T15 n15 h24 ρ its hS => ?_
     refine vy (V.not h24 rfl) fun x35_17 h25 => ?_
     refine dn ?_
     refine CV.cond h25 rfl (fun e h26 => ?_) (fun e h26 => ?_)
     ·
      clear h23 h24 h25
      subst e
      refine CV.exit ?_
      refine PV.blockO rfl ?_
      refine PV.thenE ?_
      refine PV.blockE ?_
      exact pa4 hS h26 ⟨rfl, rfl, rfl, rfl, trivial⟩
     ·
      clear h23 h24 h25
      subst e
      refine CV.skip ?_
      refine PV.blockN ?_
      exact pb4 hS h26 ⟨rfl, rfl, rfl, rfl, trivial⟩
  ·
   clear h11 h12 h13 h14
   subst e
   refine CV.exit ?_
   refine PV.thenE ?_
   refine PV.thenE ?_
   refine PV.blockE ?_
   exact pa4 hS h15 ⟨rfl, rfl, rfl, rfl, trivial⟩
 ·
  intro y0 y2 y3 y4 T3 n3 ρ its hS h4
  unfold g286_k1 at h4
  clear h1 h2 h3
  refine sr ?_
  refine mv ?_
  refine LV.call hS h4 (g180_ok _ _ _ _ _ ) hP rfl rfl rfl rfl fun x37_3 T4 n4 h5 ρ its hS => ?_
  refine dn ?_
  refine sr ?_
  refine mv ?_
  refine fl hS h5 Vdf.fo185_3 Vdf.one3 fun x41_4 h6 => ?_
  refine vy (V.sub h6 rfl rfl) fun x42_5 h7 => ?_
  refine fa2 h7 Vdf.fo185_3 fun x44_6 h8 => ?_
  refine LV.st hS h8 rfl rfl rfl Vdf.siz3 rfl rfl fun T5 its h9 hS => ?_
  refine dn ?_
  refine sr ?_
  refine mv ?_
  refine mv ?_
  refine mv ?_
  refine LV.call hS h9 (g103_ok _ _ _ _ _ _ _ _ ) hP rfl rfl rfl rfl fun x48_7 T6 n6 h10 ρ its hS => ?_
  refine as_ ?_
  refine dn ?_
  refine CV.ret ?_
  cases h10
  exact PV.ret (by simp) Tryz.results286 hS (RS.tmp rfl RS.nil) rfl
noncomputable def g287_k1 (ih : FuncId → List HT → List AV → HT → Nat → R) (ro : List HT) (y0 y2 y3 y4 : AV) (T3 : HT) (n3 : Nat) : R :=
 callK (g180 ro y0 (.lit (.string ⟨⟨[125]⟩⟩)) T3 n3) fun x30_3 T4 n4 =>
 fldK 2870012 T4 ro y0 3 fun x34_4 =>
 subK Tryz.prog 3 (.tmp 34) (.const (.int .i64 (.ofNat 1))) 2870013 x34_4 (.lit (.int .i64 (.ofNat 1))) fun x35_5 =>
 faK 2870014 y0 3 fun x37_6 =>
 stK 2870015 T4 x37_6 x35_5 fun T5 =>
 callK (g103 ro y0 (.lit (.int .i64 (.ofNat 9))) y3 (.lit (.string ⟨⟨[]⟩⟩)) y4 T5 n4) fun x41_7 T6 n6 =>
 .ok (.val x41_7) T6 n6
noncomputable def g287_b2 (ih : FuncId → List HT → List AV → HT → Nat → R) (ro : List HT) (lp2 : AV → AV → AV → AV → HT → Nat → R) (y0 y2 y3 y4 : AV) (T7 : HT) (n7 : Nat) : R :=
 bsK 2870023 T7 n7 1 9 1 [(0, (.lit (.string ⟨⟨[125]⟩⟩)))] fun x11_8 T8 n8 =>
 callK (g134 ro y0 x11_8 T8 n8) fun x12_9 T9 n9 =>
 notK 2870025 x12_9 fun x13_10 =>
 condK 2870026 x13_10
 (
  callK (ih 153 ro [y0] T9 n9) fun x16_11 T10 n10 =>
  bsK 2870030 T10 n10 1 3 1 [(0, x16_11)] fun x17_12 T11 n11 =>
  shrK 2870032 T11 y4 fun T12 =>
  appEK 2870031 T12 ro n11 3 1 8 y4 x17_12 fun x18_13 T13 n13 =>
  callK (g180 ro y0 (.lit (.string ⟨⟨[58]⟩⟩)) T13 n13) fun x20_14 T14 n14 =>
  callK (ih 153 ro [y0] T14 n14) fun x23_15 T15 n15 =>
  bsK 2870039 T15 n15 1 3 1 [(0, x23_15)] fun x24_16 T16 n16 =>
  shrK 2870041 T16 x18_13 fun T17 =>
  appEK 2870040 T17 ro n16 3 1 8 x18_13 x24_16 fun x25_17 T18 n18 =>
  callK (g154 ro y0 (.lit (.string ⟨⟨[44]⟩⟩)) T18 n18) fun x27_18 T19 n19 =>
  notK 2870045 x27_18 fun x28_19 =>
  condK 2870046 x28_19
  (
   g287_k1 ih ro y0 y2 y3 x25_17 T19 n19
  )
  (
   lp2 y0 y2 y3 x25_17 T19 n19
  )
 )
 (
  g287_k1 ih ro y0 y2 y3 y4 T9 n9
 )
noncomputable def g287 (ih : FuncId → List HT → List AV → HT → Nat → R) (ro : List HT) (a0 : AV) (T : HT) (nx : Nat) : R :=
 callK (g180 ro a0 (.lit (.string ⟨⟨[123]⟩⟩)) T nx) fun x6_1 T1 n1 =>
 callK (g179 ro a0 x6_1 T1 n1) fun x9_2 T2 n2 =>
 lpf4 2870021 (g287_b2 ih ro) 100000 a0 (.lit (.int .i64 (.ofNat 0))) x6_1 (.lit (.slice none 0 0)) T2 n2
theorem g287_ok (ih : FuncId → List HT → List AV → HT → Nat → R) (hI : ∀ f ro args T nx, GOk Tryz.prog envE f args ro T nx (ih f ro args T nx)) (ro : List HT) (a0 : AV) (T : HT) (nx : Nat) : GOk Tryz.prog envE 287 [a0] ro T nx (g287 ih ro a0 T nx) := by
 refine GOk.of_body Tryz.func287 rfl Tryz.ntmps287 (by kernel_rfl) rfl fun r T' n' h1 w0 base ρ0 its hS hP => ?_
 have X : CtxW envE ρ0 ro r T' n' := trivial
 unfold g287 at h1
 refine sr ?_
 refine as_ ?_
 refine dn ?_
 refine sr ?_
 refine mv ?_
 refine LV.call hS h1 (g180_ok _ _ _ _ _ ) hP rfl rfl rfl rfl fun x6_1 T1 n1 h2 ρ its hS => ?_
 refine as_ ?_
 refine dn ?_
 refine sr ?_
 refine mv ?_
 refine mv ?_
 refine LV.call hS h2 (g179_ok _ _ _ _ _ ) hP rfl rfl rfl rfl fun x9_2 T2 n2 h3 ρ its hS => ?_
 refine dn ?_
 refine sr ?_
 refine as_ ?_
 refine dn ?_
 refine cs4 X 0 2 3 4 [] (g287_k1 ih ro) ?_ ?_
 ·
  refine CV.block ?_
  refine cl4 X 0 2 3 4 [] hS h3 ⟨rfl, rfl, rfl, rfl, trivial⟩ ?_
  intro f2 y0 y2 y3 y4 T7 n7 ρ its hS h11
  unfold g287_b2 at h11
  clear h1 h2 h3
  refine CV.seq ?_
  refine sr ?_
  refine mv ?_
  refine LV.bslice hS h11 rfl rfl Vdf.el54 rfl rfl rfl rfl fun x11_8 T8 n8 h12 ρ its hS hdr => ?_
  refine LV.call hS h12 (g134_ok _ _ _ _ _ ) hP rfl rfl rfl rfl fun x12_9 T9 n9 h13 ρ its hS => ?_
  refine vy (V.not h13 rfl) fun x13_10 h14 => ?_
  refine dn ?_
  refine CV.cond h14 rfl (fun e h15 => ?_) (fun e h15 => ?_)
  ·
   clear h11 h12 h13 h14
   subst e
   refine CV.skip ?_
   refine PV.thenN ?_
   refine CV.block ?_
   refine sr ?_
   refine mv ?_
   refine mv ?_
   refine LV.call hS h15 (hI _ _ _ _ _) hP rfl rfl rfl rfl fun x16_11 T10 n10 h16 ρ its hS => ?_
   refine LV.bslice hS h16 rfl rfl Vdf.el170 rfl rfl rfl rfl fun x17_12 T11 n11 h17 ρ its hS hdr => ?_
   obtain ⟨T12, its1, h18, hS, hW⟩ := shrK_inv hS h17
   refine LV.world hW ?_
   refine LV.appE hS h18 rfl rfl rfl rfl Vdf.el170 rfl rfl rfl fun x18_13 T13 n13 h19 ρ its hS => ?_
   refine as_ ?_
   refine dn ?_
   refine sr ?_
   refine mv ?_
   refine LV.call hS h19 (g180_ok _ _ _ _ _ ) hP rfl rfl rfl rfl fun x20_14 T14 n14 h20 ρ its hS => ?_
   refine dn ?_
   refine sr ?_
   refine mv ?_
   refine mv ?_
   refine LV.call hS h20 (hI _ _ _ _ _) hP rfl rfl rfl rfl fun x23_15 T15 n15 h21 ρ its hS => ?_
   refine LV.bslice hS h21 rfl rfl Vdf.el170 rfl rfl rfl rfl fun x24_16 T16 n16 h22 ρ its hS hdr => ?_
   obtain ⟨T17, its1, h23, hS, hW⟩ := shrK_inv hS h22
   refine LV.world hW ?_
   refine LV.appE hS h23 rfl rfl rfl rfl Vdf.el170 rfl rfl rfl fun x25_17 T18 n18 h24 ρ its hS => ?_
   refine as_ ?_
   refine dn ?_
   refine sr ?_
   refine mv ?_
   refine LV.call hS h24 (g154_ok _ _ _ _ _ ) hP rfl rfl rfl rfl fun x27_18 T19 n19 h25 ρ its hS => ?_
   refine vy (V.not h25 rfl) fun x28_19 h26 => ?_
   refine dn ?_
   refine CV.cond h26 rfl (fun e h27 => ?_) (fun e h27 => ?_)
   ·
    clear h15 h16 h17 h18 h19 h20 h21 h22 h23 h24 h25 h26
    subst e
    refine CV.exit ?_
    refine PV.blockO rfl ?_
    refine PV.thenE ?_
    refine PV.blockE ?_
    exact pa4 hS h27 ⟨rfl, rfl, rfl, rfl, trivial⟩
   ·
    clear h15 h16 h17 h18 h19 h20 h21 h22 h23 h24 h25 h26
    subst e
    refine CV.skip ?_
    refine PV.blockN ?_
    exact pb4 hS h27 ⟨rfl, rfl, rfl, rfl, trivial⟩
  ·
   clear h11 h12 h13 h14
   subst e
   refine CV.exit ?_
   refine PV.thenE ?_
   refine PV.thenE ?_
   refine PV.blockE ?_
   exact pa4 hS h15 ⟨rfl, rfl, rfl, rfl, trivial⟩
 ·
  intro y0 y2 y3 y4 T3 n3 ρ its hS h4
  unfold g287_k1 at h4
  clear h1 h2 h3
  refine sr ?_
  refine mv ?_
  refine LV.call hS h4 (g180_ok _ _ _ _ _ ) hP rfl rfl rfl rfl fun x30_3 T4 n4 h5 ρ its hS => ?_
  refine dn ?_
  refine sr ?_
  refine mv ?_
  refine fl hS h5 Vdf.fo185_3 Vdf.one3 fun x34_4 h6 => ?_
  refine vy (V.sub h6 rfl rfl) fun x35_5 h7 => ?_
  refine fa2 h7 Vdf.fo185_3 fun x37_6 h8 => ?_
  refine LV.st hS h8 rfl rfl rfl Vdf.siz3 rfl rfl fun T5 its h9 hS => ?_
  refine dn ?_
  refine sr ?_
  refine mv ?_
  refine mv ?_
  refine mv ?_
  refine LV.call hS h9 (g103_ok _ _ _ _ _ _ _ _ ) hP rfl rfl rfl rfl fun x41_7 T6 n6 h10 ρ its hS => ?_
  refine as_ ?_
  refine dn ?_
  refine CV.ret ?_
  cases h10
  exact PV.ret (by simp) Tryz.results287 hS (RS.tmp rfl RS.nil) rfl
noncomputable def g288 (ih : FuncId → List HT → List AV → HT → Nat → R) (ro : List HT) (a0 : AV) (T : HT) (nx : Nat) : R :=
 bsK 2880005 T nx 3 9 1 [(0, (.lit (.string ⟨⟨[42]⟩⟩))), (1, (.lit (.string ⟨⟨[47, 47]⟩⟩))), (2, (.lit (.string ⟨⟨[37]⟩⟩)))] fun x6_1 T1 n1 =>
 callK (ih 256 ro [a0, (.fn (.func 290) [a0] []), x6_1] T1 n1) fun x7_2 T2 n2 =>
 .ok (.val x7_2) T2 n2
theorem g288_ok (ih : FuncId → List HT → List AV → HT → Nat → R) (hI : ∀ f ro args T nx, GOk Tryz.prog envE f args ro T nx (ih f ro args T nx)) (ro : List HT) (a0 : AV) (T : HT) (nx : Nat) : GOk Tryz.prog envE 288 [a0] ro T nx (g288 ih ro a0 T nx) := by
 refine GOk.of_body Tryz.func288 rfl Tryz.ntmps288 (by kernel_rfl) rfl fun r T' n' h1 w0 base ρ0 its hS hP => ?_
 have X : CtxW envE ρ0 ro r T' n' := trivial
 unfold g288 at h1
 refine sr ?_
 refine as_ ?_
 refine dn ?_
 refine sr ?_
 refine mv ?_
 refine mv ?_
 refine pu ?_
 refine LV.bslice hS h1 rfl rfl Vdf.el54 rfl rfl rfl rfl fun x6_1 T1 n1 h2 ρ its hS hdr => ?_
 refine LV.call hS h2 (hI _ _ _ _ _) hP rfl rfl rfl rfl fun x7_2 T2 n2 h3 ρ its hS => ?_
 refine as_ ?_
 refine dn ?_
 refine CV.ret ?_
 cases h3
 exact PV.ret (by simp) Tryz.results288 hS (RS.tmp rfl RS.nil) rfl
noncomputable def g290 (ih : FuncId → List HT → List AV → HT → Nat → R) (ro : List HT) (a0 : AV) (T : HT) (nx : Nat) : R :=
 bsK 2900003 T nx 1 9 1 [(0, (.lit (.string ⟨⟨[45]⟩⟩)))] fun x6_1 T1 n1 =>
 callK (g134 ro a0 x6_1 T1 n1) fun x7_2 T2 n2 =>
 notK 2900005 x7_2 fun x8_3 =>
 condK 2900006 x8_3
 (
  callK (ih 277 ro [a0] T2 n2) fun x10_4 T3 n3 =>
  .ok (.val x10_4) T3 n3
 )
 (
  callK (g180 ro a0 (.lit (.string ⟨⟨[45]⟩⟩)) T2 n2) fun x12_5 T4 n4 =>
  callK (g179 ro a0 x12_5 T4 n4) fun x15_6 T5 n5 =>
  callK (ih 290 ro [a0] T5 n5) fun x17_7 T6 n6 =>
  fldK 2900020 T6 ro a0 3 fun x21_8 =>
  subK Tryz.prog 3 (.tmp 21) (.const (.int .i64 (.ofNat 1))) 2900021 x21_8 (.lit (.int .i64 (.ofNat 1))) fun x22_9 =>
  faK 2900022 a0 3 fun x24_10 =>
  stK 2900023 T6 x24_10 x22_9 fun T7 =>
  bsK 2900027 T7 n6 1 3 1 [(0, x17_7)] fun x28_11 T8 n8 =>
  callK (g103 ro a0 (.lit (.int .i64 (.ofNat 16))) x12_5 (.lit (.string ⟨⟨[]⟩⟩)) x28_11 T8 n8) fun x29_12 T9 n9 =>
  .ok (.val x29_12) T9 n9
 )
theorem g290_ok (ih : FuncId → List HT → List AV → HT → Nat → R) (hI : ∀ f ro args T nx, GOk Tryz.prog envE f args ro T nx (ih f ro args T nx)) (ro : List HT) (a0 : AV) (T : HT) (nx : Nat) : GOk Tryz.prog envE 290 [a0] ro T nx (g290 ih ro a0 T nx) := by
 refine GOk.of_body Tryz.func290 rfl Tryz.ntmps290 (by kernel_rfl) rfl fun r T' n' h1 w0 base ρ0 its hS hP => ?_
 have X : CtxW envE ρ0 ro r T' n' := trivial
 unfold g290 at h1
 refine sr ?_
 refine as_ ?_
 refine dn ?_
 refine CV.seq ?_
 refine sr ?_
 refine mv ?_
 refine LV.bslice hS h1 rfl rfl Vdf.el54 rfl rfl rfl rfl fun x6_1 T1 n1 h2 ρ its hS hdr => ?_
 refine LV.call hS h2 (g134_ok _ _ _ _ _ ) hP rfl rfl rfl rfl fun x7_2 T2 n2 h3 ρ its hS => ?_
 refine vy (V.not h3 rfl) fun x8_3 h4 => ?_
 refine dn ?_
 refine CV.cond h4 rfl (fun e h5 => ?_) (fun e h5 => ?_)
 ·
  clear h1 h2 h3 h4
  subst e
  refine sr ?_
  refine mv ?_
  refine LV.call hS h5 (hI _ _ _ _ _) hP rfl rfl rfl rfl fun x10_4 T3 n3 h6 ρ its hS => ?_
  refine as_ ?_
  refine dn ?_
  refine CV.ret ?_
  refine PV.thenR ?_
  cases h6
  exact PV.ret (by simp) Tryz.results290 hS (RS.tmp rfl RS.nil) rfl
 ·
  clear h1 h2 h3 h4
  subst e
  refine CV.skip ?_
  refine PV.thenN ?_
  refine sr ?_
  refine mv ?_
  refine LV.call hS h5 (g180_ok _ _ _ _ _ ) hP rfl rfl rfl rfl fun x12_5 T4 n4 h7 ρ its hS => ?_
  refine as_ ?_
  refine dn ?_
  refine sr ?_
  refine mv ?_
  refine mv ?_
  refine LV.call hS h7 (g179_ok _ _ _ _ _ ) hP rfl rfl rfl rfl fun x15_6 T5 n5 h8 ρ its hS => ?_
  refine dn ?_
  refine sr ?_
  refine mv ?_
  refine LV.call hS h8 (hI _ _ _ _ _) hP rfl rfl rfl rfl fun x17_7 T6 n6 h9 ρ its hS => ?_
  refine as_ ?_
  refine dn ?_
  refine sr ?_
  refine mv ?_
  refine fl hS h9 Vdf.fo185_3 Vdf.one3 fun x21_8 h10 => ?_
  refine vy (V.sub h10 rfl rfl) fun x22_9 h11 => ?_
  refine fa2 h11 Vdf.fo185_3 fun x24_10 h12 => ?_
  refine LV.st hS h12 rfl rfl rfl Vdf.siz3 rfl rfl fun T7 its h13 hS => ?_
  refine dn ?_
  refine sr ?_
  refine mv ?_
  refine mv ?_
  refine mv ?_
  refine LV.bslice hS h13 rfl rfl Vdf.el170 rfl rfl rfl rfl fun x28_11 T8 n8 h14 ρ its hS hdr => ?_
  refine LV.call hS h14 (g103_ok _ _ _ _ _ _ _ _ ) hP rfl rfl rfl rfl fun x29_12 T9 n9 h15 ρ its hS => ?_
  refine as_ ?_
  refine dn ?_
  refine CV.ret ?_
  cases h15
  exact PV.ret (by simp) Tryz.results290 hS (RS.tmp rfl RS.nil) rfl
noncomputable def ap2 (ih : FuncId → List HT → List AV → HT → Nat → R) (f : FuncId) (ro : List HT) (args : List AV) (T : HT) (nx : Nat) : R :=
  Bool.rec (motive := fun _ => R) (Bool.rec (motive := fun _ => R) (Bool.rec (motive := fun _ => R) (Bool.rec (motive := fun _ => R) (Bool.rec (motive := fun _ => R) (Bool.rec (motive := fun _ => R) (.bad 2) (List.rec (motive := fun _ => R) (.bad 1) (fun a0 l0 _ => List.rec (motive := fun _ => R) (g290 ih ro a0 T nx) (fun _ _ _ => .bad 1) l0) args) (Nat.beq f 290)) (Bool.rec (motive := fun _ => R) (.bad 2) (List.rec (motive := fun _ => R) (.bad 1) (fun a0 l0 _ => List.rec (motive := fun _ => R) (g288 ih ro a0 T nx) (fun _ _ _ => .bad 1) l0) args) (Nat.beq f 288)) (Nat.ble f 288)) (Bool.rec (motive := fun _ => R) (.bad 2) (List.rec (motive := fun _ => R) (.bad 1) (fun a0 l0 _ => List.rec (motive := fun _ => R) (g287 ih ro a0 T nx) (fun _ _ _ => .bad 1) l0) args) (Nat.beq f 287)) (Nat.ble f 287)) (Bool.rec (motive := fun _ => R) (Bool.rec (motive := fun _ => R) (.bad 2) (List.rec (motive := fun _ => R) (.bad 1) (fun a0 l0 _ => List.rec (motive := fun _ => R) (g286 ih ro a0 T nx) (fun _ _ _ => .bad 1) l0) args) (Nat.beq f 286)) (Bool.rec (motive := fun _ => R) (.bad 2) (List.rec (motive := fun _ => R) (.bad 1) (fun a0 l0 _ => List.rec (motive := fun _ => R) (g285 ih ro a0 T nx) (fun _ _ _ => .bad 1) l0) args) (Nat.beq f 285)) (Nat.ble f 285)) (Nat.ble f 286)) (Bool.rec (motive := fun _ => R) (Bool.rec (motive := fun _ => R) (Bool.rec (motive := fun _ => R) (Bool.rec (motive := fun _ => R) (.bad 2) (List.rec (motive := fun _ => R) (.bad 1) (fun a0 l0 _ => List.rec (motive := fun _ => R) (g284 ih ro a0 T nx) (fun _ _ _ => .bad 1) l0) args) (Nat.beq f 284)) (Bool.rec (motive := fun _ => R) (.bad 2) (List.rec (motive := fun _ => R) (.bad 1) (fun a0 l0 _ => List.rec (motive := fun _ => R) (g281 ih ro a0 T nx) (fun _ _ _ => .bad 1) l0) args) (Nat.beq f 281)) (Nat.ble f 281)) (Bool.rec (motive := fun _ => R) (.bad 2) (List.rec (motive := fun _ => R) (.bad 1) (fun a0 l0 _ => List.rec (motive := fun _ => R) (g280 ih ro a0 T nx) (fun _ _ _ => .bad 1) l0) args) (Nat.beq f 280)) (Nat.ble f 280)) (Bool.rec (motive := fun _ => R) (Bool.rec (motive := fun _ => R) (.bad 2) (List.rec (motive := fun _ => R) (.bad 1) (fun a0 l0 _ => List.rec (motive := fun _ => R) (g277 ih ro a0 T nx) (fun _ _ _ => .bad 1) l0) args) (Nat.beq f 277)) (Bool.rec (motive := fun _ => R) (.bad 2) (List.rec (motive := fun _ => R) (.bad 1) (fun a0 l0 _ => List.rec (motive := fun _ => R) (g275 ih ro a0 T nx) (fun _ _ _ => .bad 1) l0) args) (Nat.beq f 275)) (Nat.ble f 275)) (Nat.ble f 277)) (Nat.ble f 284)) (Bool.rec (motive := fun _ => R) (Bool.rec (motive := fun _ => R) (Bool.rec (motive := fun _ => R) (Bool.rec (motive := fun _ => R) (Bool.rec (motive := fun _ => R) (.bad 2) (List.rec (motive := fun _ => R) (.bad 1) (fun a0 l0 _ => List.rec (motive := fun _ => R) (g258 ro a0 T nx) (fun _ _ _ => .bad 1) l0) args) (Nat.beq f 258)) (Bool.rec (motive := fun _ => R) (.bad 2) (List.rec (motive := fun _ => R) (.bad 1) (fun a0 l0 _ => List.rec (motive := fun _ => R) (g257 ih ro a0 T nx) (fun _ _ _ => .bad 1) l0) args) (Nat.beq f 257)) (Nat.ble f 257)) (Bool.rec (motive := fun _ => R) (.bad 2) (List.rec (motive := fun _ => R) (.bad 1) (fun a0 l0 _ => List.rec (motive := fun _ => R) (.bad 1) (fun a1 l1 _ => List.rec (motive := fun _ => R) (.bad 1) (fun a2 l2 _ => List.rec (motive := fun _ => R) (g256 ih ro a0 a1 a2 T nx) (fun _ _ _ => .bad 1) l2) l1) l0) args) (Nat.beq f 256)) (Nat.ble f 256)) (Bool.rec (motive := fun _ => R) (Bool.rec (motive := fun _ => R) (.bad 2) (List.rec (motive := fun _ => R) (.bad 1) (fun a0 l0 _ => List.rec (motive := fun _ => R) (g221 ro a0 T nx) (fun _ _ _ => .bad 1) l0) args) (Nat.beq f 221)) (Bool.rec (motive := fun _ => R) (.bad 2) (List.rec (motive := fun _ => R) (.bad 1) (fun a0 l0 _ => List.rec (motive := fun _ => R) (g210 ih ro a0 T nx) (fun _ _ _ => .bad 1) l0) args) (Nat.beq f 210)) (Nat.ble f 210)) (Nat.ble f 221)) (Bool.rec (motive := fun _ => R) (Bool.rec (motive := fun _ => R) (Bool.rec (motive := fun _ => R) (.bad 2) (List.rec (motive := fun _ => R) (.bad 1) (fun a0 l0 _ => List.rec (motive := fun _ => R) (g153 ih ro a0 T nx) (fun _ _ _ => .bad 1) l0) args) (Nat.beq f 153)) (Bool.rec (motive := fun _ => R) (.bad 2) (List.rec (motive := fun _ => R) (.bad 1) (fun a0 l0 _ => List.rec (motive := fun _ => R) (g115 ih ro a0 T nx) (fun _ _ _ => .bad 1) l0) args) (Nat.beq f 115)) (Nat.ble f 115)) (Bool.rec (motive := fun _ => R) (Bool.rec (motive := fun _ => R) (.bad 2) (List.rec (motive := fun _ => R) (.bad 1) (fun a0 l0 _ => List.rec (motive := fun _ => R) (g85 ih ro a0 T nx) (fun _ _ _ => .bad 1) l0) args) (Nat.beq f 85)) (Bool.rec (motive := fun _ => R) (.bad 2) (List.rec (motive := fun _ => R) (.bad 1) (fun a0 l0 _ => List.rec (motive := fun _ => R) (g84 ih ro a0 T nx) (fun _ _ _ => .bad 1) l0) args) (Nat.beq f 84)) (Nat.ble f 84)) (Nat.ble f 85)) (Nat.ble f 153)) (Nat.ble f 258)
noncomputable def scc2 (fuel : Nat) : FuncId → List HT → List AV → HT → Nat → R :=
  Nat.rec (motive := fun _ => FuncId → List HT → List AV → HT → Nat → R) (fun _ _ _ _ _ => .bad 3) (fun _ ih => ap2 ih) fuel
theorem ap2_ok (ih : FuncId → List HT → List AV → HT → Nat → R) (hI : ∀ f ro args T nx, GOk Tryz.prog envE f args ro T nx (ih f ro args T nx)) (f : FuncId) (ro : List HT) (args : List AV) (T : HT) (nx : Nat) : GOk Tryz.prog envE f args ro T nx (ap2 ih f ro args T nx) := by
  unfold ap2
  refine recb_go (fun hb => ?_) (fun _ => ?_)
  · refine recb_go (fun hb => ?_) (fun _ => ?_)
    · refine recb_go (fun hb => ?_) (fun _ => ?_)
      · refine recb_go (fun hb => ?_) (fun _ => ?_)
        · refine recb_go (fun hb => ?_) (fun _ => ?_)
          · obtain rfl := beqT hb
            rcases args with _ | ⟨a0, l0⟩
            · exact GOk.bad
            rcases l0 with _ | ⟨_, _⟩
            · exact g84_ok _ hI _ _ _ _ 
            · exact GOk.bad
          · exact GOk.bad
        · refine recb_go (fun hb => ?_) (fun _ => ?_)
          · obtain rfl := beqT hb
            rcases args with _ | ⟨a0, l0⟩
            · exact GOk.bad
            rcases l0 with _ | ⟨_, _⟩
            · exact g85_ok _ hI _ _ _ _ 
            · exact GOk.bad
          · exact GOk.bad
      · refine recb_go (fun hb => ?_) (fun _ => ?_)
        · refine recb_go (fun hb => ?_) (fun _ => ?_)
          · obtain rfl := beqT hb
            rcases args with _ | ⟨a0, l0⟩
            · exact GOk.bad
            rcases l0 with _ | ⟨_, _⟩
            · exact g115_ok _ hI _ _ _ _ 
            · exact GOk.bad
          · exact GOk.bad
        · refine recb_go (fun hb => ?_) (fun _ => ?_)
          · obtain rfl := beqT hb
            rcases args with _ | ⟨a0, l0⟩
            · exact GOk.bad
            rcases l0 with _ | ⟨_, _⟩
            · exact g153_ok _ hI _ _ _ _ 
            · exact GOk.bad
          · exact GOk.bad
    · refine recb_go (fun hb => ?_) (fun _ => ?_)
      · refine recb_go (fun hb => ?_) (fun _ => ?_)
        · refine recb_go (fun hb => ?_) (fun _ => ?_)
          · obtain rfl := beqT hb
            rcases args with _ | ⟨a0, l0⟩
            · exact GOk.bad
            rcases l0 with _ | ⟨_, _⟩
            · exact g210_ok _ hI _ _ _ _ 
            · exact GOk.bad
          · exact GOk.bad
        · refine recb_go (fun hb => ?_) (fun _ => ?_)
          · obtain rfl := beqT hb
            rcases args with _ | ⟨a0, l0⟩
            · exact GOk.bad
            rcases l0 with _ | ⟨_, _⟩
            · exact g221_ok _ _ _ _ 
            · exact GOk.bad
          · exact GOk.bad
      · refine recb_go (fun hb => ?_) (fun _ => ?_)
        · refine recb_go (fun hb => ?_) (fun _ => ?_)
          · obtain rfl := beqT hb
            rcases args with _ | ⟨a0, l0⟩
            · exact GOk.bad
            rcases l0 with _ | ⟨a1, l1⟩
            · exact GOk.bad
            rcases l1 with _ | ⟨a2, l2⟩
            · exact GOk.bad
            rcases l2 with _ | ⟨_, _⟩
            · exact g256_ok _ hI _ _ _ _ _ _ 
            · exact GOk.bad
          · exact GOk.bad
        · refine recb_go (fun hb => ?_) (fun _ => ?_)
          · refine recb_go (fun hb => ?_) (fun _ => ?_)
            · obtain rfl := beqT hb
              rcases args with _ | ⟨a0, l0⟩
              · exact GOk.bad
              rcases l0 with _ | ⟨_, _⟩
              · exact g257_ok _ hI _ _ _ _ 
              · exact GOk.bad
            · exact GOk.bad
          · refine recb_go (fun hb => ?_) (fun _ => ?_)
            · obtain rfl := beqT hb
              rcases args with _ | ⟨a0, l0⟩
              · exact GOk.bad
              rcases l0 with _ | ⟨_, _⟩
              · exact g258_ok _ _ _ _ 
              · exact GOk.bad
            · exact GOk.bad
  · refine recb_go (fun hb => ?_) (fun _ => ?_)
    · refine recb_go (fun hb => ?_) (fun _ => ?_)
      · refine recb_go (fun hb => ?_) (fun _ => ?_)
        · refine recb_go (fun hb => ?_) (fun _ => ?_)
          · obtain rfl := beqT hb
            rcases args with _ | ⟨a0, l0⟩
            · exact GOk.bad
            rcases l0 with _ | ⟨_, _⟩
            · exact g275_ok _ hI _ _ _ _ 
            · exact GOk.bad
          · exact GOk.bad
        · refine recb_go (fun hb => ?_) (fun _ => ?_)
          · obtain rfl := beqT hb
            rcases args with _ | ⟨a0, l0⟩
            · exact GOk.bad
            rcases l0 with _ | ⟨_, _⟩
            · exact g277_ok _ hI _ _ _ _ 
            · exact GOk.bad
          · exact GOk.bad
      · refine recb_go (fun hb => ?_) (fun _ => ?_)
        · refine recb_go (fun hb => ?_) (fun _ => ?_)
          · obtain rfl := beqT hb
            rcases args with _ | ⟨a0, l0⟩
            · exact GOk.bad
            rcases l0 with _ | ⟨_, _⟩
            · exact g280_ok _ hI _ _ _ _ 
            · exact GOk.bad
          · exact GOk.bad
        · refine recb_go (fun hb => ?_) (fun _ => ?_)
          · refine recb_go (fun hb => ?_) (fun _ => ?_)
            · obtain rfl := beqT hb
              rcases args with _ | ⟨a0, l0⟩
              · exact GOk.bad
              rcases l0 with _ | ⟨_, _⟩
              · exact g281_ok _ hI _ _ _ _ 
              · exact GOk.bad
            · exact GOk.bad
          · refine recb_go (fun hb => ?_) (fun _ => ?_)
            · obtain rfl := beqT hb
              rcases args with _ | ⟨a0, l0⟩
              · exact GOk.bad
              rcases l0 with _ | ⟨_, _⟩
              · exact g284_ok _ hI _ _ _ _ 
              · exact GOk.bad
            · exact GOk.bad
    · refine recb_go (fun hb => ?_) (fun _ => ?_)
      · refine recb_go (fun hb => ?_) (fun _ => ?_)
        · refine recb_go (fun hb => ?_) (fun _ => ?_)
          · obtain rfl := beqT hb
            rcases args with _ | ⟨a0, l0⟩
            · exact GOk.bad
            rcases l0 with _ | ⟨_, _⟩
            · exact g285_ok _ hI _ _ _ _ 
            · exact GOk.bad
          · exact GOk.bad
        · refine recb_go (fun hb => ?_) (fun _ => ?_)
          · obtain rfl := beqT hb
            rcases args with _ | ⟨a0, l0⟩
            · exact GOk.bad
            rcases l0 with _ | ⟨_, _⟩
            · exact g286_ok _ hI _ _ _ _ 
            · exact GOk.bad
          · exact GOk.bad
      · refine recb_go (fun hb => ?_) (fun _ => ?_)
        · refine recb_go (fun hb => ?_) (fun _ => ?_)
          · obtain rfl := beqT hb
            rcases args with _ | ⟨a0, l0⟩
            · exact GOk.bad
            rcases l0 with _ | ⟨_, _⟩
            · exact g287_ok _ hI _ _ _ _ 
            · exact GOk.bad
          · exact GOk.bad
        · refine recb_go (fun hb => ?_) (fun _ => ?_)
          · refine recb_go (fun hb => ?_) (fun _ => ?_)
            · obtain rfl := beqT hb
              rcases args with _ | ⟨a0, l0⟩
              · exact GOk.bad
              rcases l0 with _ | ⟨_, _⟩
              · exact g288_ok _ hI _ _ _ _ 
              · exact GOk.bad
            · exact GOk.bad
          · refine recb_go (fun hb => ?_) (fun _ => ?_)
            · obtain rfl := beqT hb
              rcases args with _ | ⟨a0, l0⟩
              · exact GOk.bad
              rcases l0 with _ | ⟨_, _⟩
              · exact g290_ok _ hI _ _ _ _ 
              · exact GOk.bad
            · exact GOk.bad
theorem scc2_ok : ∀ (fuel : Nat) (f : FuncId) (ro : List HT) (args : List AV) (T : HT) (nx : Nat), GOk Tryz.prog envE f args ro T nx (scc2 fuel f ro args T nx)
  | 0, _, _, _, _, _ => GOk.bad
  | fuel + 1, f, ro, args, T, nx => ap2_ok (scc2 fuel) (scc2_ok fuel) f ro args T nx
noncomputable def g133 (ro : List HT) (a0 a1 a2 a3 : AV) (T : HT) (nx : Nat) : R :=
 fldK 1330003 T ro a0 2 fun x12_1 =>
 optK 1330007 (bld233 [(0, a1), (1, a2), (2, a3)]) fun x16_2 =>
 bsK 1330008 T nx 1 233 3 [(0, x16_2)] fun x17_3 T1 n1 =>
 shrK 1330010 T1 x12_1 fun T2 =>
 appEK 1330009 T2 ro n1 233 3 32 x12_1 x17_3 fun x18_4 T3 n3 =>
 faK 1330011 a0 2 fun x20_5 =>
 stK 1330012 T3 x20_5 x18_4 fun T4 =>
 .ok (.val (.tup [])) T4 n3
theorem g133_ok (ro : List HT) (a0 a1 a2 a3 : AV) (T : HT) (nx : Nat) : GOk Tryz.prog envE 133 [a0, a1, a2, a3] ro T nx (g133 ro a0 a1 a2 a3 T nx) := by
 refine GOk.of_body Tryz.func133 rfl Tryz.ntmps133 (by kernel_rfl) rfl fun r T' n' h1 w0 base ρ0 its hS hP => ?_
 have X : CtxW envE ρ0 ro r T' n' := trivial
 unfold g133 at h1
 refine CV.region ?_
 refine mv ?_
 refine mv ?_
 refine fl hS h1 Vdf.fo255_2 Vdf.one183 fun x12_1 h2 => ?_
 refine mv ?_
 refine mv ?_
 refine mv ?_
 refine vy (V.bld h2 rfl) fun x16_2 h3 => ?_
 refine LV.bslice hS h3 rfl rfl Vdf.el183 rfl rfl rfl rfl fun x17_3 T1 n1 h4 ρ its hS hdr => ?_
 obtain ⟨T2, its1, h5, hS, hW⟩ := shrK_inv hS h4
 refine LV.world hW ?_
 refine LV.appE hS h5 rfl rfl rfl rfl Vdf.el183 rfl rfl rfl fun x18_4 T3 n3 h6 ρ its hS => ?_
 refine fa2 h6 Vdf.fo255_2 fun x20_5 h7 => ?_
 refine LV.st hS h7 rfl rfl rfl Vdf.siz183 rfl rfl fun T4 its h8 hS => ?_
 refine LV.done ?_
 cases h8
 exact PV.ret (by simp) Tryz.results133 hS RS.nil rfl
noncomputable def g172_k3 (ro : List HT) (y20 : AV) (T3 : HT) (n3 : Nat) : R :=
 .ok (.val y20) T3 n3
noncomputable def g172_k2 (ro : List HT) (y0 y16 : AV) (T2 : HT) (n2 : Nat) : R :=
 condK 1720008 y16
 (
  g172_k3 ro (.lit (.bool true)) T2 n2
 )
 (
  eqK Tryz.prog 5 (.tmp 18) (.const (.int .u8 (.ofNat 95))) 1720011 y0 (.lit (.int .u8 (.ofNat 95))) fun x19_2 =>
  g172_k3 ro x19_2 T2 n2
 )
noncomputable def g172_k4 (ro : List HT) (y0 y15 : AV) (T4 : HT) (n4 : Nat) : R :=
 g172_k2 ro y0 y15 T4 n4
noncomputable def g172_k1 (ro : List HT) (y0 y8 : AV) (T1 : HT) (n1 : Nat) : R :=
 condK 1720013 y8
 (
  g172_k2 ro y0 (.lit (.bool true)) T1 n1
 )
 (
  geK Tryz.prog 5 (.tmp 10) (.const (.int .u8 (.ofNat 65))) 1720016 y0 (.lit (.int .u8 (.ofNat 65))) fun x11_3 =>
  condK 1720019 x11_3
  (
   leK Tryz.prog 5 (.tmp 13) (.const (.int .u8 (.ofNat 90))) 1720021 y0 (.lit (.int .u8 (.ofNat 90))) fun x14_4 =>
   g172_k4 ro y0 x14_4 T1 n1
  )
  (
   g172_k4 ro y0 (.lit (.bool false)) T1 n1
  )
 )
noncomputable def g172 (ro : List HT) (a0 : AV) (T : HT) (nx : Nat) : R :=
 geK Tryz.prog 5 (.tmp 3) (.const (.int .u8 (.ofNat 97))) 1720003 a0 (.lit (.int .u8 (.ofNat 97))) fun x4_1 =>
 condK 1720024 x4_1
 (
  leK Tryz.prog 5 (.tmp 6) (.const (.int .u8 (.ofNat 122))) 1720026 a0 (.lit (.int .u8 (.ofNat 122))) fun x7_5 =>
  g172_k1 ro a0 x7_5 T nx
 )
 (
  g172_k1 ro a0 (.lit (.bool false)) T nx
 )
theorem g172_ok (ro : List HT) (a0 : AV) (T : HT) (nx : Nat) : GOk Tryz.prog envE 172 [a0] ro T nx (g172 ro a0 T nx) := by
 refine GOk.of_body Tryz.func172 rfl Tryz.ntmps172 (by kernel_rfl) rfl fun r T' n' h1 w0 base ρ0 its hS hP => ?_
 have X : CtxW envE ρ0 ro r T' n' := trivial
 unfold g172 at h1
 refine sr ?_
 refine as_ ?_
 refine dn ?_
 refine sr ?_
 refine mv ?_
 refine vy (V.ge h1 rfl rfl) fun x4_1 h2 => ?_
 refine mv ?_
 refine ls2 X 0 8 [(2, (.lit (.bool false)))] (g172_k1 ro) 3 ?_ ?_
 ·
  rcases condK_inv h2 with ⟨e, h13⟩ | ⟨e, h13⟩
  ·
   clear h1 h2
   subst e
   refine mv ?_
   refine vy (V.le h13 rfl rfl) fun x7_5 h14 => ?_
   refine pu ?_
   exact la2 hS h14 ⟨rfl, rfl, rfl, trivial⟩
  ·
   clear h1 h2
   subst e
   refine sk ?_
   refine sk ?_
   refine pu ?_
   exact la2 hS h13 ⟨rfl, rfl, rfl, trivial⟩
 ·
  intro y0 y8 T1 n1 ρ its hS h3
  unfold g172_k1 at h3
  clear h1 h2
  refine mv ?_
  refine ls2 X 0 16 [(2, (.lit (.bool false)))] (g172_k2 ro) 7 ?_ ?_
  ·
   rcases condK_inv h3 with ⟨e, h8⟩ | ⟨e, h8⟩
   ·
    clear h3
    subst e
    refine sk ?_
    refine sk ?_
    refine sk ?_
    refine sk ?_
    refine sk ?_
    refine sk ?_
    refine pu ?_
    exact la2 hS h8 ⟨rfl, rfl, rfl, trivial⟩
   ·
    clear h3
    subst e
    refine mv ?_
    refine vy (V.ge h8 rfl rfl) fun x11_3 h9 => ?_
    refine mv ?_
    refine ls2 X 0 15 [(2, (.lit (.bool false))), (9, (.lit (.bool false)))] (g172_k4 ro) 3 ?_ ?_
    ·
     rcases condK_inv h9 with ⟨e, h11⟩ | ⟨e, h11⟩
     ·
      clear h8 h9
      subst e
      refine mv ?_
      refine vy (V.le h11 rfl rfl) fun x14_4 h12 => ?_
      refine pu ?_
      exact la2 hS h12 ⟨rfl, rfl, rfl, rfl, trivial⟩
     ·
      clear h8 h9
      subst e
      refine sk ?_
      refine sk ?_
      refine pu ?_
      exact la2 hS h11 ⟨rfl, rfl, rfl, rfl, trivial⟩
    ·
     intro y0 y15 T4 n4 ρ its hS h10
     unfold g172_k4 at h10
     clear h8 h9
     refine pu ?_
     exact la2 hS h10 ⟨rfl, rfl, rfl, trivial⟩
  ·
   intro y0 y16 T2 n2 ρ its hS h4
   unfold g172_k2 at h4
   clear h3
   refine mv ?_
   refine ls1 X 20 [(2, (.lit (.bool false)))] (g172_k3 ro) 3 ?_ ?_
   ·
    rcases condK_inv h4 with ⟨e, h6⟩ | ⟨e, h6⟩
    ·
     clear h4
     subst e
     refine sk ?_
     refine sk ?_
     refine pu ?_
     exact la1 hS h6 ⟨rfl, rfl, trivial⟩
    ·
     clear h4
     subst e
     refine mv ?_
     refine vy (V.eq h6 rfl rfl) fun x19_2 h7 => ?_
     refine pu ?_
     exact la1 hS h7 ⟨rfl, rfl, trivial⟩
   ·
    intro y20 T3 n3 ρ its hS h5
    unfold g172_k3 at h5
    clear h4
    refine as_ ?_
    refine dn ?_
    refine CV.ret ?_
    cases h5
    exact PV.ret (by simp) Tryz.results172 hS (RS.tmp rfl RS.nil) rfl
noncomputable def g174_k1 (ro : List HT) (y8 : AV) (T1 : HT) (n1 : Nat) : R :=
 .ok (.val y8) T1 n1
noncomputable def g174 (ro : List HT) (a0 : AV) (T : HT) (nx : Nat) : R :=
 geK Tryz.prog 5 (.tmp 3) (.const (.int .u8 (.ofNat 48))) 1740003 a0 (.lit (.int .u8 (.ofNat 48))) fun x4_1 =>
 condK 1740006 x4_1
 (
  leK Tryz.prog 5 (.tmp 6) (.const (.int .u8 (.ofNat 57))) 1740008 a0 (.lit (.int .u8 (.ofNat 57))) fun x7_2 =>
  g174_k1 ro x7_2 T nx
 )
 (
  g174_k1 ro (.lit (.bool false)) T nx
 )
theorem g174_ok (ro : List HT) (a0 : AV) (T : HT) (nx : Nat) : GOk Tryz.prog envE 174 [a0] ro T nx (g174 ro a0 T nx) := by
 refine GOk.of_body Tryz.func174 rfl Tryz.ntmps174 (by kernel_rfl) rfl fun r T' n' h1 w0 base ρ0 its hS hP => ?_
 have X : CtxW envE ρ0 ro r T' n' := trivial
 unfold g174 at h1
 refine sr ?_
 refine as_ ?_
 refine dn ?_
 refine sr ?_
 refine mv ?_
 refine vy (V.ge h1 rfl rfl) fun x4_1 h2 => ?_
 refine mv ?_
 refine ls1 X 8 [(2, (.lit (.bool false)))] (g174_k1 ro) 3 ?_ ?_
 ·
  rcases condK_inv h2 with ⟨e, h4⟩ | ⟨e, h4⟩
  ·
   clear h1 h2
   subst e
   refine mv ?_
   refine vy (V.le h4 rfl rfl) fun x7_2 h5 => ?_
   refine pu ?_
   exact la1 hS h5 ⟨rfl, rfl, trivial⟩
  ·
   clear h1 h2
   subst e
   refine sk ?_
   refine sk ?_
   refine pu ?_
   exact la1 hS h4 ⟨rfl, rfl, trivial⟩
 ·
  intro y8 T1 n1 ρ its hS h3
  unfold g174_k1 at h3
  clear h1 h2
  refine as_ ?_
  refine dn ?_
  refine CV.ret ?_
  cases h3
  exact PV.ret (by simp) Tryz.results174 hS (RS.tmp rfl RS.nil) rfl
noncomputable def g265 (ro : List HT) (T : HT) (nx : Nat) : R :=
 bsK 2650002 T nx 22 9 1 [(0, (.lit (.string ⟨⟨[61, 61]⟩⟩))), (1, (.lit (.string ⟨⟨[33, 61]⟩⟩))), (2, (.lit (.string ⟨⟨[60, 61]⟩⟩))), (3, (.lit (.string ⟨⟨[62, 61]⟩⟩))), (4, (.lit (.string ⟨⟨[43, 61]⟩⟩))), (5, (.lit (.string ⟨⟨[47, 47]⟩⟩))), (6, (.lit (.string ⟨⟨[60]⟩⟩))), (7, (.lit (.string ⟨⟨[62]⟩⟩))), (8, (.lit (.string ⟨⟨[61]⟩⟩))), (9, (.lit (.string ⟨⟨[43]⟩⟩))), (10, (.lit (.string ⟨⟨[45]⟩⟩))), (11, (.lit (.string ⟨⟨[42]⟩⟩))), (12, (.lit (.string ⟨⟨[37]⟩⟩))), (13, (.lit (.string ⟨⟨[40]⟩⟩))), (14, (.lit (.string ⟨⟨[41]⟩⟩))), (15, (.lit (.string ⟨⟨[91]⟩⟩))), (16, (.lit (.string ⟨⟨[93]⟩⟩))), (17, (.lit (.string ⟨⟨[123]⟩⟩))), (18, (.lit (.string ⟨⟨[125]⟩⟩))), (19, (.lit (.string ⟨⟨[44]⟩⟩))), (20, (.lit (.string ⟨⟨[58]⟩⟩))), (21, (.lit (.string ⟨⟨[46]⟩⟩)))] fun x1_1 T1 n1 =>
 .ok (.val x1_1) T1 n1
theorem g265_ok (ro : List HT) (T : HT) (nx : Nat) : GOk Tryz.prog envE 265 [] ro T nx (g265 ro T nx) := by
 refine GOk.of_body Tryz.func265 rfl Tryz.ntmps265 (by kernel_rfl) rfl fun r T' n' h1 w0 base ρ0 its hS hP => ?_
 have X : CtxW envE ρ0 ro r T' n' := trivial
 unfold g265 at h1
 refine sr ?_
 refine as_ ?_
 refine dn ?_
 refine sr ?_
 refine LV.bslice hS h1 rfl rfl Vdf.el54 rfl rfl rfl rfl fun x1_1 T1 n1 h2 ρ its hS hdr => ?_
 refine as_ ?_
 refine dn ?_
 refine CV.ret ?_
 cases h2
 exact PV.ret (by simp) Tryz.results265 hS (RS.tmp rfl RS.nil) rfl
noncomputable def g260_k1 (ro : List HT) (y17 : AV) (T1 : HT) (n1 : Nat) : R :=
 .ok (.val y17) T1 n1
noncomputable def g260 (ro : List HT) (a0 a1 : AV) (T : HT) (nx : Nat) : R :=
 lenTK 2600003 a0 fun x6_1 =>
 lenTK 2600005 a1 fun x8_2 =>
 geK Tryz.prog 3 (.tmp 6) (.tmp 8) 2600006 x6_1 x8_2 fun x9_3 =>
 condK 2600009 x9_3
 (
  lenTK 2600012 a1 fun x13_4 =>
  sliceF 2600013 a0 none (some x13_4) fun x14_5 =>
  eqSK Tryz.prog 9 (.tmp 14) (.tmp 15) 2600015 x14_5 a1 fun x16_6 =>
  g260_k1 ro x16_6 T nx
 )
 (
  g260_k1 ro (.lit (.bool false)) T nx
 )
theorem g260_ok (ro : List HT) (a0 a1 : AV) (T : HT) (nx : Nat) : GOk Tryz.prog envE 260 [a0, a1] ro T nx (g260 ro a0 a1 T nx) := by
 refine GOk.of_body Tryz.func260 rfl Tryz.ntmps260 (by kernel_rfl) rfl fun r T' n' h1 w0 base ρ0 its hS hP => ?_
 have X : CtxW envE ρ0 ro r T' n' := trivial
 unfold g260 at h1
 refine sr ?_
 refine as_ ?_
 refine dn ?_
 refine sr ?_
 refine mv ?_
 refine vy (V.lenT h1 rfl Vdf.ls9) fun x6_1 h2 => ?_
 refine mv ?_
 refine vy (V.lenT h2 rfl Vdf.ls9) fun x8_2 h3 => ?_
 refine vy (V.ge h3 rfl rfl) fun x9_3 h4 => ?_
 refine mv ?_
 refine ls1 X 17 [(4, (.lit (.bool false)))] (g260_k1 ro) 7 ?_ ?_
 ·
  rcases condK_inv h4 with ⟨e, h6⟩ | ⟨e, h6⟩
  ·
   clear h1 h2 h3 h4
   subst e
   refine mv ?_
   refine mv ?_
   refine vy (V.lenT h6 rfl Vdf.ls9) fun x13_4 h7 => ?_
   refine vy (V.slHi (sliceF_ok h7) rfl rfl Vdf.st9) fun x14_5 h8 => ?_
   refine mv ?_
   refine vy (V.eqS h8 rfl rfl) fun x16_6 h9 => ?_
   refine pu ?_
   exact la1 hS h9 ⟨rfl, rfl, trivial⟩
  ·
   clear h1 h2 h3 h4
   subst e
   refine sk ?_
   refine sk ?_
   refine sk ?_
   refine sk ?_
   refine sk ?_
   refine sk ?_
   refine pu ?_
   exact la1 hS h6 ⟨rfl, rfl, trivial⟩
 ·
  intro y17 T1 n1 ρ its hS h5
  unfold g260_k1 at h5
  clear h1 h2 h3 h4
  refine as_ ?_
  refine dn ?_
  refine CV.ret ?_
  cases h5
  exact PV.ret (by simp) Tryz.results260 hS (RS.tmp rfl RS.nil) rfl
noncomputable def g266 (ro : List HT) (a0 a1 : AV) (T : HT) (nx : Nat) : R :=
 callK (g260 ro a0 a1 T nx) fun x7_1 T1 n1 =>
 .ok (.val x7_1) T1 n1
theorem g266_ok (ro : List HT) (a0 a1 : AV) (T : HT) (nx : Nat) : GOk Tryz.prog envE 266 [a0, a1] ro T nx (g266 ro a0 a1 T nx) := by
 refine GOk.of_body Tryz.func266 rfl Tryz.ntmps266 (by kernel_rfl) rfl fun r T' n' h1 w0 base ρ0 its hS hP => ?_
 have X : CtxW envE ρ0 ro r T' n' := trivial
 unfold g266 at h1
 refine sr ?_
 refine as_ ?_
 refine dn ?_
 refine sr ?_
 refine mv ?_
 refine mv ?_
 refine LV.call hS h1 (g260_ok _ _ _ _ _ ) hP rfl rfl rfl rfl fun x7_1 T1 n1 h2 ρ its hS => ?_
 refine as_ ?_
 refine dn ?_
 refine CV.ret ?_
 cases h2
 exact PV.ret (by simp) Tryz.results266 hS (RS.tmp rfl RS.nil) rfl
noncomputable def g233_b1 (ro : List HT) (lp1 : AV → AV → AV → AV → AV → HT → Nat → R) (y0 y2 y5 y6 y7 : AV) (T2 : HT) (n2 : Nat) : R :=
 ltK Tryz.prog 3 (.tmp 7) (.tmp 6) 2330006 y7 y6 fun x8_3 =>
 condK 2330007 x8_3
 (
  iaK 2330008 y5 y7 1 fun x9_4 =>
  ldK 2330009 T2 ro x9_4 fun x10_5 =>
  ncK 2330012 y0 fun x12_6 =>
  faK 2330013 x12_6 0 fun x13_7 =>
  ldK 2330014 T2 ro x13_7 fun x14_8 =>
  ncK 2330016 y0 fun x16_9 =>
  faK 2330017 x16_9 1 fun x17_10 =>
  ldK 2330018 T2 ro x17_10 fun x18_11 =>
  sliceF 2330019 x14_8 (some x18_11) none fun x19_12 =>
  callK (g266 ro x19_12 x10_5 T2 n2) fun x21_13 T3 n3 =>
  condK 2330022 x21_13
  (
   .ok (.val x10_5) T3 n3
  )
  (
   addK Tryz.prog 3 (.tmp 7) (.const (.int .i64 (.ofNat 1))) 2330025 y7 (.lit (.int .i64 (.ofNat 1))) fun x23_14 =>
   lp1 y0 y2 y5 y6 x23_14 T3 n3
  )
 )
 (
  .ok (.val (.lit (.string ⟨⟨[]⟩⟩))) T2 n2
 )
noncomputable def g233 (ro : List HT) (a0 : AV) (T : HT) (nx : Nat) : R :=
 callK (g265 ro T nx) fun x5_1 T1 n1 =>
 lenSK 2330003 x5_1 fun x6_2 =>
 lpf5 2330005 (g233_b1 ro) 100000 a0 (.lit (.string ⟨⟨[]⟩⟩)) x5_1 x6_2 (.lit (.int .i64 (.ofNat 0))) T1 n1
theorem g233_ok (ro : List HT) (a0 : AV) (T : HT) (nx : Nat) : GOk Tryz.prog envE 233 [a0] ro T nx (g233 ro a0 T nx) := by
 refine GOk.of_body Tryz.func233 rfl Tryz.ntmps233 (by kernel_rfl) rfl fun r T' n' h1 w0 base ρ0 its hS hP => ?_
 have X : CtxW envE ρ0 ro r T' n' := trivial
 unfold g233 at h1
 refine sr ?_
 refine as_ ?_
 refine dn ?_
 refine CV.seq ?_
 refine sr ?_
 refine LV.call hS h1 (g265_ok _ _ _ ) hP rfl rfl rfl rfl fun x5_1 T1 n1 h2 ρ its hS => ?_
 refine vy (V.lenS h2 rfl Vdf.ls54) fun x6_2 h3 => ?_
 refine mv ?_
 refine dn ?_
 refine CV.block ?_
 refine cl5 X 0 2 5 6 7 [] hS h3 ⟨rfl, rfl, rfl, rfl, rfl, trivial⟩ ?_
 intro f1 y0 y2 y5 y6 y7 T2 n2 ρ its hS h4
 unfold g233_b1 at h4
 clear h1 h2 h3
 refine sr ?_
 refine vy (V.lt h4 rfl rfl) fun x8_3 h5 => ?_
 refine dn ?_
 refine CV.seq ?_
 refine CV.cond h5 rfl (fun e h6 => ?_) (fun e h6 => ?_)
 ·
  clear h4 h5
  subst e
  refine CV.skip ?_
  refine PV.thenN ?_
  refine CV.seq ?_
  refine CV.block ?_
  refine sr ?_
  refine vy (V.ia h6 rfl rfl Vdf.el54) fun x9_4 h7 => ?_
  refine vy (V.ld hS h7 rfl Vdf.one9) fun x10_5 h8 => ?_
  refine as_ ?_
  refine dn ?_
  refine CV.seq ?_
  refine CV.regionM [(0, .anywhere), (1, .anywhere), (2, .anywhere), (3, .held), (4, .anywhere), (5, .anywhere), (6, .anywhere), (7, .held), (8, .held), (9, .anywhere), (10, .alone)] rfl (fun c a a' w hd hq => PanicOk.root (P := Tryz.prog) (fn := Tryz.f233) (w0 := w0) (base := base) (E := envE) (ro := ro) (r := r) (T' := T') (n' := n') (ρ0 := ρ0) c a a' w hd hq) (by kernel_rfl) ?_
  refine MV.step0 (i := 0) rfl (VAL.move rfl) rfl rfl rfl ?_
  refine MV.lift0 (i := 1) rfl (V.nc h8 rfl) rfl rfl rfl fun x12_6 h9 => ?_
  refine MV.lift0 (i := 2) rfl (V.fa h9 rfl Vdf.fo255_0) rfl rfl rfl fun x13_7 h10 => ?_
  refine MV.lift1 (i := 3) rfl (fun _ z => z) (V.ld hS h10 rfl Vdf.one9) rfl rfl rfl [] (by kernel_rfl) fun x14_8 h11 => ?_
  refine MV.step0 (i := 4) rfl (VAL.move rfl) rfl rfl rfl ?_
  refine MV.lift0 (i := 5) rfl (V.nc h11 rfl) rfl rfl rfl fun x16_9 h12 => ?_
  refine MV.lift0 (i := 6) rfl (V.fa h12 rfl Vdf.fo255_1) rfl rfl rfl fun x17_10 h13 => ?_
  refine MV.lift1 (i := 7) rfl (fun _ z => z) (V.ld hS h13 rfl Vdf.one3) rfl rfl rfl [3] (by kernel_rfl) fun x18_11 h14 => ?_
  refine MV.lift1 (i := 8) rfl (fun _ z => z) (V.slLo (sliceF_ok h14) rfl rfl Vdf.st9) rfl rfl rfl [] (by kernel_rfl) fun x19_12 h15 => ?_
  refine MV.step0 (i := 9) rfl (VAL.move rfl) rfl rfl rfl ?_
  refine MV.force (i := 10) rfl ?_
  refine LV.call hS h15 (g266_ok _ _ _ _ _ ) hP rfl rfl rfl rfl fun x21_13 T3 n3 h16 ρ its hS => ?_
  refine LV.nextM [] (by kernel_rfl) (fun z => absurd rfl z) ?_
  refine mdn ?_
  refine CV.cond h16 rfl (fun e h17 => ?_) (fun e h17 => ?_)
  ·
   clear h6 h7 h8 h9 h10 h11 h12 h13 h14 h15 h16
   subst e
   refine sr ?_
   refine mv ?_
   refine as_ ?_
   refine dn ?_
   refine CV.ret ?_
   refine PV.blockR ?_
   refine PV.thenR ?_
   refine PV.thenR ?_
   refine PV.blockR ?_
   refine PV.thenR ?_
   cases h17
   exact PV.ret (by simp) Tryz.results233 hS (RS.tmp rfl RS.nil) rfl
  ·
   clear h6 h7 h8 h9 h10 h11 h12 h13 h14 h15 h16
   subst e
   refine CV.skip ?_
   refine PV.blockN ?_
   refine PV.thenN ?_
   refine CV.region ?_
   refine vy (V.add h17 rfl rfl) fun x23_14 h18 => ?_
   refine mv ?_
   refine LV.done ?_
   exact pb5 hS h18 ⟨rfl, rfl, rfl, rfl, rfl, trivial⟩
 ·
  clear h4 h5
  subst e
  refine CV.exit ?_
  refine PV.thenE ?_
  refine PV.thenE ?_
  refine PV.blockE ?_
  refine PV.thenN ?_
  refine sr ?_
  refine as_ ?_
  refine dn ?_
  refine CV.ret ?_
  cases h6
  exact PV.ret (by simp) Tryz.results233 hS (RS.tmp rfl RS.nil) rfl
noncomputable def g229_k3 (ro : List HT) (y0 y26 : AV) (T4 : HT) (n4 : Nat) : R :=
 condK 2290017 y26
 (
  .bad 2290018
 )
 (
  callK (g233 ro y0 T4 n4) fun x28_9 T5 n5 =>
  neSK Tryz.prog 9 (.tmp 28) (.const (.string ⟨⟨[]⟩⟩)) 2290021 x28_9 (.lit (.string ⟨⟨[]⟩⟩)) fun x29_10 =>
  .ok (.val x29_10) T5 n5
 )
noncomputable def g229_k2 (ro : List HT) (y0 y3 y22 : AV) (T3 : HT) (n3 : Nat) : R :=
 condK 2290023 y22
 (
  g229_k3 ro y0 (.lit (.bool true)) T3 n3
 )
 (
  eqK Tryz.prog 5 (.tmp 24) (.const (.int .u8 (.ofNat 39))) 2290026 y3 (.lit (.int .u8 (.ofNat 39))) fun x25_11 =>
  g229_k3 ro y0 x25_11 T3 n3
 )
noncomputable def g229_k1 (ro : List HT) (y0 y3 y18 : AV) (T2 : HT) (n2 : Nat) : R :=
 condK 2290028 y18
 (
  g229_k2 ro y0 y3 (.lit (.bool true)) T2 n2
 )
 (
  eqK Tryz.prog 5 (.tmp 20) (.const (.int .u8 (.ofNat 34))) 2290031 y3 (.lit (.int .u8 (.ofNat 34))) fun x21_12 =>
  g229_k2 ro y0 y3 x21_12 T2 n2
 )
noncomputable def g229 (ro : List HT) (a0 : AV) (T : HT) (nx : Nat) : R :=
 ncK 2290003 a0 fun x5_1 =>
 faK 2290004 x5_1 0 fun x6_2 =>
 ldK 2290005 T ro x6_2 fun x7_3 =>
 ncK 2290007 a0 fun x9_4 =>
 faK 2290008 x9_4 1 fun x10_5 =>
 ldK 2290009 T ro x10_5 fun x11_6 =>
 ixK 2290010 x7_3 x11_6 fun x12_7 =>
 callK (g172 ro x12_7 T nx) fun x14_8 T1 n1 =>
 condK 2290033 x14_8
 (
  g229_k1 ro a0 x12_7 (.lit (.bool true)) T1 n1
 )
 (
  callK (g174 ro x12_7 T1 n1) fun x17_13 T6 n6 =>
  g229_k1 ro a0 x12_7 x17_13 T6 n6
 )
theorem g229_ok (ro : List HT) (a0 : AV) (T : HT) (nx : Nat) : GOk Tryz.prog envE 229 [a0] ro T nx (g229 ro a0 T nx) := by
 refine GOk.of_body Tryz.func229 rfl Tryz.ntmps229 (by kernel_rfl) rfl fun r T' n' h1 w0 base ρ0 its hS hP => ?_
 have X : CtxW envE ρ0 ro r T' n' := trivial
 unfold g229 at h1
 refine sr ?_
 refine as_ ?_
 refine dn ?_
 refine CV.seq ?_
 refine CV.regionM [(0, .anywhere), (1, .anywhere), (2, .anywhere), (3, .held), (4, .anywhere), (5, .anywhere), (6, .anywhere), (7, .held), (8, .held), (9, .held)] rfl (fun c a a' w hd hq => PanicOk.root (P := Tryz.prog) (fn := Tryz.f229) (w0 := w0) (base := base) (E := envE) (ro := ro) (r := r) (T' := T') (n' := n') (ρ0 := ρ0) c a a' w hd hq) (by kernel_rfl) ?_
 refine MV.step0 (i := 0) rfl (VAL.move rfl) rfl rfl rfl ?_
 refine MV.lift0 (i := 1) rfl (V.nc h1 rfl) rfl rfl rfl fun x5_1 h2 => ?_
 refine MV.lift0 (i := 2) rfl (V.fa h2 rfl Vdf.fo255_0) rfl rfl rfl fun x6_2 h3 => ?_
 refine MV.lift1 (i := 3) rfl (fun _ z => z) (V.ld hS h3 rfl Vdf.one9) rfl rfl rfl [] (by kernel_rfl) fun x7_3 h4 => ?_
 refine MV.step0 (i := 4) rfl (VAL.move rfl) rfl rfl rfl ?_
 refine MV.lift0 (i := 5) rfl (V.nc h4 rfl) rfl rfl rfl fun x9_4 h5 => ?_
 refine MV.lift0 (i := 6) rfl (V.fa h5 rfl Vdf.fo255_1) rfl rfl rfl fun x10_5 h6 => ?_
 refine MV.lift1 (i := 7) rfl (fun _ z => z) (V.ld hS h6 rfl Vdf.one3) rfl rfl rfl [3] (by kernel_rfl) fun x11_6 h7 => ?_
 refine MV.lift1 (i := 8) rfl (fun _ z => z) (V.ix h7 rfl rfl Vdf.st9) rfl rfl rfl [] (by kernel_rfl) fun x12_7 h8 => ?_
 refine MV.step1 (i := 9) rfl (fun _ z => z) (VAL.assign rfl) rfl rfl rfl [] (by kernel_rfl) ?_
 refine mdn ?_
 refine CV.seq ?_
 refine sr ?_
 refine mv ?_
 refine LV.call hS h8 (g172_ok _ _ _ _ ) hP rfl rfl rfl rfl fun x14_8 T1 n1 h9 ρ its hS => ?_
 refine mv ?_
 refine ls3 X 0 3 18 [(2, (.lit (.bool false)))] (g229_k1 ro) 3 ?_ ?_
 ·
  rcases condK_inv h9 with ⟨e, h20⟩ | ⟨e, h20⟩
  ·
   clear h1 h2 h3 h4 h5 h6 h7 h8 h9
   subst e
   refine sk ?_
   refine sk ?_
   refine pu ?_
   exact la3 hS h20 ⟨rfl, rfl, rfl, rfl, trivial⟩
  ·
   clear h1 h2 h3 h4 h5 h6 h7 h8 h9
   subst e
   refine mv ?_
   refine LV.call hS h20 (g174_ok _ _ _ _ ) hP rfl rfl rfl rfl fun x17_13 T6 n6 h21 ρ its hS => ?_
   refine pu ?_
   exact la3 hS h21 ⟨rfl, rfl, rfl, rfl, trivial⟩
 ·
  intro y0 y3 y18 T2 n2 ρ its hS h10
  unfold g229_k1 at h10
  clear h1 h2 h3 h4 h5 h6 h7 h8 h9
  refine mv ?_
  refine ls3 X 0 3 22 [(2, (.lit (.bool false)))] (g229_k2 ro) 3 ?_ ?_
  ·
   rcases condK_inv h10 with ⟨e, h18⟩ | ⟨e, h18⟩
   ·
    clear h10
    subst e
    refine sk ?_
    refine sk ?_
    refine pu ?_
    exact la3 hS h18 ⟨rfl, rfl, rfl, rfl, trivial⟩
   ·
    clear h10
    subst e
    refine mv ?_
    refine vy (V.eq h18 rfl rfl) fun x21_12 h19 => ?_
    refine pu ?_
    exact la3 hS h19 ⟨rfl, rfl, rfl, rfl, trivial⟩
  ·
   intro y0 y3 y22 T3 n3 ρ its hS h11
   unfold g229_k2 at h11
   clear h10
   refine mv ?_
   refine ls2 X 0 26 [(2, (.lit (.bool false)))] (g229_k3 ro) 3 ?_ ?_
   ·
    rcases condK_inv h11 with ⟨e, h16⟩ | ⟨e, h16⟩
    ·
     clear h11
     subst e
     refine sk ?_
     refine sk ?_
     refine pu ?_
     exact la2 hS h16 ⟨rfl, rfl, rfl, trivial⟩
    ·
     clear h11
     subst e
     refine mv ?_
     refine vy (V.eq h16 rfl rfl) fun x25_11 h17 => ?_
     refine pu ?_
     exact la2 hS h17 ⟨rfl, rfl, rfl, trivial⟩
   ·
    intro y0 y26 T4 n4 ρ its hS h12
    unfold g229_k3 at h12
    clear h11
    refine dn ?_
    refine CV.cond h12 rfl (fun e h13 => ?_) (fun e h13 => ?_)
    ·
     clear h12
     subst e
     cases h13
    ·
     clear h12
     subst e
     refine CV.skip ?_
     refine PV.thenN ?_
     refine sr ?_
     refine mv ?_
     refine LV.call hS h13 (g233_ok _ _ _ _ ) hP rfl rfl rfl rfl fun x28_9 T5 n5 h14 ρ its hS => ?_
     refine vy (V.neS h14 rfl rfl) fun x29_10 h15 => ?_
     refine as_ ?_
     refine dn ?_
     refine CV.ret ?_
     cases h15
     exact PV.ret (by simp) Tryz.results229 hS (RS.tmp rfl RS.nil) rfl
noncomputable def g263_b1 (ro : List HT) (lp1 : AV → AV → AV → AV → HT → Nat → R) (y0 y1 y4 y5 : AV) (T1 : HT) (n1 : Nat) : R :=
 geK Tryz.prog 3 (.tmp 9) (.const (.int .i64 (.ofNat 0))) 2630008 y5 (.lit (.int .i64 (.ofNat 0))) fun x10_3 =>
 condK 2630009 x10_3
 (
  ixK 2630012 y0 y5 fun x15_4 =>
  eqK Tryz.prog 5 (.tmp 15) (.tmp 16) 2630014 x15_4 y1 fun x17_5 =>
  condK 2630015 x17_5
  (
   .ok (.val y5) T1 n1
  )
  (
   subK Tryz.prog 3 (.tmp 11) (.const (.int .i64 (.ofNat 1))) 2630019 y5 (.lit (.int .i64 (.ofNat 1))) fun x12_6 =>
   lp1 y0 y1 y4 x12_6 T1 n1
  )
 )
 (
  .ok (.val (.lit (.int .i64 (.negSucc 0)))) T1 n1
 )
noncomputable def g263 (ro : List HT) (a0 a1 : AV) (T : HT) (nx : Nat) : R :=
 lenTK 2630003 a0 fun x7_1 =>
 subK Tryz.prog 3 (.tmp 7) (.const (.int .i64 (.ofNat 1))) 2630004 x7_1 (.lit (.int .i64 (.ofNat 1))) fun x8_2 =>
 lpf4 2630006 (g263_b1 ro) 100000 a0 a1 (.lit (.int .i64 (.ofNat 0))) x8_2 T nx
theorem g263_ok (ro : List HT) (a0 a1 : AV) (T : HT) (nx : Nat) : GOk Tryz.prog envE 263 [a0, a1] ro T nx (g263 ro a0 a1 T nx) := by
 refine GOk.of_body Tryz.func263 rfl Tryz.ntmps263 (by kernel_rfl) rfl fun r T' n' h1 w0 base ρ0 its hS hP => ?_
 have X : CtxW envE ρ0 ro r T' n' := trivial
 unfold g263 at h1
 refine sr ?_
 refine as_ ?_
 refine dn ?_
 refine CV.seq ?_
 refine sr ?_
 refine mv ?_
 refine vy (V.lenT h1 rfl Vdf.ls9) fun x7_1 h2 => ?_
 refine vy (V.sub h2 rfl rfl) fun x8_2 h3 => ?_
 refine as_ ?_
 refine dn ?_
 refine CV.block ?_
 refine cl4 X 0 1 4 5 [] hS h3 ⟨rfl, rfl, rfl, rfl, trivial⟩ ?_
 intro f1 y0 y1 y4 y5 T1 n1 ρ its hS h4
 unfold g263_b1 at h4
 clear h1 h2 h3
 refine CV.seq ?_
 refine sr ?_
 refine mv ?_
 refine vy (V.ge h4 rfl rfl) fun x10_3 h5 => ?_
 refine dn ?_
 refine CV.cond h5 rfl (fun e h6 => ?_) (fun e h6 => ?_)
 ·
  clear h4 h5
  subst e
  refine CV.skip ?_
  refine PV.thenN ?_
  refine CV.seq ?_
  refine CV.block ?_
  refine sr ?_
  refine mv ?_
  refine mv ?_
  refine vy (V.ix h6 rfl rfl Vdf.st9) fun x15_4 h7 => ?_
  refine mv ?_
  refine vy (V.eq h7 rfl rfl) fun x17_5 h8 => ?_
  refine dn ?_
  refine CV.cond h8 rfl (fun e h9 => ?_) (fun e h9 => ?_)
  ·
   clear h6 h7 h8
   subst e
   refine sr ?_
   refine mv ?_
   refine as_ ?_
   refine dn ?_
   refine CV.ret ?_
   refine PV.blockR ?_
   refine PV.thenR ?_
   refine PV.thenR ?_
   refine PV.blockR ?_
   refine PV.thenR ?_
   cases h9
   exact PV.ret (by simp) Tryz.results263 hS (RS.tmp rfl RS.nil) rfl
  ·
   clear h6 h7 h8
   subst e
   refine CV.skip ?_
   refine PV.blockN ?_
   refine PV.thenN ?_
   refine CV.region ?_
   refine mv ?_
   refine vy (V.sub h9 rfl rfl) fun x12_6 h10 => ?_
   refine as_ ?_
   refine LV.done ?_
   exact pb4 hS h10 ⟨rfl, rfl, rfl, rfl, trivial⟩
 ·
  clear h4 h5
  subst e
  refine CV.exit ?_
  refine PV.thenE ?_
  refine PV.thenE ?_
  refine PV.blockE ?_
  refine PV.thenN ?_
  refine sr ?_
  refine as_ ?_
  refine dn ?_
  refine CV.ret ?_
  cases h6
  exact PV.ret (by simp) Tryz.results263 hS (RS.tmp rfl RS.nil) rfl
noncomputable def g230 (ro : List HT) (a0 a1 : AV) (T : HT) (nx : Nat) : R :=
 callK (g263 ro a0 a1 T nx) fun x7_1 T1 n1 =>
 .ok (.val x7_1) T1 n1
theorem g230_ok (ro : List HT) (a0 a1 : AV) (T : HT) (nx : Nat) : GOk Tryz.prog envE 230 [a0, a1] ro T nx (g230 ro a0 a1 T nx) := by
 refine GOk.of_body Tryz.func230 rfl Tryz.ntmps230 (by kernel_rfl) rfl fun r T' n' h1 w0 base ρ0 its hS hP => ?_
 have X : CtxW envE ρ0 ro r T' n' := trivial
 unfold g230 at h1
 refine sr ?_
 refine as_ ?_
 refine dn ?_
 refine sr ?_
 refine mv ?_
 refine mv ?_
 refine LV.call hS h1 (g263_ok _ _ _ _ _ ) hP rfl rfl rfl rfl fun x7_1 T1 n1 h2 ρ its hS => ?_
 refine as_ ?_
 refine dn ?_
 refine CV.ret ?_
 cases h2
 exact PV.ret (by simp) Tryz.results230 hS (RS.tmp rfl RS.nil) rfl
noncomputable def g171_b1 (ro : List HT) (lp1 : AV → AV → AV → HT → Nat → R) (y0 y2 y3 : AV) (T3 : HT) (n3 : Nat) : R :=
 ncK 1710048 y0 fun x76_28 =>
 faK 1710049 x76_28 3 fun x77_29 =>
 ldK 1710050 T3 ro x77_29 fun x78_30 =>
 ncK 1710052 y0 fun x80_31 =>
 faK 1710053 x80_31 3 fun x81_32 =>
 ldK 1710054 T3 ro x81_32 fun x82_33 =>
 lenSK 1710055 x82_33 fun x83_34 =>
 subK Tryz.prog 3 (.tmp 83) (.const (.int .i64 (.ofNat 1))) 1710056 x83_34 (.lit (.int .i64 (.ofNat 1))) fun x84_35 =>
 iaK 1710057 x78_30 x84_35 1 fun x85_36 =>
 ldK 1710058 T3 ro x85_36 fun x86_37 =>
 ltK Tryz.prog 3 (.tmp 74) (.tmp 86) 1710059 y3 x86_37 fun x87_38 =>
 condK 1710060 x87_38
 (
  ncK 1710063 y0 fun x90_39 =>
  faK 1710064 x90_39 3 fun x91_40 =>
  ldK 1710065 T3 ro x91_40 fun x92_41 =>
  ncK 1710067 y0 fun x94_42 =>
  faK 1710068 x94_42 3 fun x95_43 =>
  ldK 1710069 T3 ro x95_43 fun x96_44 =>
  lenSK 1710070 x96_44 fun x97_45 =>
  subK Tryz.prog 3 (.tmp 97) (.const (.int .i64 (.ofNat 1))) 1710071 x97_45 (.lit (.int .i64 (.ofNat 1))) fun x98_46 =>
  cutHiK 1710072 T3 ro x92_41 x98_46 fun x99_47 =>
  ncK 1710073 y0 fun x100_48 =>
  faK 1710074 x100_48 3 fun x101_49 =>
  stK 1710075 T3 x101_49 x99_47 fun T4 =>
  fldK 1710078 T4 ro y0 1 fun x106_50 =>
  callK (g133 ro y0 (.lit (.int .i64 (.ofNat 7))) (.lit (.string ⟨⟨[]⟩⟩)) x106_50 T4 n3) fun x107_51 T5 n5 =>
  lp1 y0 y2 y3 T5 n5
 )
 (
  ncK 1710082 y0 fun x110_52 =>
  faK 1710083 x110_52 3 fun x111_53 =>
  ldK 1710084 T3 ro x111_53 fun x112_54 =>
  ncK 1710086 y0 fun x114_55 =>
  faK 1710087 x114_55 3 fun x115_56 =>
  ldK 1710088 T3 ro x115_56 fun x116_57 =>
  lenSK 1710089 x116_57 fun x117_58 =>
  subK Tryz.prog 3 (.tmp 117) (.const (.int .i64 (.ofNat 1))) 1710090 x117_58 (.lit (.int .i64 (.ofNat 1))) fun x118_59 =>
  iaK 1710091 x112_54 x118_59 1 fun x119_60 =>
  ldK 1710092 T3 ro x119_60 fun x120_61 =>
  neK Tryz.prog 3 (.tmp 108) (.tmp 120) 1710093 y3 x120_61 fun x121_62 =>
  condK 1710094 x121_62
  (
   .bad 1710095
  )
  (
   .ok (.val (.lit (.nilIface))) T3 n3
  )
 )
noncomputable def g171 (ro : List HT) (a0 : AV) (T : HT) (nx : Nat) : R :=
 callK (g229 ro a0 T nx) fun x6_1 T1 n1 =>
 notK 1710004 x6_1 fun x7_2 =>
 condK 1710005 x7_2
 (
  .bad 1710006
 )
 (
  faK 1710008 a0 5 fun x15_3 =>
  stK 1710009 T1 x15_3 (.lit (.bool true)) fun T2 =>
  ncK 1710011 a0 fun x17_4 =>
  faK 1710012 x17_4 1 fun x18_5 =>
  ldK 1710013 T2 ro x18_5 fun x19_6 =>
  ncK 1710015 a0 fun x21_7 =>
  faK 1710016 x21_7 0 fun x22_8 =>
  ldK 1710017 T2 ro x22_8 fun x23_9 =>
  ncK 1710019 a0 fun x25_10 =>
  faK 1710020 x25_10 1 fun x26_11 =>
  ldK 1710021 T2 ro x26_11 fun x27_12 =>
  sliceF 1710022 x23_9 none (some x27_12) fun x28_13 =>
  callQ 1710023 (g230 (T2 :: ro) x28_13 (.lit (.int .u8 (.ofNat 10))) .nil n1) fun x29_14 =>
  addK Tryz.prog 3 (.tmp 29) (.const (.int .i64 (.ofNat 1))) 1710024 x29_14 (.lit (.int .i64 (.ofNat 1))) fun x30_15 =>
  subK Tryz.prog 3 (.tmp 19) (.tmp 30) 1710025 x19_6 x30_15 fun x31_16 =>
  ncK 1710028 a0 fun x33_17 =>
  faK 1710029 x33_17 3 fun x34_18 =>
  ldK 1710030 T2 ro x34_18 fun x35_19 =>
  ncK 1710032 a0 fun x37_20 =>
  faK 1710033 x37_20 3 fun x38_21 =>
  ldK 1710034 T2 ro x38_21 fun x39_22 =>
  lenSK 1710035 x39_22 fun x40_23 =>
  subK Tryz.prog 3 (.tmp 40) (.const (.int .i64 (.ofNat 1))) 1710036 x40_23 (.lit (.int .i64 (.ofNat 1))) fun x41_24 =>
  iaK 1710037 x35_19 x41_24 1 fun x42_25 =>
  ldK 1710038 T2 ro x42_25 fun x43_26 =>
  gtK Tryz.prog 3 (.tmp 44) (.tmp 45) 1710042 x31_16 x43_26 fun x46_27 =>
  condK 1710043 x46_27
  (
   .bad 1710044
  )
  (
   lpf3 1710045 (g171_b1 ro) 100000 a0 (.lit (.nilIface)) x31_16 T2 n1
  )
 )
theorem g171_ok (ro : List HT) (a0 : AV) (T : HT) (nx : Nat) : GOk Tryz.prog envE 171 [a0] ro T nx (g171 ro a0 T nx) := by
 refine GOk.of_body Tryz.func171 rfl Tryz.ntmps171 (by kernel_rfl) rfl fun r T' n' h1 w0 base ρ0 its hS hP => ?_
 have X : CtxW envE ρ0 ro r T' n' := trivial
 unfold g171 at h1
 refine sr ?_
 refine as_ ?_
 refine dn ?_
 refine CV.seq ?_
 refine sr ?_
 refine mv ?_
 refine LV.call hS h1 (g229_ok _ _ _ _ ) hP rfl rfl rfl rfl fun x6_1 T1 n1 h2 ρ its hS => ?_
 refine vy (V.not h2 rfl) fun x7_2 h3 => ?_
 refine dn ?_
 refine CV.cond h3 rfl (fun e h4 => ?_) (fun e h4 => ?_)
 ·
  clear h1 h2 h3
  subst e
  cases h4
 ·
  clear h1 h2 h3
  subst e
  refine CV.skip ?_
  refine PV.thenN ?_
  refine sr ?_
  refine mv ?_
  refine fa2 h4 Vdf.fo255_5 fun x15_3 h5 => ?_
  refine LV.st hS h5 rfl rfl rfl Vdf.siz4 rfl rfl fun T2 its h6 hS => ?_
  refine dn ?_
  refine CV.seq ?_
  refine CV.regionM [(0, .anywhere), (1, .anywhere), (2, .anywhere), (3, .held), (4, .anywhere), (5, .anywhere), (6, .anywhere), (7, .held), (8, .anywhere), (9, .anywhere), (10, .anywhere), (11, .held), (12, .held), (13, .alone), (14, .alone), (15, .alone), (16, .alone)] rfl (fun c a a' w hd hq => PanicOk.root (P := Tryz.prog) (fn := Tryz.f171) (w0 := w0) (base := base) (E := envE) (ro := ro) (r := r) (T' := T') (n' := n') (ρ0 := ρ0) c a a' w hd hq) (by kernel_rfl) ?_
  refine MV.step0 (i := 0) rfl (VAL.move rfl) rfl rfl rfl ?_
  refine MV.lift0 (i := 1) rfl (V.nc h6 rfl) rfl rfl rfl fun x17_4 h7 => ?_
  refine MV.lift0 (i := 2) rfl (V.fa h7 rfl Vdf.fo255_1) rfl rfl rfl fun x18_5 h8 => ?_
  refine MV.lift1 (i := 3) rfl (fun _ z => z) (V.ld hS h8 rfl Vdf.one3) rfl rfl rfl [] (by kernel_rfl) fun x19_6 h9 => ?_
  refine MV.step0 (i := 4) rfl (VAL.move rfl) rfl rfl rfl ?_
  refine MV.lift0 (i := 5) rfl (V.nc h9 rfl) rfl rfl rfl fun x21_7 h10 => ?_
  refine MV.lift0 (i := 6) rfl (V.fa h10 rfl Vdf.fo255_0) rfl rfl rfl fun x22_8 h11 => ?_
  refine MV.lift1 (i := 7) rfl (fun _ z => z) (V.ld hS h11 rfl Vdf.one9) rfl rfl rfl [3] (by kernel_rfl) fun x23_9 h12 => ?_
  refine MV.step0 (i := 8) rfl (VAL.move rfl) rfl rfl rfl ?_
  refine MV.lift0 (i := 9) rfl (V.nc h12 rfl) rfl rfl rfl fun x25_10 h13 => ?_
  refine MV.lift0 (i := 10) rfl (V.fa h13 rfl Vdf.fo255_1) rfl rfl rfl fun x26_11 h14 => ?_
  refine MV.lift1 (i := 11) rfl (fun _ z => z) (V.ld hS h14 rfl Vdf.one3) rfl rfl rfl [7, 3] (by kernel_rfl) fun x27_12 h15 => ?_
  refine MV.lift1 (i := 12) rfl (fun _ z => z) (V.slHi (sliceF_ok h15) rfl rfl Vdf.st9) rfl rfl rfl [3] (by kernel_rfl) fun x28_13 h16 => ?_
  refine MV.force (i := 13) rfl ?_
  refine LV.callQ hS h16 (g230_ok _ _ _ _ _ ) rfl rfl rfl rfl fun x29_14 h17 => ?_
  refine LV.nextM [3] (by kernel_rfl) (fun _ => fun _ z => z) ?_
  refine MV.force (i := 14) rfl ?_
  refine vy (V.add h17 rfl rfl) fun x30_15 h18 => ?_
  refine LV.nextM [3] (by kernel_rfl) (fun _ => fun _ z => z) ?_
  refine MV.force (i := 15) rfl ?_
  refine vy (V.sub h18 rfl rfl) fun x31_16 h19 => ?_
  refine LV.nextM [] (by kernel_rfl) (fun z => absurd rfl z) ?_
  refine MV.force (i := 16) rfl ?_
  refine as_ ?_
  refine LV.nextM [] (by kernel_rfl) (fun z => absurd rfl z) ?_
  refine mdn ?_
  refine CV.seq ?_
  refine CV.regionM [(0, .anywhere), (1, .anywhere), (2, .anywhere), (3, .held), (4, .anywhere), (5, .anywhere), (6, .anywhere), (7, .held), (8, .held), (9, .held), (10, .held), (11, .held), (12, .held)] rfl (fun c a a' w hd hq => PanicOk.root (P := Tryz.prog) (fn := Tryz.f171) (w0 := w0) (base := base) (E := envE) (ro := ro) (r := r) (T' := T') (n' := n') (ρ0 := ρ0) c a a' w hd hq) (by kernel_rfl) ?_
  refine MV.step0 (i := 0) rfl (VAL.move rfl) rfl rfl rfl ?_
  refine MV.lift0 (i := 1) rfl (V.nc h19 rfl) rfl rfl rfl fun x33_17 h20 => ?_
  refine MV.lift0 (i := 2) rfl (V.fa h20 rfl Vdf.fo255_3) rfl rfl rfl fun x34_18 h21 => ?_
  refine MV.lift1 (i := 3) rfl (fun _ z => z) (V.ld hS h21 rfl Vdf.one170) rfl rfl rfl [] (by kernel_rfl) fun x35_19 h22 => ?_
  refine MV.step0 (i := 4) rfl (VAL.move rfl) rfl rfl rfl ?_
  refine MV.lift0 (i := 5) rfl (V.nc h22 rfl) rfl rfl rfl fun x37_20 h23 => ?_
  refine MV.lift0 (i := 6) rfl (V.fa h23 rfl Vdf.fo255_3) rfl rfl rfl fun x38_21 h24 => ?_
  refine MV.lift1 (i := 7) rfl (fun _ z => z) (V.ld hS h24 rfl Vdf.one170) rfl rfl rfl [3] (by kernel_rfl) fun x39_22 h25 => ?_
  refine MV.lift1 (i := 8) rfl (fun _ z => z) (V.lenS h25 rfl Vdf.ls170) rfl rfl rfl [3] (by kernel_rfl) fun x40_23 h26 => ?_
  refine MV.lift1 (i := 9) rfl (fun _ z => z) (V.sub h26 rfl rfl) rfl rfl rfl [3] (by kernel_rfl) fun x41_24 h27 => ?_
  refine MV.lift1 (i := 10) rfl (fun _ z => z) (V.ia h27 rfl rfl Vdf.el170) rfl rfl rfl [] (by kernel_rfl) fun x42_25 h28 => ?_
  refine MV.lift1 (i := 11) rfl (fun _ z => z) (V.ld hS h28 rfl Vdf.one3) rfl rfl rfl [] (by kernel_rfl) fun x43_26 h29 => ?_
  refine MV.step1 (i := 12) rfl (fun _ z => z) (VAL.assign rfl) rfl rfl rfl [] (by kernel_rfl) ?_
  refine mdn ?_
  refine CV.seq ?_
  refine sr ?_
  refine mv ?_
  refine mv ?_
  refine vy (V.gt h29 rfl rfl) fun x46_27 h30 => ?_
  refine dn ?_
  refine CV.cond h30 rfl (fun e h31 => ?_) (fun e h31 => ?_)
  ·
   clear h4 h5 h6 h7 h8 h9 h10 h11 h12 h13 h14 h15 h16 h17 h18 h19 h20 h21 h22 h23 h24 h25 h26 h27 h28 h29 h30
   subst e
   cases h31
  ·
   clear h4 h5 h6 h7 h8 h9 h10 h11 h12 h13 h14 h15 h16 h17 h18 h19 h20 h21 h22 h23 h24 h25 h26 h27 h28 h29 h30
   subst e
   refine CV.skip ?_
   refine PV.thenN ?_
   refine CV.seq ?_
   refine CV.block ?_
   refine cl3 X 0 2 3 [] hS h31 ⟨rfl, rfl, rfl, trivial⟩ ?_
   intro f1 y0 y2 y3 T3 n3 ρ its hS h32
   unfold g171_b1 at h32
   clear h31
   refine CV.seq ?_
   refine CV.seq ?_
   refine CV.regionM [(0, .anywhere), (1, .anywhere), (2, .anywhere), (3, .anywhere), (4, .held), (5, .anywhere), (6, .anywhere), (7, .anywhere), (8, .held), (9, .held), (10, .held), (11, .held), (12, .held), (13, .held)] rfl (fun c a a' w hd hq => PanicOk.root (P := Tryz.prog) (fn := Tryz.f171) (w0 := w0) (base := base) (E := envE) (ro := ro) (r := r) (T' := T') (n' := n') (ρ0 := ρ0) c a a' w hd hq) (by kernel_rfl) ?_
   refine MV.step0 (i := 0) rfl (VAL.move rfl) rfl rfl rfl ?_
   refine MV.step0 (i := 1) rfl (VAL.move rfl) rfl rfl rfl ?_
   refine MV.lift0 (i := 2) rfl (V.nc h32 rfl) rfl rfl rfl fun x76_28 h33 => ?_
   refine MV.lift0 (i := 3) rfl (V.fa h33 rfl Vdf.fo255_3) rfl rfl rfl fun x77_29 h34 => ?_
   refine MV.lift1 (i := 4) rfl (fun _ z => z) (V.ld hS h34 rfl Vdf.one170) rfl rfl rfl [] (by kernel_rfl) fun x78_30 h35 => ?_
   refine MV.step0 (i := 5) rfl (VAL.move rfl) rfl rfl rfl ?_
   refine MV.lift0 (i := 6) rfl (V.nc h35 rfl) rfl rfl rfl fun x80_31 h36 => ?_
   refine MV.lift0 (i := 7) rfl (V.fa h36 rfl Vdf.fo255_3) rfl rfl rfl fun x81_32 h37 => ?_
   refine MV.lift1 (i := 8) rfl (fun _ z => z) (V.ld hS h37 rfl Vdf.one170) rfl rfl rfl [4] (by kernel_rfl) fun x82_33 h38 => ?_
   refine MV.lift1 (i := 9) rfl (fun _ z => z) (V.lenS h38 rfl Vdf.ls170) rfl rfl rfl [4] (by kernel_rfl) fun x83_34 h39 => ?_
   refine MV.lift1 (i := 10) rfl (fun _ z => z) (V.sub h39 rfl rfl) rfl rfl rfl [4] (by kernel_rfl) fun x84_35 h40 => ?_
   refine MV.lift1 (i := 11) rfl (fun _ z => z) (V.ia h40 rfl rfl Vdf.el170) rfl rfl rfl [] (by kernel_rfl) fun x85_36 h41 => ?_
   refine MV.lift1 (i := 12) rfl (fun _ z => z) (V.ld hS h41 rfl Vdf.one3) rfl rfl rfl [] (by kernel_rfl) fun x86_37 h42 => ?_
   refine MV.lift1 (i := 13) rfl (fun _ z => z) (V.lt h42 rfl rfl) rfl rfl rfl [] (by kernel_rfl) fun x87_38 h43 => ?_
   refine mdn ?_
   refine CV.cond h43 rfl (fun e h44 => ?_) (fun e h44 => ?_)
   ·
    clear h32 h33 h34 h35 h36 h37 h38 h39 h40 h41 h42 h43
    subst e
    refine CV.skip ?_
    refine PV.thenN ?_
    refine CV.block ?_
    refine CV.seq ?_
    refine CV.regionM [(0, .anywhere), (1, .anywhere), (2, .anywhere), (3, .anywhere), (4, .held), (5, .anywhere), (6, .anywhere), (7, .anywhere), (8, .held), (9, .held), (10, .held), (11, .held), (12, .held), (13, .held), (14, .alone)] rfl (fun c a a' w hd hq => PanicOk.root (P := Tryz.prog) (fn := Tryz.f171) (w0 := w0) (base := base) (E := envE) (ro := ro) (r := r) (T' := T') (n' := n') (ρ0 := ρ0) c a a' w hd hq) (by kernel_rfl) ?_
    refine MV.step0 (i := 0) rfl (VAL.move rfl) rfl rfl rfl ?_
    refine MV.step0 (i := 1) rfl (VAL.move rfl) rfl rfl rfl ?_
    refine MV.lift0 (i := 2) rfl (V.nc h44 rfl) rfl rfl rfl fun x90_39 h45 => ?_
    refine MV.lift0 (i := 3) rfl (V.fa h45 rfl Vdf.fo255_3) rfl rfl rfl fun x91_40 h46 => ?_
    refine MV.lift1 (i := 4) rfl (fun _ z => z) (V.ld hS h46 rfl Vdf.one170) rfl rfl rfl [] (by kernel_rfl) fun x92_41 h47 => ?_
    refine MV.step0 (i := 5) rfl (VAL.move rfl) rfl rfl rfl ?_
    refine MV.lift0 (i := 6) rfl (V.nc h47 rfl) rfl rfl rfl fun x94_42 h48 => ?_
    refine MV.lift0 (i := 7) rfl (V.fa h48 rfl Vdf.fo255_3) rfl rfl rfl fun x95_43 h49 => ?_
    refine MV.lift1 (i := 8) rfl (fun _ z => z) (V.ld hS h49 rfl Vdf.one170) rfl rfl rfl [4] (by kernel_rfl) fun x96_44 h50 => ?_
    refine MV.lift1 (i := 9) rfl (fun _ z => z) (V.lenS h50 rfl Vdf.ls170) rfl rfl rfl [4] (by kernel_rfl) fun x97_45 h51 => ?_
    refine MV.lift1 (i := 10) rfl (fun _ z => z) (V.sub h51 rfl rfl) rfl rfl rfl [4] (by kernel_rfl) fun x98_46 h52 => ?_
    refine MV.lift1 (i := 11) rfl (fun _ z => z) (V.cutHi hS h52 rfl rfl Vdf.el170) rfl rfl rfl [] (by kernel_rfl) fun x99_47 h53 => ?_
    refine MV.lift1 (i := 12) rfl (fun _ z => z) (V.nc h53 rfl) rfl rfl rfl [] (by kernel_rfl) fun x100_48 h54 => ?_
    refine MV.lift1 (i := 13) rfl (fun _ z => z) (V.fa h54 rfl Vdf.fo255_3) rfl rfl rfl [] (by kernel_rfl) fun x101_49 h55 => ?_
    refine MV.force (i := 14) rfl ?_
    refine LV.st hS h55 rfl rfl rfl Vdf.siz170 rfl rfl fun T4 its h56 hS => ?_
    refine LV.nextM [] (by kernel_rfl) (fun z => absurd rfl z) ?_
    refine mdn ?_
    refine CV.region ?_
    refine mv ?_
    refine mv ?_
    refine fl hS h56 Vdf.fo255_1 Vdf.one3 fun x106_50 h57 => ?_
    refine LV.call hS h57 (g133_ok _ _ _ _ _ _ _ ) hP rfl rfl rfl rfl fun x107_51 T5 n5 h58 ρ its hS => ?_
    refine LV.done ?_
    refine PV.blockN ?_
    exact pb3 hS h58 ⟨rfl, rfl, rfl, trivial⟩
   ·
    clear h32 h33 h34 h35 h36 h37 h38 h39 h40 h41 h42 h43
    subst e
    refine CV.exit ?_
    refine PV.thenE ?_
    refine PV.thenE ?_
    refine PV.blockE ?_
    refine PV.thenN ?_
    refine CV.seq ?_
    refine CV.seq ?_
    refine CV.regionM [(0, .anywhere), (1, .anywhere), (2, .anywhere), (3, .anywhere), (4, .held), (5, .anywhere), (6, .anywhere), (7, .anywhere), (8, .held), (9, .held), (10, .held), (11, .held), (12, .held), (13, .held)] rfl (fun c a a' w hd hq => PanicOk.root (P := Tryz.prog) (fn := Tryz.f171) (w0 := w0) (base := base) (E := envE) (ro := ro) (r := r) (T' := T') (n' := n') (ρ0 := ρ0) c a a' w hd hq) (by kernel_rfl) ?_
    refine MV.step0 (i := 0) rfl (VAL.move rfl) rfl rfl rfl ?_
    refine MV.step0 (i := 1) rfl (VAL.move rfl) rfl rfl rfl ?_
    refine MV.lift0 (i := 2) rfl (V.nc h44 rfl) rfl rfl rfl fun x110_52 h59 => ?_
    refine MV.lift0 (i := 3) rfl (V.fa h59 rfl Vdf.fo255_3) rfl rfl rfl fun x111_53 h60 => ?_
    refine MV.lift1 (i := 4) rfl (fun _ z => z) (V.ld hS h60 rfl Vdf.one170) rfl rfl rfl [] (by kernel_rfl) fun x112_54 h61 => ?_
    refine MV.step0 (i := 5) rfl (VAL.move rfl) rfl rfl rfl ?_
    refine MV.lift0 (i := 6) rfl (V.nc h61 rfl) rfl rfl rfl fun x114_55 h62 => ?_
    refine MV.lift0 (i := 7) rfl (V.fa h62 rfl Vdf.fo255_3) rfl rfl rfl fun x115_56 h63 => ?_
    refine MV.lift1 (i := 8) rfl (fun _ z => z) (V.ld hS h63 rfl Vdf.one170) rfl rfl rfl [4] (by kernel_rfl) fun x116_57 h64 => ?_
    refine MV.lift1 (i := 9) rfl (fun _ z => z) (V.lenS h64 rfl Vdf.ls170) rfl rfl rfl [4] (by kernel_rfl) fun x117_58 h65 => ?_
    refine MV.lift1 (i := 10) rfl (fun _ z => z) (V.sub h65 rfl rfl) rfl rfl rfl [4] (by kernel_rfl) fun x118_59 h66 => ?_
    refine MV.lift1 (i := 11) rfl (fun _ z => z) (V.ia h66 rfl rfl Vdf.el170) rfl rfl rfl [] (by kernel_rfl) fun x119_60 h67 => ?_
    refine MV.lift1 (i := 12) rfl (fun _ z => z) (V.ld hS h67 rfl Vdf.one3) rfl rfl rfl [] (by kernel_rfl) fun x120_61 h68 => ?_
    refine MV.lift1 (i := 13) rfl (fun _ z => z) (V.ne h68 rfl rfl) rfl rfl rfl [] (by kernel_rfl) fun x121_62 h69 => ?_
    refine mdn ?_
    refine CV.cond h69 rfl (fun e h70 => ?_) (fun e h70 => ?_)
    ·
     clear h44 h59 h60 h61 h62 h63 h64 h65 h66 h67 h68 h69
     subst e
     cases h70
    ·
     clear h44 h59 h60 h61 h62 h63 h64 h65 h66 h67 h68 h69
     subst e
     refine CV.skip ?_
     refine PV.thenN ?_
     refine sr ?_
     refine as_ ?_
     refine dn ?_
     refine CV.ret ?_
     cases h70
     exact PV.ret (by simp) Tryz.results171 hS (RS.tmp rfl RS.nil) rfl

end Go.Proofs.YtlljgagoboapaaaGreatDoor.Vd
