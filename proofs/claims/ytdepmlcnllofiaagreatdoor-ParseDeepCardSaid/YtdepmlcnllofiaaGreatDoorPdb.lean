/-
  Proved here: plain functions that do what the program's functions do, each with its proof.
-/
import Derived.Test.YtdepmlcnllofiaaGreatDoorPda
namespace Go.Proofs.YtdepmlcnllofiaaGreatDoor.Pd
open Go.EY Go.EX Go.SX Go.RowKit
noncomputable def g238 (ih : FuncId → List HT → List AV → HT → Nat → R) (ro : List HT) (a0 : AV) (T : HT) (nx : Nat) : R :=
 ncK 2380003 a0 fun x6_1 =>
 faK 2380004 x6_1 0 fun x7_2 =>
 ldK 2380005 T ro x7_2 fun x8_3 =>
 ncK 2380007 a0 fun x10_4 =>
 faK 2380008 x10_4 1 fun x11_5 =>
 ldK 2380009 T ro x11_5 fun x12_6 =>
 iaK 2380010 x8_3 x12_6 3 fun x13_7 =>
 ldAK 2380011 T ro x13_7 3 fun x14_8 =>
 newK T nx (.obj [.lit (.int .i64 0), .lit (.string ⟨#[]⟩), .lit (.int .i64 0)] 139) fun x3_9 T1 n1 =>
 stAK 2380013 T1 x3_9 x14_8 3 fun T2 =>
 faK 2380014 x3_9 0 fun x16_10 =>
 ldK 2380015 T2 ro x16_10 fun x17_11 =>
 eqK Tryz.prog 3 (.tmp 17) (.const (.int .i64 (.ofNat 1))) 2380016 x17_11 (.lit (.int .i64 (.ofNat 1))) fun x18_12 =>
 condK 2380018 x18_12
 (
  fldK 2380020 T2 ro a0 1 fun x22_13 =>
  addK Tryz.prog 3 (.tmp 22) (.const (.int .i64 (.ofNat 1))) 2380021 x22_13 (.lit (.int .i64 (.ofNat 1))) fun x23_14 =>
  faK 2380022 a0 1 fun x25_15 =>
  stK 2380023 T2 x25_15 x23_14 fun T3 =>
  faK 2380025 x3_9 2 fun x27_16 =>
  ldK 2380026 T3 ro x27_16 fun x28_17 =>
  faK 2380027 x3_9 1 fun x29_18 =>
  ldK 2380028 T3 ro x29_18 fun x30_19 =>
  callK (g65 ro a0 (.lit (.int .i64 (.ofNat 6))) x28_17 x30_19 (.lit (.slice none 0 0)) T3 n1) fun x31_20 T4 n4 =>
  .ok (.val x31_20) T4 n4
 )
 (
  faK 2380031 x3_9 0 fun x33_21 =>
  ldK 2380032 T2 ro x33_21 fun x34_22 =>
  eqK Tryz.prog 3 (.tmp 34) (.const (.int .i64 (.ofNat 2))) 2380033 x34_22 (.lit (.int .i64 (.ofNat 2))) fun x35_23 =>
  condK 2380035 x35_23
  (
   fldK 2380037 T2 ro a0 1 fun x39_24 =>
   addK Tryz.prog 3 (.tmp 39) (.const (.int .i64 (.ofNat 1))) 2380038 x39_24 (.lit (.int .i64 (.ofNat 1))) fun x40_25 =>
   faK 2380039 a0 1 fun x42_26 =>
   stK 2380040 T2 x42_26 x40_25 fun T5 =>
   faK 2380042 x3_9 2 fun x44_27 =>
   ldK 2380043 T5 ro x44_27 fun x45_28 =>
   faK 2380044 x3_9 1 fun x46_29 =>
   ldK 2380045 T5 ro x46_29 fun x47_30 =>
   callK (g65 ro a0 (.lit (.int .i64 (.ofNat 4))) x45_28 x47_30 (.lit (.slice none 0 0)) T5 n1) fun x48_31 T6 n6 =>
   .ok (.val x48_31) T6 n6
  )
  (
   faK 2380048 x3_9 0 fun x50_32 =>
   ldK 2380049 T2 ro x50_32 fun x51_33 =>
   eqK Tryz.prog 3 (.tmp 51) (.const (.int .i64 (.ofNat 3))) 2380050 x51_33 (.lit (.int .i64 (.ofNat 3))) fun x52_34 =>
   condK 2380052 x52_34
   (
    .bad 2380053
   )
   (
    callK (g131 ro a0 (.lit (.string ⟨⟨[78, 111, 110, 101]⟩⟩)) T2 n1) fun x83_35 T7 n7 =>
    condK 2380057 x83_35
    (
     .bad 2380058
    )
    (
     callK (g131 ro a0 (.lit (.string ⟨⟨[84, 114, 117, 101]⟩⟩)) T7 n7) fun x90_36 T8 n8 =>
     condK 2380062 x90_36
     (
      .bad 2380063
     )
     (
      callK (g131 ro a0 (.lit (.string ⟨⟨[70, 97, 108, 115, 101]⟩⟩)) T8 n8) fun x97_37 T9 n9 =>
      condK 2380067 x97_37
      (
       .bad 2380068
      )
      (
       bsK 2380070 T9 n9 1 9 1 [(0, (.lit (.string ⟨⟨[40]⟩⟩)))] fun x104_38 T10 n10 =>
       callK (g99 ro a0 x104_38 T10 n10) fun x105_39 T11 n11 =>
       condK 2380073 x105_39
       (
        callK (ih 242 ro [a0] T11 n11) fun x107_40 T12 n12 =>
        .ok (.val x107_40) T12 n12
       )
       (
        bsK 2380078 T11 n11 1 9 1 [(0, (.lit (.string ⟨⟨[91]⟩⟩)))] fun x110_41 T13 n13 =>
        callK (g99 ro a0 x110_41 T13 n13) fun x111_42 T14 n14 =>
        condK 2380081 x111_42
        (
         .bad 2380082
        )
        (
         bsK 2380084 T14 n14 1 9 1 [(0, (.lit (.string ⟨⟨[123]⟩⟩)))] fun x116_43 T15 n15 =>
         callK (g99 ro a0 x116_43 T15 n15) fun x117_44 T16 n16 =>
         condK 2380087 x117_44
         (
          .bad 2380088
         )
         (
          callK (g78 ro a0 T16 n16) fun x121_45 T17 n17 =>
          .ok (.val (.lit (.int .i64 (.ofNat 0)))) T17 n17
         )
        )
       )
      )
     )
    )
   )
  )
 )
theorem g238_ok (ih : FuncId → List HT → List AV → HT → Nat → R) (hI : ∀ f ro args T nx, GOk Tryz.prog envE f args ro T nx (ih f ro args T nx)) (ro : List HT) (a0 : AV) (T : HT) (nx : Nat) : GOk Tryz.prog envE 238 [a0] ro T nx (g238 ih ro a0 T nx) := by
 refine GOk.of_body Tryz.func238 rfl Tryz.ntmps238 (by kernel_rfl) rfl fun r T' n' h1 w0 base ρ0 its hS hP => ?_
 have X : CtxW envE ρ0 ro r T' n' := trivial
 unfold g238 at h1
 refine sr ?_
 refine as_ ?_
 refine dn ?_
 refine CV.seq ?_
 refine CV.regionM [(0, .anywhere), (1, .anywhere), (2, .anywhere), (3, .held), (4, .anywhere), (5, .anywhere), (6, .anywhere), (7, .held), (8, .held), (9, .held), (10, .alone), (11, .alone)] rfl (fun c a a' w hd hq => PanicOk.root (P := Tryz.prog) (fn := Tryz.f238) (w0 := w0) (base := base) (E := envE) (ro := ro) (r := r) (T' := T') (n' := n') (ρ0 := ρ0) c a a' w hd hq) (by kernel_rfl) ?_
 refine MV.step0 (i := 0) rfl (VAL.move rfl) rfl rfl rfl ?_
 refine MV.lift0 (i := 1) rfl (V.nc h1 rfl) rfl rfl rfl fun x6_1 h2 => ?_
 refine MV.lift0 (i := 2) rfl (V.fa h2 rfl Pdf.fo98_0) rfl rfl rfl fun x7_2 h3 => ?_
 refine MV.lift1 (i := 3) rfl (fun _ z => z) (V.ld hS h3 rfl Pdf.one96) rfl rfl rfl [] (by kernel_rfl) fun x8_3 h4 => ?_
 refine MV.step0 (i := 4) rfl (VAL.move rfl) rfl rfl rfl ?_
 refine MV.lift0 (i := 5) rfl (V.nc h4 rfl) rfl rfl rfl fun x10_4 h5 => ?_
 refine MV.lift0 (i := 6) rfl (V.fa h5 rfl Pdf.fo98_1) rfl rfl rfl fun x11_5 h6 => ?_
 refine MV.lift1 (i := 7) rfl (fun _ z => z) (V.ld hS h6 rfl Pdf.one3) rfl rfl rfl [3] (by kernel_rfl) fun x12_6 h7 => ?_
 refine MV.lift1 (i := 8) rfl (fun _ z => z) (V.ia h7 rfl rfl Pdf.el96) rfl rfl rfl [] (by kernel_rfl) fun x13_7 h8 => ?_
 refine MV.lift1 (i := 9) rfl (fun _ z => z) (V.ldA hS h8 rfl Pdf.agg139) rfl rfl rfl [] (by kernel_rfl) fun x14_8 h9 => ?_
 refine MV.force (i := 10) rfl ?_
 refine LV.alloc hS h9 rfl Pdf.zr139 rfl rfl rfl fun x3_9 T1 n1 h10 ρ its hS hdr => ?_
 refine LV.nextM [9] (by kernel_rfl) (fun _ => hdr) ?_
 refine MV.force (i := 11) rfl ?_
 refine LV.stA hS h10 rfl rfl rfl Pdf.agg139 rfl rfl rfl fun T2 its h11 hS => ?_
 refine LV.nextM [] (by kernel_rfl) (fun z => absurd rfl z) ?_
 refine mdn ?_
 refine CV.seq ?_
 refine CV.block ?_
 refine sr ?_
 refine vy (V.fa h11 rfl Pdf.fo139_0) fun x16_10 h12 => ?_
 refine vy (V.ld hS h12 rfl Pdf.one3) fun x17_11 h13 => ?_
 refine vy (V.eq h13 rfl rfl) fun x18_12 h14 => ?_
 refine as_ ?_
 refine dn ?_
 refine CV.cond h14 rfl (fun e h15 => ?_) (fun e h15 => ?_)
 ·
  clear h1 h2 h3 h4 h5 h6 h7 h8 h9 h10 h11 h12 h13 h14
  subst e
  refine sr ?_
  refine mv ?_
  refine fl hS h15 Pdf.fo98_1 Pdf.one3 fun x22_13 h16 => ?_
  refine vy (V.add h16 rfl rfl) fun x23_14 h17 => ?_
  refine fa2 h17 Pdf.fo98_1 fun x25_15 h18 => ?_
  refine LV.st hS h18 rfl rfl rfl Pdf.siz3 rfl rfl fun T3 its h19 hS => ?_
  refine dn ?_
  refine sr ?_
  refine mv ?_
  refine vy (V.fa h19 rfl Pdf.fo139_2) fun x27_16 h20 => ?_
  refine vy (V.ld hS h20 rfl Pdf.one3) fun x28_17 h21 => ?_
  refine vy (V.fa h21 rfl Pdf.fo139_1) fun x29_18 h22 => ?_
  refine vy (V.ld hS h22 rfl Pdf.one9) fun x30_19 h23 => ?_
  refine LV.call hS h23 (g65_ok _ _ _ _ _ _ _ _ ) hP rfl rfl rfl rfl fun x31_20 T4 n4 h24 ρ its hS => ?_
  refine as_ ?_
  refine dn ?_
  refine CV.ret ?_
  refine PV.blockR ?_
  refine PV.thenR ?_
  cases h24
  exact PV.ret (by simp) Tryz.results238 hS (RS.tmp rfl RS.nil) rfl
 ·
  clear h1 h2 h3 h4 h5 h6 h7 h8 h9 h10 h11 h12 h13 h14
  subst e
  refine sr ?_
  refine vy (V.fa h15 rfl Pdf.fo139_0) fun x33_21 h25 => ?_
  refine vy (V.ld hS h25 rfl Pdf.one3) fun x34_22 h26 => ?_
  refine vy (V.eq h26 rfl rfl) fun x35_23 h27 => ?_
  refine as_ ?_
  refine dn ?_
  refine CV.cond h27 rfl (fun e h28 => ?_) (fun e h28 => ?_)
  ·
   clear h15 h25 h26 h27
   subst e
   refine sr ?_
   refine mv ?_
   refine fl hS h28 Pdf.fo98_1 Pdf.one3 fun x39_24 h29 => ?_
   refine vy (V.add h29 rfl rfl) fun x40_25 h30 => ?_
   refine fa2 h30 Pdf.fo98_1 fun x42_26 h31 => ?_
   refine LV.st hS h31 rfl rfl rfl Pdf.siz3 rfl rfl fun T5 its h32 hS => ?_
   refine dn ?_
   refine sr ?_
   refine mv ?_
   refine vy (V.fa h32 rfl Pdf.fo139_2) fun x44_27 h33 => ?_
   refine vy (V.ld hS h33 rfl Pdf.one3) fun x45_28 h34 => ?_
   refine vy (V.fa h34 rfl Pdf.fo139_1) fun x46_29 h35 => ?_
   refine vy (V.ld hS h35 rfl Pdf.one9) fun x47_30 h36 => ?_
   refine LV.call hS h36 (g65_ok _ _ _ _ _ _ _ _ ) hP rfl rfl rfl rfl fun x48_31 T6 n6 h37 ρ its hS => ?_
   refine as_ ?_
   refine dn ?_
   refine CV.ret ?_
   refine PV.blockR ?_
   refine PV.thenR ?_
   cases h37
   exact PV.ret (by simp) Tryz.results238 hS (RS.tmp rfl RS.nil) rfl
  ·
   clear h15 h25 h26 h27
   subst e
   refine sr ?_
   refine vy (V.fa h28 rfl Pdf.fo139_0) fun x50_32 h38 => ?_
   refine vy (V.ld hS h38 rfl Pdf.one3) fun x51_33 h39 => ?_
   refine vy (V.eq h39 rfl rfl) fun x52_34 h40 => ?_
   refine as_ ?_
   refine dn ?_
   refine CV.cond h40 rfl (fun e h41 => ?_) (fun e h41 => ?_)
   ·
    clear h28 h38 h39 h40
    subst e
    cases h41
   ·
    clear h28 h38 h39 h40
    subst e
    refine sr ?_
    refine mv ?_
    refine LV.call hS h41 (g131_ok _ _ _ _ _ ) hP rfl rfl rfl rfl fun x83_35 T7 n7 h42 ρ its hS => ?_
    refine as_ ?_
    refine dn ?_
    refine CV.cond h42 rfl (fun e h43 => ?_) (fun e h43 => ?_)
    ·
     clear h41 h42
     subst e
     cases h43
    ·
     clear h41 h42
     subst e
     refine sr ?_
     refine mv ?_
     refine LV.call hS h43 (g131_ok _ _ _ _ _ ) hP rfl rfl rfl rfl fun x90_36 T8 n8 h44 ρ its hS => ?_
     refine as_ ?_
     refine dn ?_
     refine CV.cond h44 rfl (fun e h45 => ?_) (fun e h45 => ?_)
     ·
      clear h43 h44
      subst e
      cases h45
     ·
      clear h43 h44
      subst e
      refine sr ?_
      refine mv ?_
      refine LV.call hS h45 (g131_ok _ _ _ _ _ ) hP rfl rfl rfl rfl fun x97_37 T9 n9 h46 ρ its hS => ?_
      refine as_ ?_
      refine dn ?_
      refine CV.cond h46 rfl (fun e h47 => ?_) (fun e h47 => ?_)
      ·
       clear h45 h46
       subst e
       cases h47
      ·
       clear h45 h46
       subst e
       refine sr ?_
       refine mv ?_
       refine LV.bslice hS h47 rfl rfl Pdf.el46 rfl rfl rfl rfl fun x104_38 T10 n10 h48 ρ its hS hdr => ?_
       refine LV.call hS h48 (g99_ok _ _ _ _ _ ) hP rfl rfl rfl rfl fun x105_39 T11 n11 h49 ρ its hS => ?_
       refine as_ ?_
       refine dn ?_
       refine CV.cond h49 rfl (fun e h50 => ?_) (fun e h50 => ?_)
       ·
        clear h47 h48 h49
        subst e
        refine sr ?_
        refine mv ?_
        refine LV.call hS h50 (hI _ _ _ _ _) hP rfl rfl rfl rfl fun x107_40 T12 n12 h51 ρ its hS => ?_
        refine as_ ?_
        refine dn ?_
        refine CV.ret ?_
        refine PV.blockR ?_
        refine PV.thenR ?_
        cases h51
        exact PV.ret (by simp) Tryz.results238 hS (RS.tmp rfl RS.nil) rfl
       ·
        clear h47 h48 h49
        subst e
        refine sr ?_
        refine mv ?_
        refine LV.bslice hS h50 rfl rfl Pdf.el46 rfl rfl rfl rfl fun x110_41 T13 n13 h52 ρ its hS hdr => ?_
        refine LV.call hS h52 (g99_ok _ _ _ _ _ ) hP rfl rfl rfl rfl fun x111_42 T14 n14 h53 ρ its hS => ?_
        refine as_ ?_
        refine dn ?_
        refine CV.cond h53 rfl (fun e h54 => ?_) (fun e h54 => ?_)
        ·
         clear h50 h52 h53
         subst e
         cases h54
        ·
         clear h50 h52 h53
         subst e
         refine sr ?_
         refine mv ?_
         refine LV.bslice hS h54 rfl rfl Pdf.el46 rfl rfl rfl rfl fun x116_43 T15 n15 h55 ρ its hS hdr => ?_
         refine LV.call hS h55 (g99_ok _ _ _ _ _ ) hP rfl rfl rfl rfl fun x117_44 T16 n16 h56 ρ its hS => ?_
         refine as_ ?_
         refine dn ?_
         refine CV.cond h56 rfl (fun e h57 => ?_) (fun e h57 => ?_)
         ·
          clear h54 h55 h56
          subst e
          cases h57
         ·
          clear h54 h55 h56
          subst e
          refine CV.skip ?_
          refine PV.blockN ?_
          refine PV.thenN ?_
          refine sr ?_
          refine mv ?_
          refine LV.call hS h57 (g78_ok _ _ _ _ ) hP rfl rfl rfl rfl fun x121_45 T17 n17 h58 ρ its hS => ?_
          refine dn ?_
          refine sr ?_
          refine as_ ?_
          refine dn ?_
          refine CV.ret ?_
          cases h58
          exact PV.ret (by simp) Tryz.results238 hS (RS.tmp rfl RS.nil) rfl
noncomputable def g241 (ih : FuncId → List HT → List AV → HT → Nat → R) (ro : List HT) (a0 : AV) (T : HT) (nx : Nat) : R :=
 bsK 2410005 T nx 2 9 1 [(0, (.lit (.string ⟨⟨[43]⟩⟩))), (1, (.lit (.string ⟨⟨[45]⟩⟩)))] fun x6_1 T1 n1 =>
 callK (ih 217 ro [a0, (.fn (.func 245) [a0] []), x6_1] T1 n1) fun x7_2 T2 n2 =>
 .ok (.val x7_2) T2 n2
theorem g241_ok (ih : FuncId → List HT → List AV → HT → Nat → R) (hI : ∀ f ro args T nx, GOk Tryz.prog envE f args ro T nx (ih f ro args T nx)) (ro : List HT) (a0 : AV) (T : HT) (nx : Nat) : GOk Tryz.prog envE 241 [a0] ro T nx (g241 ih ro a0 T nx) := by
 refine GOk.of_body Tryz.func241 rfl Tryz.ntmps241 (by kernel_rfl) rfl fun r T' n' h1 w0 base ρ0 its hS hP => ?_
 have X : CtxW envE ρ0 ro r T' n' := trivial
 unfold g241 at h1
 refine sr ?_
 refine as_ ?_
 refine dn ?_
 refine sr ?_
 refine mv ?_
 refine mv ?_
 refine pu ?_
 refine LV.bslice hS h1 rfl rfl Pdf.el46 rfl rfl rfl rfl fun x6_1 T1 n1 h2 ρ its hS hdr => ?_
 refine LV.call hS h2 (hI _ _ _ _ _) hP rfl rfl rfl rfl fun x7_2 T2 n2 h3 ρ its hS => ?_
 refine as_ ?_
 refine dn ?_
 refine CV.ret ?_
 cases h3
 exact PV.ret (by simp) Tryz.results241 hS (RS.tmp rfl RS.nil) rfl
noncomputable def g242 (ih : FuncId → List HT → List AV → HT → Nat → R) (ro : List HT) (a0 : AV) (T : HT) (nx : Nat) : R :=
 callK (g177 ro a0 (.lit (.string ⟨⟨[40]⟩⟩)) T nx) fun x7_1 T1 n1 =>
 callK (g176 ro a0 x7_1 T1 n1) fun x10_2 T2 n2 =>
 callK (g131 ro a0 (.lit (.string ⟨⟨[41]⟩⟩)) T2 n2) fun x12_3 T3 n3 =>
 condK 2420010 x12_3
 (
  .bad 2420011
 )
 (
  callK (ih 77 ro [a0] T3 n3) fun x25_4 T4 n4 =>
  exK 2420015 x25_4 0 fun x26_5 =>
  exK 2420016 x25_4 1 fun x27_6 =>
  callK (g177 ro a0 (.lit (.string ⟨⟨[41]⟩⟩)) T4 n4) fun x29_7 T5 n5 =>
  fldK 2420022 T5 ro a0 3 fun x33_8 =>
  subK Tryz.prog 3 (.tmp 33) (.const (.int .i64 (.ofNat 1))) 2420023 x33_8 (.lit (.int .i64 (.ofNat 1))) fun x34_9 =>
  faK 2420024 a0 3 fun x36_10 =>
  stK 2420025 T5 x36_10 x34_9 fun T6 =>
  condK 2420027 x27_6
  (
   .bad 2420028
  )
  (
   .ok (.val x26_5) T6 n5
  )
 )
theorem g242_ok (ih : FuncId → List HT → List AV → HT → Nat → R) (hI : ∀ f ro args T nx, GOk Tryz.prog envE f args ro T nx (ih f ro args T nx)) (ro : List HT) (a0 : AV) (T : HT) (nx : Nat) : GOk Tryz.prog envE 242 [a0] ro T nx (g242 ih ro a0 T nx) := by
 refine GOk.of_body Tryz.func242 rfl Tryz.ntmps242 (by kernel_rfl) rfl fun r T' n' h1 w0 base ρ0 its hS hP => ?_
 have X : CtxW envE ρ0 ro r T' n' := trivial
 unfold g242 at h1
 refine sr ?_
 refine as_ ?_
 refine dn ?_
 refine sr ?_
 refine mv ?_
 refine LV.call hS h1 (g177_ok _ _ _ _ _ ) hP rfl rfl rfl rfl fun x7_1 T1 n1 h2 ρ its hS => ?_
 refine as_ ?_
 refine dn ?_
 refine sr ?_
 refine mv ?_
 refine mv ?_
 refine LV.call hS h2 (g176_ok _ _ _ _ _ ) hP rfl rfl rfl rfl fun x10_2 T2 n2 h3 ρ its hS => ?_
 refine dn ?_
 refine CV.seq ?_
 refine sr ?_
 refine mv ?_
 refine LV.call hS h3 (g131_ok _ _ _ _ _ ) hP rfl rfl rfl rfl fun x12_3 T3 n3 h4 ρ its hS => ?_
 refine dn ?_
 refine CV.cond h4 rfl (fun e h5 => ?_) (fun e h5 => ?_)
 ·
  clear h1 h2 h3 h4
  subst e
  cases h5
 ·
  clear h1 h2 h3 h4
  subst e
  refine CV.skip ?_
  refine PV.thenN ?_
  refine sr ?_
  refine mv ?_
  refine LV.call hS h5 (hI _ _ _ _ _) hP rfl rfl rfl rfl fun x25_4 T4 n4 h6 ρ its hS => ?_
  refine mv ?_
  refine vy (V.ex h6 rfl) fun x26_5 h7 => ?_
  refine vy (V.ex h7 rfl) fun x27_6 h8 => ?_
  refine as_ ?_
  refine as_ ?_
  refine dn ?_
  refine sr ?_
  refine mv ?_
  refine LV.call hS h8 (g177_ok _ _ _ _ _ ) hP rfl rfl rfl rfl fun x29_7 T5 n5 h9 ρ its hS => ?_
  refine dn ?_
  refine sr ?_
  refine mv ?_
  refine fl hS h9 Pdf.fo98_3 Pdf.one3 fun x33_8 h10 => ?_
  refine vy (V.sub h10 rfl rfl) fun x34_9 h11 => ?_
  refine fa2 h11 Pdf.fo98_3 fun x36_10 h12 => ?_
  refine LV.st hS h12 rfl rfl rfl Pdf.siz3 rfl rfl fun T6 its h13 hS => ?_
  refine dn ?_
  refine CV.seq ?_
  refine sr ?_
  refine mv ?_
  refine dn ?_
  refine CV.cond h13 rfl (fun e h14 => ?_) (fun e h14 => ?_)
  ·
   clear h5 h6 h7 h8 h9 h10 h11 h12 h13
   subst e
   cases h14
  ·
   clear h5 h6 h7 h8 h9 h10 h11 h12 h13
   subst e
   refine CV.skip ?_
   refine PV.thenN ?_
   refine sr ?_
   refine mv ?_
   refine as_ ?_
   refine dn ?_
   refine CV.ret ?_
   cases h14
   exact PV.ret (by simp) Tryz.results242 hS (RS.tmp rfl RS.nil) rfl
noncomputable def g245 (ih : FuncId → List HT → List AV → HT → Nat → R) (ro : List HT) (a0 : AV) (T : HT) (nx : Nat) : R :=
 bsK 2450005 T nx 3 9 1 [(0, (.lit (.string ⟨⟨[42]⟩⟩))), (1, (.lit (.string ⟨⟨[47, 47]⟩⟩))), (2, (.lit (.string ⟨⟨[37]⟩⟩)))] fun x6_1 T1 n1 =>
 callK (ih 217 ro [a0, (.fn (.func 247) [a0] []), x6_1] T1 n1) fun x7_2 T2 n2 =>
 .ok (.val x7_2) T2 n2
theorem g245_ok (ih : FuncId → List HT → List AV → HT → Nat → R) (hI : ∀ f ro args T nx, GOk Tryz.prog envE f args ro T nx (ih f ro args T nx)) (ro : List HT) (a0 : AV) (T : HT) (nx : Nat) : GOk Tryz.prog envE 245 [a0] ro T nx (g245 ih ro a0 T nx) := by
 refine GOk.of_body Tryz.func245 rfl Tryz.ntmps245 (by kernel_rfl) rfl fun r T' n' h1 w0 base ρ0 its hS hP => ?_
 have X : CtxW envE ρ0 ro r T' n' := trivial
 unfold g245 at h1
 refine sr ?_
 refine as_ ?_
 refine dn ?_
 refine sr ?_
 refine mv ?_
 refine mv ?_
 refine pu ?_
 refine LV.bslice hS h1 rfl rfl Pdf.el46 rfl rfl rfl rfl fun x6_1 T1 n1 h2 ρ its hS hdr => ?_
 refine LV.call hS h2 (hI _ _ _ _ _) hP rfl rfl rfl rfl fun x7_2 T2 n2 h3 ρ its hS => ?_
 refine as_ ?_
 refine dn ?_
 refine CV.ret ?_
 cases h3
 exact PV.ret (by simp) Tryz.results245 hS (RS.tmp rfl RS.nil) rfl
noncomputable def g247 (ih : FuncId → List HT → List AV → HT → Nat → R) (ro : List HT) (a0 : AV) (T : HT) (nx : Nat) : R :=
 bsK 2470003 T nx 1 9 1 [(0, (.lit (.string ⟨⟨[45]⟩⟩)))] fun x6_1 T1 n1 =>
 callK (g99 ro a0 x6_1 T1 n1) fun x7_2 T2 n2 =>
 notK 2470005 x7_2 fun x8_3 =>
 condK 2470006 x8_3
 (
  callK (ih 235 ro [a0] T2 n2) fun x10_4 T3 n3 =>
  .ok (.val x10_4) T3 n3
 )
 (
  callK (g177 ro a0 (.lit (.string ⟨⟨[45]⟩⟩)) T2 n2) fun x12_5 T4 n4 =>
  callK (g176 ro a0 x12_5 T4 n4) fun x15_6 T5 n5 =>
  callK (ih 247 ro [a0] T5 n5) fun x17_7 T6 n6 =>
  fldK 2470020 T6 ro a0 3 fun x21_8 =>
  subK Tryz.prog 3 (.tmp 21) (.const (.int .i64 (.ofNat 1))) 2470021 x21_8 (.lit (.int .i64 (.ofNat 1))) fun x22_9 =>
  faK 2470022 a0 3 fun x24_10 =>
  stK 2470023 T6 x24_10 x22_9 fun T7 =>
  bsK 2470027 T7 n6 1 3 1 [(0, x17_7)] fun x28_11 T8 n8 =>
  callK (g65 ro a0 (.lit (.int .i64 (.ofNat 16))) x12_5 (.lit (.string ⟨⟨[]⟩⟩)) x28_11 T8 n8) fun x29_12 T9 n9 =>
  .ok (.val x29_12) T9 n9
 )
theorem g247_ok (ih : FuncId → List HT → List AV → HT → Nat → R) (hI : ∀ f ro args T nx, GOk Tryz.prog envE f args ro T nx (ih f ro args T nx)) (ro : List HT) (a0 : AV) (T : HT) (nx : Nat) : GOk Tryz.prog envE 247 [a0] ro T nx (g247 ih ro a0 T nx) := by
 refine GOk.of_body Tryz.func247 rfl Tryz.ntmps247 (by kernel_rfl) rfl fun r T' n' h1 w0 base ρ0 its hS hP => ?_
 have X : CtxW envE ρ0 ro r T' n' := trivial
 unfold g247 at h1
 refine sr ?_
 refine as_ ?_
 refine dn ?_
 refine CV.seq ?_
 refine sr ?_
 refine mv ?_
 refine LV.bslice hS h1 rfl rfl Pdf.el46 rfl rfl rfl rfl fun x6_1 T1 n1 h2 ρ its hS hdr => ?_
 refine LV.call hS h2 (g99_ok _ _ _ _ _ ) hP rfl rfl rfl rfl fun x7_2 T2 n2 h3 ρ its hS => ?_
 refine vy (V.not h3 rfl) fun x8_3 h4 => ?_
 refine dn ?_
 refine CV.cond h4 rfl (fun e h5 => ?_) (fun e h5 => ?_)
 ·
  clear h1 h2 h3 h4
  subst e
  refine sr ?_
  refine mv ?_
  refine LV.call hS h5 (hI _ _ _ _ _) hP rfl rfl rfl rfl fun x10_4 T3 n3 h6 ρ its hS => ?_
  refine as_ ?_
  refine dn ?_
  refine CV.ret ?_
  refine PV.thenR ?_
  cases h6
  exact PV.ret (by simp) Tryz.results247 hS (RS.tmp rfl RS.nil) rfl
 ·
  clear h1 h2 h3 h4
  subst e
  refine CV.skip ?_
  refine PV.thenN ?_
  refine sr ?_
  refine mv ?_
  refine LV.call hS h5 (g177_ok _ _ _ _ _ ) hP rfl rfl rfl rfl fun x12_5 T4 n4 h7 ρ its hS => ?_
  refine as_ ?_
  refine dn ?_
  refine sr ?_
  refine mv ?_
  refine mv ?_
  refine LV.call hS h7 (g176_ok _ _ _ _ _ ) hP rfl rfl rfl rfl fun x15_6 T5 n5 h8 ρ its hS => ?_
  refine dn ?_
  refine sr ?_
  refine mv ?_
  refine LV.call hS h8 (hI _ _ _ _ _) hP rfl rfl rfl rfl fun x17_7 T6 n6 h9 ρ its hS => ?_
  refine as_ ?_
  refine dn ?_
  refine sr ?_
  refine mv ?_
  refine fl hS h9 Pdf.fo98_3 Pdf.one3 fun x21_8 h10 => ?_
  refine vy (V.sub h10 rfl rfl) fun x22_9 h11 => ?_
  refine fa2 h11 Pdf.fo98_3 fun x24_10 h12 => ?_
  refine LV.st hS h12 rfl rfl rfl Pdf.siz3 rfl rfl fun T7 its h13 hS => ?_
  refine dn ?_
  refine sr ?_
  refine mv ?_
  refine mv ?_
  refine mv ?_
  refine LV.bslice hS h13 rfl rfl Pdf.el30 rfl rfl rfl rfl fun x28_11 T8 n8 h14 ρ its hS hdr => ?_
  refine LV.call hS h14 (g65_ok _ _ _ _ _ _ _ _ ) hP rfl rfl rfl rfl fun x29_12 T9 n9 h15 ρ its hS => ?_
  refine as_ ?_
  refine dn ?_
  refine CV.ret ?_
  cases h15
  exact PV.ret (by simp) Tryz.results247 hS (RS.tmp rfl RS.nil) rfl
noncomputable def ap2 (ih : FuncId → List HT → List AV → HT → Nat → R) (f : FuncId) (ro : List HT) (args : List AV) (T : HT) (nx : Nat) : R :=
  Bool.rec (motive := fun _ => R) (Bool.rec (motive := fun _ => R) (Bool.rec (motive := fun _ => R) (Bool.rec (motive := fun _ => R) (Bool.rec (motive := fun _ => R) (Bool.rec (motive := fun _ => R) (.bad 2) (List.rec (motive := fun _ => R) (.bad 1) (fun a0 l0 _ => List.rec (motive := fun _ => R) (g247 ih ro a0 T nx) (fun _ _ _ => .bad 1) l0) args) (Nat.beq f 247)) (Bool.rec (motive := fun _ => R) (.bad 2) (List.rec (motive := fun _ => R) (.bad 1) (fun a0 l0 _ => List.rec (motive := fun _ => R) (g245 ih ro a0 T nx) (fun _ _ _ => .bad 1) l0) args) (Nat.beq f 245)) (Nat.ble f 245)) (Bool.rec (motive := fun _ => R) (.bad 2) (List.rec (motive := fun _ => R) (.bad 1) (fun a0 l0 _ => List.rec (motive := fun _ => R) (g242 ih ro a0 T nx) (fun _ _ _ => .bad 1) l0) args) (Nat.beq f 242)) (Nat.ble f 242)) (Bool.rec (motive := fun _ => R) (Bool.rec (motive := fun _ => R) (.bad 2) (List.rec (motive := fun _ => R) (.bad 1) (fun a0 l0 _ => List.rec (motive := fun _ => R) (g241 ih ro a0 T nx) (fun _ _ _ => .bad 1) l0) args) (Nat.beq f 241)) (Bool.rec (motive := fun _ => R) (.bad 2) (List.rec (motive := fun _ => R) (.bad 1) (fun a0 l0 _ => List.rec (motive := fun _ => R) (g238 ih ro a0 T nx) (fun _ _ _ => .bad 1) l0) args) (Nat.beq f 238)) (Nat.ble f 238)) (Nat.ble f 241)) (Bool.rec (motive := fun _ => R) (Bool.rec (motive := fun _ => R) (Bool.rec (motive := fun _ => R) (Bool.rec (motive := fun _ => R) (.bad 2) (List.rec (motive := fun _ => R) (.bad 1) (fun a0 l0 _ => List.rec (motive := fun _ => R) (g237 ih ro a0 T nx) (fun _ _ _ => .bad 1) l0) args) (Nat.beq f 237)) (Bool.rec (motive := fun _ => R) (.bad 2) (List.rec (motive := fun _ => R) (.bad 1) (fun a0 l0 _ => List.rec (motive := fun _ => R) (g235 ih ro a0 T nx) (fun _ _ _ => .bad 1) l0) args) (Nat.beq f 235)) (Nat.ble f 235)) (Bool.rec (motive := fun _ => R) (.bad 2) (List.rec (motive := fun _ => R) (.bad 1) (fun a0 l0 _ => List.rec (motive := fun _ => R) (g232 ih ro a0 T nx) (fun _ _ _ => .bad 1) l0) args) (Nat.beq f 232)) (Nat.ble f 232)) (Bool.rec (motive := fun _ => R) (Bool.rec (motive := fun _ => R) (.bad 2) (List.rec (motive := fun _ => R) (.bad 1) (fun a0 l0 _ => List.rec (motive := fun _ => R) (g218 ih ro a0 T nx) (fun _ _ _ => .bad 1) l0) args) (Nat.beq f 218)) (Bool.rec (motive := fun _ => R) (.bad 2) (List.rec (motive := fun _ => R) (.bad 1) (fun a0 l0 _ => List.rec (motive := fun _ => R) (.bad 1) (fun a1 l1 _ => List.rec (motive := fun _ => R) (.bad 1) (fun a2 l2 _ => List.rec (motive := fun _ => R) (g217 ih ro a0 a1 a2 T nx) (fun _ _ _ => .bad 1) l2) l1) l0) args) (Nat.beq f 217)) (Nat.ble f 217)) (Nat.ble f 218)) (Nat.ble f 237)) (Bool.rec (motive := fun _ => R) (Bool.rec (motive := fun _ => R) (Bool.rec (motive := fun _ => R) (Bool.rec (motive := fun _ => R) (Bool.rec (motive := fun _ => R) (.bad 2) (List.rec (motive := fun _ => R) (.bad 1) (fun a0 l0 _ => List.rec (motive := fun _ => R) (g189 ih ro a0 T nx) (fun _ _ _ => .bad 1) l0) args) (Nat.beq f 189)) (Bool.rec (motive := fun _ => R) (.bad 2) (List.rec (motive := fun _ => R) (.bad 1) (fun a0 l0 _ => List.rec (motive := fun _ => R) (g183 ro a0 T nx) (fun _ _ _ => .bad 1) l0) args) (Nat.beq f 183)) (Nat.ble f 183)) (Bool.rec (motive := fun _ => R) (.bad 2) (List.rec (motive := fun _ => R) (.bad 1) (fun a0 l0 _ => List.rec (motive := fun _ => R) (g130 ih ro a0 T nx) (fun _ _ _ => .bad 1) l0) args) (Nat.beq f 130)) (Nat.ble f 130)) (Bool.rec (motive := fun _ => R) (Bool.rec (motive := fun _ => R) (.bad 2) (List.rec (motive := fun _ => R) (.bad 1) (fun a0 l0 _ => List.rec (motive := fun _ => R) (g116 ro a0 T nx) (fun _ _ _ => .bad 1) l0) args) (Nat.beq f 116)) (Bool.rec (motive := fun _ => R) (.bad 2) (List.rec (motive := fun _ => R) (.bad 1) (fun a0 l0 _ => List.rec (motive := fun _ => R) (.bad 1) (fun a1 l1 _ => List.rec (motive := fun _ => R) (g103 ih ro a0 a1 T nx) (fun _ _ _ => .bad 1) l1) l0) args) (Nat.beq f 103)) (Nat.ble f 103)) (Nat.ble f 116)) (Bool.rec (motive := fun _ => R) (Bool.rec (motive := fun _ => R) (Bool.rec (motive := fun _ => R) (Bool.rec (motive := fun _ => R) (.bad 2) (List.rec (motive := fun _ => R) (.bad 1) (fun a0 l0 _ => List.rec (motive := fun _ => R) (g77 ih ro a0 T nx) (fun _ _ _ => .bad 1) l0) args) (Nat.beq f 77)) (Bool.rec (motive := fun _ => R) (.bad 2) (List.rec (motive := fun _ => R) (.bad 1) (fun a0 l0 _ => List.rec (motive := fun _ => R) (.bad 1) (fun a1 l1 _ => List.rec (motive := fun _ => R) (g64 ih ro a0 a1 T nx) (fun _ _ _ => .bad 1) l1) l0) args) (Nat.beq f 64)) (Nat.ble f 64)) (Bool.rec (motive := fun _ => R) (.bad 2) (List.rec (motive := fun _ => R) (.bad 1) (fun a0 l0 _ => List.rec (motive := fun _ => R) (g49 ih ro a0 T nx) (fun _ _ _ => .bad 1) l0) args) (Nat.beq f 49)) (Nat.ble f 49)) (Bool.rec (motive := fun _ => R) (Bool.rec (motive := fun _ => R) (.bad 2) (List.rec (motive := fun _ => R) (.bad 1) (fun a0 l0 _ => List.rec (motive := fun _ => R) (g35 ih ro a0 T nx) (fun _ _ _ => .bad 1) l0) args) (Nat.beq f 35)) (Bool.rec (motive := fun _ => R) (.bad 2) (List.rec (motive := fun _ => R) (.bad 1) (fun a0 l0 _ => List.rec (motive := fun _ => R) (g34 ih ro a0 T nx) (fun _ _ _ => .bad 1) l0) args) (Nat.beq f 34)) (Nat.ble f 34)) (Nat.ble f 35)) (Nat.ble f 77)) (Nat.ble f 189)
noncomputable def scc2 (fuel : Nat) : FuncId → List HT → List AV → HT → Nat → R :=
  Nat.rec (motive := fun _ => FuncId → List HT → List AV → HT → Nat → R) (fun _ _ _ _ _ => .bad 3) (fun _ ih => ap2 ih) fuel
theorem ap2_ok (ih : FuncId → List HT → List AV → HT → Nat → R) (hI : ∀ f ro args T nx, GOk Tryz.prog envE f args ro T nx (ih f ro args T nx)) (f : FuncId) (ro : List HT) (args : List AV) (T : HT) (nx : Nat) : GOk Tryz.prog envE f args ro T nx (ap2 ih f ro args T nx) := by
  unfold ap2
  refine recb_go (fun hb => ?_) (fun _ => ?_)
  · refine recb_go (fun hb => ?_) (fun _ => ?_)
    · refine recb_go (fun hb => ?_) (fun _ => ?_)
      · refine recb_go (fun hb => ?_) (fun _ => ?_)
        · refine recb_go (fun hb => ?_) (fun _ => ?_)
          · obtain rfl := beqT hb
            rcases args with _ | ⟨a0, l0⟩
            · exact GOk.bad
            rcases l0 with _ | ⟨_, _⟩
            · exact g34_ok _ hI _ _ _ _ 
            · exact GOk.bad
          · exact GOk.bad
        · refine recb_go (fun hb => ?_) (fun _ => ?_)
          · obtain rfl := beqT hb
            rcases args with _ | ⟨a0, l0⟩
            · exact GOk.bad
            rcases l0 with _ | ⟨_, _⟩
            · exact g35_ok _ hI _ _ _ _ 
            · exact GOk.bad
          · exact GOk.bad
      · refine recb_go (fun hb => ?_) (fun _ => ?_)
        · refine recb_go (fun hb => ?_) (fun _ => ?_)
          · obtain rfl := beqT hb
            rcases args with _ | ⟨a0, l0⟩
            · exact GOk.bad
            rcases l0 with _ | ⟨_, _⟩
            · exact g49_ok _ hI _ _ _ _ 
            · exact GOk.bad
          · exact GOk.bad
        · refine recb_go (fun hb => ?_) (fun _ => ?_)
          · refine recb_go (fun hb => ?_) (fun _ => ?_)
            · obtain rfl := beqT hb
              rcases args with _ | ⟨a0, l0⟩
              · exact GOk.bad
              rcases l0 with _ | ⟨a1, l1⟩
              · exact GOk.bad
              rcases l1 with _ | ⟨_, _⟩
              · exact g64_ok _ hI _ _ _ _ _ 
              · exact GOk.bad
            · exact GOk.bad
          · refine recb_go (fun hb => ?_) (fun _ => ?_)
            · obtain rfl := beqT hb
              rcases args with _ | ⟨a0, l0⟩
              · exact GOk.bad
              rcases l0 with _ | ⟨_, _⟩
              · exact g77_ok _ hI _ _ _ _ 
              · exact GOk.bad
            · exact GOk.bad
    · refine recb_go (fun hb => ?_) (fun _ => ?_)
      · refine recb_go (fun hb => ?_) (fun _ => ?_)
        · refine recb_go (fun hb => ?_) (fun _ => ?_)
          · obtain rfl := beqT hb
            rcases args with _ | ⟨a0, l0⟩
            · exact GOk.bad
            rcases l0 with _ | ⟨a1, l1⟩
            · exact GOk.bad
            rcases l1 with _ | ⟨_, _⟩
            · exact g103_ok _ hI _ _ _ _ _ 
            · exact GOk.bad
          · exact GOk.bad
        · refine recb_go (fun hb => ?_) (fun _ => ?_)
          · obtain rfl := beqT hb
            rcases args with _ | ⟨a0, l0⟩
            · exact GOk.bad
            rcases l0 with _ | ⟨_, _⟩
            · exact g116_ok _ _ _ _ 
            · exact GOk.bad
          · exact GOk.bad
      · refine recb_go (fun hb => ?_) (fun _ => ?_)
        · refine recb_go (fun hb => ?_) (fun _ => ?_)
          · obtain rfl := beqT hb
            rcases args with _ | ⟨a0, l0⟩
            · exact GOk.bad
            rcases l0 with _ | ⟨_, _⟩
            · exact g130_ok _ hI _ _ _ _ 
            · exact GOk.bad
          · exact GOk.bad
        · refine recb_go (fun hb => ?_) (fun _ => ?_)
          · refine recb_go (fun hb => ?_) (fun _ => ?_)
            · obtain rfl := beqT hb
              rcases args with _ | ⟨a0, l0⟩
              · exact GOk.bad
              rcases l0 with _ | ⟨_, _⟩
              · exact g183_ok _ _ _ _ 
              · exact GOk.bad
            · exact GOk.bad
          · refine recb_go (fun hb => ?_) (fun _ => ?_)
            · obtain rfl := beqT hb
              rcases args with _ | ⟨a0, l0⟩
              · exact GOk.bad
              rcases l0 with _ | ⟨_, _⟩
              · exact g189_ok _ hI _ _ _ _ 
              · exact GOk.bad
            · exact GOk.bad
  · refine recb_go (fun hb => ?_) (fun _ => ?_)
    · refine recb_go (fun hb => ?_) (fun _ => ?_)
      · refine recb_go (fun hb => ?_) (fun _ => ?_)
        · refine recb_go (fun hb => ?_) (fun _ => ?_)
          · obtain rfl := beqT hb
            rcases args with _ | ⟨a0, l0⟩
            · exact GOk.bad
            rcases l0 with _ | ⟨a1, l1⟩
            · exact GOk.bad
            rcases l1 with _ | ⟨a2, l2⟩
            · exact GOk.bad
            rcases l2 with _ | ⟨_, _⟩
            · exact g217_ok _ hI _ _ _ _ _ _ 
            · exact GOk.bad
          · exact GOk.bad
        · refine recb_go (fun hb => ?_) (fun _ => ?_)
          · obtain rfl := beqT hb
            rcases args with _ | ⟨a0, l0⟩
            · exact GOk.bad
            rcases l0 with _ | ⟨_, _⟩
            · exact g218_ok _ hI _ _ _ _ 
            · exact GOk.bad
          · exact GOk.bad
      · refine recb_go (fun hb => ?_) (fun _ => ?_)
        · refine recb_go (fun hb => ?_) (fun _ => ?_)
          · obtain rfl := beqT hb
            rcases args with _ | ⟨a0, l0⟩
            · exact GOk.bad
            rcases l0 with _ | ⟨_, _⟩
            · exact g232_ok _ hI _ _ _ _ 
            · exact GOk.bad
          · exact GOk.bad
        · refine recb_go (fun hb => ?_) (fun _ => ?_)
          · refine recb_go (fun hb => ?_) (fun _ => ?_)
            · obtain rfl := beqT hb
              rcases args with _ | ⟨a0, l0⟩
              · exact GOk.bad
              rcases l0 with _ | ⟨_, _⟩
              · exact g235_ok _ hI _ _ _ _ 
              · exact GOk.bad
            · exact GOk.bad
          · refine recb_go (fun hb => ?_) (fun _ => ?_)
            · obtain rfl := beqT hb
              rcases args with _ | ⟨a0, l0⟩
              · exact GOk.bad
              rcases l0 with _ | ⟨_, _⟩
              · exact g237_ok _ hI _ _ _ _ 
              · exact GOk.bad
            · exact GOk.bad
    · refine recb_go (fun hb => ?_) (fun _ => ?_)
      · refine recb_go (fun hb => ?_) (fun _ => ?_)
        · refine recb_go (fun hb => ?_) (fun _ => ?_)
          · obtain rfl := beqT hb
            rcases args with _ | ⟨a0, l0⟩
            · exact GOk.bad
            rcases l0 with _ | ⟨_, _⟩
            · exact g238_ok _ hI _ _ _ _ 
            · exact GOk.bad
          · exact GOk.bad
        · refine recb_go (fun hb => ?_) (fun _ => ?_)
          · obtain rfl := beqT hb
            rcases args with _ | ⟨a0, l0⟩
            · exact GOk.bad
            rcases l0 with _ | ⟨_, _⟩
            · exact g241_ok _ hI _ _ _ _ 
            · exact GOk.bad
          · exact GOk.bad
      · refine recb_go (fun hb => ?_) (fun _ => ?_)
        · refine recb_go (fun hb => ?_) (fun _ => ?_)
          · obtain rfl := beqT hb
            rcases args with _ | ⟨a0, l0⟩
            · exact GOk.bad
            rcases l0 with _ | ⟨_, _⟩
            · exact g242_ok _ hI _ _ _ _ 
            · exact GOk.bad
          · exact GOk.bad
        · refine recb_go (fun hb => ?_) (fun _ => ?_)
          · refine recb_go (fun hb => ?_) (fun _ => ?_)
            · obtain rfl := beqT hb
              rcases args with _ | ⟨a0, l0⟩
              · exact GOk.bad
              rcases l0 with _ | ⟨_, _⟩
              · exact g245_ok _ hI _ _ _ _ 
              · exact GOk.bad
            · exact GOk.bad
          · refine recb_go (fun hb => ?_) (fun _ => ?_)
            · obtain rfl := beqT hb
              rcases args with _ | ⟨a0, l0⟩
              · exact GOk.bad
              rcases l0 with _ | ⟨_, _⟩
              · exact g247_ok _ hI _ _ _ _ 
              · exact GOk.bad
            · exact GOk.bad
theorem scc2_ok : ∀ (fuel : Nat) (f : FuncId) (ro : List HT) (args : List AV) (T : HT) (nx : Nat), GOk Tryz.prog envE f args ro T nx (scc2 fuel f ro args T nx)
  | 0, _, _, _, _, _ => GOk.bad
  | fuel + 1, f, ro, args, T, nx => ap2_ok (scc2 fuel) (scc2_ok fuel) f ro args T nx
noncomputable def g104_k3 (ro : List HT) (y20 : AV) (T3 : HT) (n3 : Nat) : R :=
 .ok (.val y20) T3 n3
noncomputable def g104_k2 (ro : List HT) (y0 y16 : AV) (T2 : HT) (n2 : Nat) : R :=
 condK 1040008 y16
 (
  g104_k3 ro (.lit (.bool true)) T2 n2
 )
 (
  eqK Tryz.prog 5 (.tmp 18) (.const (.int .u8 (.ofNat 95))) 1040011 y0 (.lit (.int .u8 (.ofNat 95))) fun x19_2 =>
  g104_k3 ro x19_2 T2 n2
 )
noncomputable def g104_k4 (ro : List HT) (y0 y15 : AV) (T4 : HT) (n4 : Nat) : R :=
 g104_k2 ro y0 y15 T4 n4
noncomputable def g104_k1 (ro : List HT) (y0 y8 : AV) (T1 : HT) (n1 : Nat) : R :=
 condK 1040013 y8
 (
  g104_k2 ro y0 (.lit (.bool true)) T1 n1
 )
 (
  geK Tryz.prog 5 (.tmp 10) (.const (.int .u8 (.ofNat 65))) 1040016 y0 (.lit (.int .u8 (.ofNat 65))) fun x11_3 =>
  condK 1040019 x11_3
  (
   leK Tryz.prog 5 (.tmp 13) (.const (.int .u8 (.ofNat 90))) 1040021 y0 (.lit (.int .u8 (.ofNat 90))) fun x14_4 =>
   g104_k4 ro y0 x14_4 T1 n1
  )
  (
   g104_k4 ro y0 (.lit (.bool false)) T1 n1
  )
 )
noncomputable def g104 (ro : List HT) (a0 : AV) (T : HT) (nx : Nat) : R :=
 geK Tryz.prog 5 (.tmp 3) (.const (.int .u8 (.ofNat 97))) 1040003 a0 (.lit (.int .u8 (.ofNat 97))) fun x4_1 =>
 condK 1040024 x4_1
 (
  leK Tryz.prog 5 (.tmp 6) (.const (.int .u8 (.ofNat 122))) 1040026 a0 (.lit (.int .u8 (.ofNat 122))) fun x7_5 =>
  g104_k1 ro a0 x7_5 T nx
 )
 (
  g104_k1 ro a0 (.lit (.bool false)) T nx
 )
theorem g104_ok (ro : List HT) (a0 : AV) (T : HT) (nx : Nat) : GOk Tryz.prog envE 104 [a0] ro T nx (g104 ro a0 T nx) := by
 refine GOk.of_body Tryz.func104 rfl Tryz.ntmps104 (by kernel_rfl) rfl fun r T' n' h1 w0 base ρ0 its hS hP => ?_
 have X : CtxW envE ρ0 ro r T' n' := trivial
 unfold g104 at h1
 refine sr ?_
 refine as_ ?_
 refine dn ?_
 refine sr ?_
 refine mv ?_
 refine vy (V.ge h1 rfl rfl) fun x4_1 h2 => ?_
 refine mv ?_
 refine ls2 X 0 8 [(2, (.lit (.bool false)))] (g104_k1 ro) 3 ?_ ?_
 ·
  rcases condK_inv h2 with ⟨e, h13⟩ | ⟨e, h13⟩
  ·
   clear h1 h2
   subst e
   refine mv ?_
   refine vy (V.le h13 rfl rfl) fun x7_5 h14 => ?_
   refine pu ?_
   exact la2 hS h14 ⟨rfl, rfl, rfl, trivial⟩
  ·
   clear h1 h2
   subst e
   refine sk ?_
   refine sk ?_
   refine pu ?_
   exact la2 hS h13 ⟨rfl, rfl, rfl, trivial⟩
 ·
  intro y0 y8 T1 n1 ρ its hS h3
  unfold g104_k1 at h3
  clear h1 h2
  refine mv ?_
  refine ls2 X 0 16 [(2, (.lit (.bool false)))] (g104_k2 ro) 7 ?_ ?_
  ·
   rcases condK_inv h3 with ⟨e, h8⟩ | ⟨e, h8⟩
   ·
    clear h3
    subst e
    refine sk ?_
    refine sk ?_
    refine sk ?_
    refine sk ?_
    refine sk ?_
    refine sk ?_
    refine pu ?_
    exact la2 hS h8 ⟨rfl, rfl, rfl, trivial⟩
   ·
    clear h3
    subst e
    refine mv ?_
    refine vy (V.ge h8 rfl rfl) fun x11_3 h9 => ?_
    refine mv ?_
    refine ls2 X 0 15 [(2, (.lit (.bool false))), (9, (.lit (.bool false)))] (g104_k4 ro) 3 ?_ ?_
    ·
     rcases condK_inv h9 with ⟨e, h11⟩ | ⟨e, h11⟩
     ·
      clear h8 h9
      subst e
      refine mv ?_
      refine vy (V.le h11 rfl rfl) fun x14_4 h12 => ?_
      refine pu ?_
      exact la2 hS h12 ⟨rfl, rfl, rfl, rfl, trivial⟩
     ·
      clear h8 h9
      subst e
      refine sk ?_
      refine sk ?_
      refine pu ?_
      exact la2 hS h11 ⟨rfl, rfl, rfl, rfl, trivial⟩
    ·
     intro y0 y15 T4 n4 ρ its hS h10
     unfold g104_k4 at h10
     clear h8 h9
     refine pu ?_
     exact la2 hS h10 ⟨rfl, rfl, rfl, trivial⟩
  ·
   intro y0 y16 T2 n2 ρ its hS h4
   unfold g104_k2 at h4
   clear h3
   refine mv ?_
   refine ls1 X 20 [(2, (.lit (.bool false)))] (g104_k3 ro) 3 ?_ ?_
   ·
    rcases condK_inv h4 with ⟨e, h6⟩ | ⟨e, h6⟩
    ·
     clear h4
     subst e
     refine sk ?_
     refine sk ?_
     refine pu ?_
     exact la1 hS h6 ⟨rfl, rfl, trivial⟩
    ·
     clear h4
     subst e
     refine mv ?_
     refine vy (V.eq h6 rfl rfl) fun x19_2 h7 => ?_
     refine pu ?_
     exact la1 hS h7 ⟨rfl, rfl, trivial⟩
   ·
    intro y20 T3 n3 ρ its hS h5
    unfold g104_k3 at h5
    clear h4
    refine as_ ?_
    refine dn ?_
    refine CV.ret ?_
    cases h5
    exact PV.ret (by simp) Tryz.results104 hS (RS.tmp rfl RS.nil) rfl
noncomputable def g105_k1 (ro : List HT) (y8 : AV) (T1 : HT) (n1 : Nat) : R :=
 .ok (.val y8) T1 n1
noncomputable def g105 (ro : List HT) (a0 : AV) (T : HT) (nx : Nat) : R :=
 geK Tryz.prog 5 (.tmp 3) (.const (.int .u8 (.ofNat 48))) 1050003 a0 (.lit (.int .u8 (.ofNat 48))) fun x4_1 =>
 condK 1050006 x4_1
 (
  leK Tryz.prog 5 (.tmp 6) (.const (.int .u8 (.ofNat 57))) 1050008 a0 (.lit (.int .u8 (.ofNat 57))) fun x7_2 =>
  g105_k1 ro x7_2 T nx
 )
 (
  g105_k1 ro (.lit (.bool false)) T nx
 )
theorem g105_ok (ro : List HT) (a0 : AV) (T : HT) (nx : Nat) : GOk Tryz.prog envE 105 [a0] ro T nx (g105 ro a0 T nx) := by
 refine GOk.of_body Tryz.func105 rfl Tryz.ntmps105 (by kernel_rfl) rfl fun r T' n' h1 w0 base ρ0 its hS hP => ?_
 have X : CtxW envE ρ0 ro r T' n' := trivial
 unfold g105 at h1
 refine sr ?_
 refine as_ ?_
 refine dn ?_
 refine sr ?_
 refine mv ?_
 refine vy (V.ge h1 rfl rfl) fun x4_1 h2 => ?_
 refine mv ?_
 refine ls1 X 8 [(2, (.lit (.bool false)))] (g105_k1 ro) 3 ?_ ?_
 ·
  rcases condK_inv h2 with ⟨e, h4⟩ | ⟨e, h4⟩
  ·
   clear h1 h2
   subst e
   refine mv ?_
   refine vy (V.le h4 rfl rfl) fun x7_2 h5 => ?_
   refine pu ?_
   exact la1 hS h5 ⟨rfl, rfl, trivial⟩
  ·
   clear h1 h2
   subst e
   refine sk ?_
   refine sk ?_
   refine pu ?_
   exact la1 hS h4 ⟨rfl, rfl, trivial⟩
 ·
  intro y8 T1 n1 ρ its hS h3
  unfold g105_k1 at h3
  clear h1 h2
  refine as_ ?_
  refine dn ?_
  refine CV.ret ?_
  cases h3
  exact PV.ret (by simp) Tryz.results105 hS (RS.tmp rfl RS.nil) rfl
noncomputable def g98 (ro : List HT) (a0 a1 a2 a3 : AV) (T : HT) (nx : Nat) : R :=
 fldK 980003 T ro a0 2 fun x12_1 =>
 optK 980007 (bld139 [(0, a1), (1, a2), (2, a3)]) fun x16_2 =>
 bsK 980008 T nx 1 139 3 [(0, x16_2)] fun x17_3 T1 n1 =>
 appK 980009 T1 ro n1 139 3 32 x12_1 x17_3 fun x18_4 T2 n2 =>
 faK 980010 a0 2 fun x20_5 =>
 stK 980011 T2 x20_5 x18_4 fun T3 =>
 .ok (.val (.tup [])) T3 n2
theorem g98_ok (ro : List HT) (a0 a1 a2 a3 : AV) (T : HT) (nx : Nat) : GOk Tryz.prog envE 98 [a0, a1, a2, a3] ro T nx (g98 ro a0 a1 a2 a3 T nx) := by
 refine GOk.of_body Tryz.func98 rfl Tryz.ntmps98 (by kernel_rfl) rfl fun r T' n' h1 w0 base ρ0 its hS hP => ?_
 have X : CtxW envE ρ0 ro r T' n' := trivial
 unfold g98 at h1
 refine CV.region ?_
 refine mv ?_
 refine mv ?_
 refine fl hS h1 Pdf.fo168_2 Pdf.one96 fun x12_1 h2 => ?_
 refine mv ?_
 refine mv ?_
 refine mv ?_
 refine vy (V.bld h2 rfl) fun x16_2 h3 => ?_
 refine LV.bslice hS h3 rfl rfl Pdf.el96 rfl rfl rfl rfl fun x17_3 T1 n1 h4 ρ its hS hdr => ?_
 refine LV.app hS h4 rfl rfl rfl rfl Pdf.el96 rfl rfl rfl fun x18_4 T2 n2 h5 ρ its hS => ?_
 refine fa2 h5 Pdf.fo168_2 fun x20_5 h6 => ?_
 refine LV.st hS h6 rfl rfl rfl Pdf.siz96 rfl rfl fun T3 its h7 hS => ?_
 refine LV.done ?_
 cases h7
 exact PV.ret (by simp) Tryz.results98 hS RS.nil rfl
noncomputable def g207_k1 (ro : List HT) (y17 : AV) (T1 : HT) (n1 : Nat) : R :=
 .ok (.val y17) T1 n1
noncomputable def g207 (ro : List HT) (a0 a1 : AV) (T : HT) (nx : Nat) : R :=
 lenTK 2070003 a0 fun x6_1 =>
 lenTK 2070005 a1 fun x8_2 =>
 geK Tryz.prog 3 (.tmp 6) (.tmp 8) 2070006 x6_1 x8_2 fun x9_3 =>
 condK 2070009 x9_3
 (
  lenTK 2070012 a1 fun x13_4 =>
  sliceF 2070013 a0 none (some x13_4) fun x14_5 =>
  eqSK Tryz.prog 9 (.tmp 14) (.tmp 15) 2070015 x14_5 a1 fun x16_6 =>
  g207_k1 ro x16_6 T nx
 )
 (
  g207_k1 ro (.lit (.bool false)) T nx
 )
theorem g207_ok (ro : List HT) (a0 a1 : AV) (T : HT) (nx : Nat) : GOk Tryz.prog envE 207 [a0, a1] ro T nx (g207 ro a0 a1 T nx) := by
 refine GOk.of_body Tryz.func207 rfl Tryz.ntmps207 (by kernel_rfl) rfl fun r T' n' h1 w0 base ρ0 its hS hP => ?_
 have X : CtxW envE ρ0 ro r T' n' := trivial
 unfold g207 at h1
 refine sr ?_
 refine as_ ?_
 refine dn ?_
 refine sr ?_
 refine mv ?_
 refine vy (V.lenT h1 rfl Pdf.ls9) fun x6_1 h2 => ?_
 refine mv ?_
 refine vy (V.lenT h2 rfl Pdf.ls9) fun x8_2 h3 => ?_
 refine vy (V.ge h3 rfl rfl) fun x9_3 h4 => ?_
 refine mv ?_
 refine ls1 X 17 [(4, (.lit (.bool false)))] (g207_k1 ro) 7 ?_ ?_
 ·
  rcases condK_inv h4 with ⟨e, h6⟩ | ⟨e, h6⟩
  ·
   clear h1 h2 h3 h4
   subst e
   refine mv ?_
   refine mv ?_
   refine vy (V.lenT h6 rfl Pdf.ls9) fun x13_4 h7 => ?_
   refine vy (V.slHi (sliceF_ok h7) rfl rfl Pdf.st9) fun x14_5 h8 => ?_
   refine mv ?_
   refine vy (V.eqS h8 rfl rfl) fun x16_6 h9 => ?_
   refine pu ?_
   exact la1 hS h9 ⟨rfl, rfl, trivial⟩
  ·
   clear h1 h2 h3 h4
   subst e
   refine sk ?_
   refine sk ?_
   refine sk ?_
   refine sk ?_
   refine sk ?_
   refine sk ?_
   refine pu ?_
   exact la1 hS h6 ⟨rfl, rfl, trivial⟩
 ·
  intro y17 T1 n1 ρ its hS h5
  unfold g207_k1 at h5
  clear h1 h2 h3 h4
  refine as_ ?_
  refine dn ?_
  refine CV.ret ?_
  cases h5
  exact PV.ret (by simp) Tryz.results207 hS (RS.tmp rfl RS.nil) rfl
noncomputable def g164 (ro : List HT) (a0 a1 : AV) (T : HT) (nx : Nat) : R :=
 callK (g207 ro a0 a1 T nx) fun x7_1 T1 n1 =>
 .ok (.val x7_1) T1 n1
theorem g164_ok (ro : List HT) (a0 a1 : AV) (T : HT) (nx : Nat) : GOk Tryz.prog envE 164 [a0, a1] ro T nx (g164 ro a0 a1 T nx) := by
 refine GOk.of_body Tryz.func164 rfl Tryz.ntmps164 (by kernel_rfl) rfl fun r T' n' h1 w0 base ρ0 its hS hP => ?_
 have X : CtxW envE ρ0 ro r T' n' := trivial
 unfold g164 at h1
 refine sr ?_
 refine as_ ?_
 refine dn ?_
 refine sr ?_
 refine mv ?_
 refine mv ?_
 refine LV.call hS h1 (g207_ok _ _ _ _ _ ) hP rfl rfl rfl rfl fun x7_1 T1 n1 h2 ρ its hS => ?_
 refine as_ ?_
 refine dn ?_
 refine CV.ret ?_
 cases h2
 exact PV.ret (by simp) Tryz.results164 hS (RS.tmp rfl RS.nil) rfl
noncomputable def g228 (ro : List HT) (T : HT) (nx : Nat) : R :=
 bsK 2280002 T nx 22 9 1 [(0, (.lit (.string ⟨⟨[61, 61]⟩⟩))), (1, (.lit (.string ⟨⟨[33, 61]⟩⟩))), (2, (.lit (.string ⟨⟨[60, 61]⟩⟩))), (3, (.lit (.string ⟨⟨[62, 61]⟩⟩))), (4, (.lit (.string ⟨⟨[43, 61]⟩⟩))), (5, (.lit (.string ⟨⟨[47, 47]⟩⟩))), (6, (.lit (.string ⟨⟨[60]⟩⟩))), (7, (.lit (.string ⟨⟨[62]⟩⟩))), (8, (.lit (.string ⟨⟨[61]⟩⟩))), (9, (.lit (.string ⟨⟨[43]⟩⟩))), (10, (.lit (.string ⟨⟨[45]⟩⟩))), (11, (.lit (.string ⟨⟨[42]⟩⟩))), (12, (.lit (.string ⟨⟨[37]⟩⟩))), (13, (.lit (.string ⟨⟨[40]⟩⟩))), (14, (.lit (.string ⟨⟨[41]⟩⟩))), (15, (.lit (.string ⟨⟨[91]⟩⟩))), (16, (.lit (.string ⟨⟨[93]⟩⟩))), (17, (.lit (.string ⟨⟨[123]⟩⟩))), (18, (.lit (.string ⟨⟨[125]⟩⟩))), (19, (.lit (.string ⟨⟨[44]⟩⟩))), (20, (.lit (.string ⟨⟨[58]⟩⟩))), (21, (.lit (.string ⟨⟨[46]⟩⟩)))] fun x1_1 T1 n1 =>
 .ok (.val x1_1) T1 n1
theorem g228_ok (ro : List HT) (T : HT) (nx : Nat) : GOk Tryz.prog envE 228 [] ro T nx (g228 ro T nx) := by
 refine GOk.of_body Tryz.func228 rfl Tryz.ntmps228 (by kernel_rfl) rfl fun r T' n' h1 w0 base ρ0 its hS hP => ?_
 have X : CtxW envE ρ0 ro r T' n' := trivial
 unfold g228 at h1
 refine sr ?_
 refine as_ ?_
 refine dn ?_
 refine sr ?_
 refine LV.bslice hS h1 rfl rfl Pdf.el46 rfl rfl rfl rfl fun x1_1 T1 n1 h2 ρ its hS hdr => ?_
 refine as_ ?_
 refine dn ?_
 refine CV.ret ?_
 cases h2
 exact PV.ret (by simp) Tryz.results228 hS (RS.tmp rfl RS.nil) rfl
noncomputable def g213_b1 (ro : List HT) (lp1 : AV → AV → AV → AV → AV → HT → Nat → R) (y0 y2 y5 y6 y7 : AV) (T2 : HT) (n2 : Nat) : R :=
 ltK Tryz.prog 3 (.tmp 7) (.tmp 6) 2130006 y7 y6 fun x8_3 =>
 condK 2130007 x8_3
 (
  iaK 2130008 y5 y7 1 fun x9_4 =>
  ldK 2130009 T2 ro x9_4 fun x10_5 =>
  ncK 2130012 y0 fun x12_6 =>
  faK 2130013 x12_6 0 fun x13_7 =>
  ldK 2130014 T2 ro x13_7 fun x14_8 =>
  ncK 2130016 y0 fun x16_9 =>
  faK 2130017 x16_9 1 fun x17_10 =>
  ldK 2130018 T2 ro x17_10 fun x18_11 =>
  sliceF 2130019 x14_8 (some x18_11) none fun x19_12 =>
  callK (g164 ro x19_12 x10_5 T2 n2) fun x21_13 T3 n3 =>
  condK 2130022 x21_13
  (
   .ok (.val x10_5) T3 n3
  )
  (
   addK Tryz.prog 3 (.tmp 7) (.const (.int .i64 (.ofNat 1))) 2130025 y7 (.lit (.int .i64 (.ofNat 1))) fun x23_14 =>
   lp1 y0 y2 y5 y6 x23_14 T3 n3
  )
 )
 (
  .ok (.val (.lit (.string ⟨⟨[]⟩⟩))) T2 n2
 )
noncomputable def g213 (ro : List HT) (a0 : AV) (T : HT) (nx : Nat) : R :=
 callK (g228 ro T nx) fun x5_1 T1 n1 =>
 lenSK 2130003 x5_1 fun x6_2 =>
 lpf5 2130005 (g213_b1 ro) 100000 a0 (.lit (.string ⟨⟨[]⟩⟩)) x5_1 x6_2 (.lit (.int .i64 (.ofNat 0))) T1 n1
theorem g213_ok (ro : List HT) (a0 : AV) (T : HT) (nx : Nat) : GOk Tryz.prog envE 213 [a0] ro T nx (g213 ro a0 T nx) := by
 refine GOk.of_body Tryz.func213 rfl Tryz.ntmps213 (by kernel_rfl) rfl fun r T' n' h1 w0 base ρ0 its hS hP => ?_
 have X : CtxW envE ρ0 ro r T' n' := trivial
 unfold g213 at h1
 refine sr ?_
 refine as_ ?_
 refine dn ?_
 refine CV.seq ?_
 refine sr ?_
 refine LV.call hS h1 (g228_ok _ _ _ ) hP rfl rfl rfl rfl fun x5_1 T1 n1 h2 ρ its hS => ?_
 refine vy (V.lenS h2 rfl Pdf.ls46) fun x6_2 h3 => ?_
 refine mv ?_
 refine dn ?_
 refine CV.block ?_
 refine cl5 X 0 2 5 6 7 [] hS h3 ⟨rfl, rfl, rfl, rfl, rfl, trivial⟩ ?_
 intro f1 y0 y2 y5 y6 y7 T2 n2 ρ its hS h4
 unfold g213_b1 at h4
 clear h1 h2 h3
 refine sr ?_
 refine vy (V.lt h4 rfl rfl) fun x8_3 h5 => ?_
 refine dn ?_
 refine CV.seq ?_
 refine CV.cond h5 rfl (fun e h6 => ?_) (fun e h6 => ?_)
 ·
  clear h4 h5
  subst e
  refine CV.skip ?_
  refine PV.thenN ?_
  refine CV.seq ?_
  refine CV.block ?_
  refine sr ?_
  refine vy (V.ia h6 rfl rfl Pdf.el46) fun x9_4 h7 => ?_
  refine vy (V.ld hS h7 rfl Pdf.one9) fun x10_5 h8 => ?_
  refine as_ ?_
  refine dn ?_
  refine CV.seq ?_
  refine CV.regionM [(0, .anywhere), (1, .anywhere), (2, .anywhere), (3, .held), (4, .anywhere), (5, .anywhere), (6, .anywhere), (7, .held), (8, .held), (9, .anywhere), (10, .alone)] rfl (fun c a a' w hd hq => PanicOk.root (P := Tryz.prog) (fn := Tryz.f213) (w0 := w0) (base := base) (E := envE) (ro := ro) (r := r) (T' := T') (n' := n') (ρ0 := ρ0) c a a' w hd hq) (by kernel_rfl) ?_
  refine MV.step0 (i := 0) rfl (VAL.move rfl) rfl rfl rfl ?_
  refine MV.lift0 (i := 1) rfl (V.nc h8 rfl) rfl rfl rfl fun x12_6 h9 => ?_
  refine MV.lift0 (i := 2) rfl (V.fa h9 rfl Pdf.fo168_0) rfl rfl rfl fun x13_7 h10 => ?_
  refine MV.lift1 (i := 3) rfl (fun _ z => z) (V.ld hS h10 rfl Pdf.one9) rfl rfl rfl [] (by kernel_rfl) fun x14_8 h11 => ?_
  refine MV.step0 (i := 4) rfl (VAL.move rfl) rfl rfl rfl ?_
  refine MV.lift0 (i := 5) rfl (V.nc h11 rfl) rfl rfl rfl fun x16_9 h12 => ?_
  refine MV.lift0 (i := 6) rfl (V.fa h12 rfl Pdf.fo168_1) rfl rfl rfl fun x17_10 h13 => ?_
  refine MV.lift1 (i := 7) rfl (fun _ z => z) (V.ld hS h13 rfl Pdf.one3) rfl rfl rfl [3] (by kernel_rfl) fun x18_11 h14 => ?_
  refine MV.lift1 (i := 8) rfl (fun _ z => z) (V.slLo (sliceF_ok h14) rfl rfl Pdf.st9) rfl rfl rfl [] (by kernel_rfl) fun x19_12 h15 => ?_
  refine MV.step0 (i := 9) rfl (VAL.move rfl) rfl rfl rfl ?_
  refine MV.force (i := 10) rfl ?_
  refine LV.call hS h15 (g164_ok _ _ _ _ _ ) hP rfl rfl rfl rfl fun x21_13 T3 n3 h16 ρ its hS => ?_
  refine LV.nextM [] (by kernel_rfl) (fun z => absurd rfl z) ?_
  refine mdn ?_
  refine CV.cond h16 rfl (fun e h17 => ?_) (fun e h17 => ?_)
  ·
   clear h6 h7 h8 h9 h10 h11 h12 h13 h14 h15 h16
   subst e
   refine sr ?_
   refine mv ?_
   refine as_ ?_
   refine dn ?_
   refine CV.ret ?_
   refine PV.blockR ?_
   refine PV.thenR ?_
   refine PV.thenR ?_
   refine PV.blockR ?_
   refine PV.thenR ?_
   cases h17
   exact PV.ret (by simp) Tryz.results213 hS (RS.tmp rfl RS.nil) rfl
  ·
   clear h6 h7 h8 h9 h10 h11 h12 h13 h14 h15 h16
   subst e
   refine CV.skip ?_
   refine PV.blockN ?_
   refine PV.thenN ?_
   refine CV.region ?_
   refine vy (V.add h17 rfl rfl) fun x23_14 h18 => ?_
   refine mv ?_
   refine LV.done ?_
   exact pb5 hS h18 ⟨rfl, rfl, rfl, rfl, rfl, trivial⟩
 ·
  clear h4 h5
  subst e
  refine CV.exit ?_
  refine PV.thenE ?_
  refine PV.thenE ?_
  refine PV.blockE ?_
  refine PV.thenN ?_
  refine sr ?_
  refine as_ ?_
  refine dn ?_
  refine CV.ret ?_
  cases h6
  exact PV.ret (by simp) Tryz.results213 hS (RS.tmp rfl RS.nil) rfl
noncomputable def g209_k3 (ro : List HT) (y0 y26 : AV) (T4 : HT) (n4 : Nat) : R :=
 condK 2090017 y26
 (
  .ok (.val (.lit (.bool true))) T4 n4
 )
 (
  callK (g213 ro y0 T4 n4) fun x28_9 T5 n5 =>
  neSK Tryz.prog 9 (.tmp 28) (.const (.string ⟨⟨[]⟩⟩)) 2090021 x28_9 (.lit (.string ⟨⟨[]⟩⟩)) fun x29_10 =>
  .ok (.val x29_10) T5 n5
 )
noncomputable def g209_k2 (ro : List HT) (y0 y3 y22 : AV) (T3 : HT) (n3 : Nat) : R :=
 condK 2090023 y22
 (
  g209_k3 ro y0 (.lit (.bool true)) T3 n3
 )
 (
  eqK Tryz.prog 5 (.tmp 24) (.const (.int .u8 (.ofNat 39))) 2090026 y3 (.lit (.int .u8 (.ofNat 39))) fun x25_11 =>
  g209_k3 ro y0 x25_11 T3 n3
 )
noncomputable def g209_k1 (ro : List HT) (y0 y3 y18 : AV) (T2 : HT) (n2 : Nat) : R :=
 condK 2090028 y18
 (
  g209_k2 ro y0 y3 (.lit (.bool true)) T2 n2
 )
 (
  eqK Tryz.prog 5 (.tmp 20) (.const (.int .u8 (.ofNat 34))) 2090031 y3 (.lit (.int .u8 (.ofNat 34))) fun x21_12 =>
  g209_k2 ro y0 y3 x21_12 T2 n2
 )
noncomputable def g209 (ro : List HT) (a0 : AV) (T : HT) (nx : Nat) : R :=
 ncK 2090003 a0 fun x5_1 =>
 faK 2090004 x5_1 0 fun x6_2 =>
 ldK 2090005 T ro x6_2 fun x7_3 =>
 ncK 2090007 a0 fun x9_4 =>
 faK 2090008 x9_4 1 fun x10_5 =>
 ldK 2090009 T ro x10_5 fun x11_6 =>
 ixK 2090010 x7_3 x11_6 fun x12_7 =>
 callK (g104 ro x12_7 T nx) fun x14_8 T1 n1 =>
 condK 2090033 x14_8
 (
  g209_k1 ro a0 x12_7 (.lit (.bool true)) T1 n1
 )
 (
  callK (g105 ro x12_7 T1 n1) fun x17_13 T6 n6 =>
  g209_k1 ro a0 x12_7 x17_13 T6 n6
 )
theorem g209_ok (ro : List HT) (a0 : AV) (T : HT) (nx : Nat) : GOk Tryz.prog envE 209 [a0] ro T nx (g209 ro a0 T nx) := by
 refine GOk.of_body Tryz.func209 rfl Tryz.ntmps209 (by kernel_rfl) rfl fun r T' n' h1 w0 base ρ0 its hS hP => ?_
 have X : CtxW envE ρ0 ro r T' n' := trivial
 unfold g209 at h1
 refine sr ?_
 refine as_ ?_
 refine dn ?_
 refine CV.seq ?_
 refine CV.regionM [(0, .anywhere), (1, .anywhere), (2, .anywhere), (3, .held), (4, .anywhere), (5, .anywhere), (6, .anywhere), (7, .held), (8, .held), (9, .held)] rfl (fun c a a' w hd hq => PanicOk.root (P := Tryz.prog) (fn := Tryz.f209) (w0 := w0) (base := base) (E := envE) (ro := ro) (r := r) (T' := T') (n' := n') (ρ0 := ρ0) c a a' w hd hq) (by kernel_rfl) ?_
 refine MV.step0 (i := 0) rfl (VAL.move rfl) rfl rfl rfl ?_
 refine MV.lift0 (i := 1) rfl (V.nc h1 rfl) rfl rfl rfl fun x5_1 h2 => ?_
 refine MV.lift0 (i := 2) rfl (V.fa h2 rfl Pdf.fo168_0) rfl rfl rfl fun x6_2 h3 => ?_
 refine MV.lift1 (i := 3) rfl (fun _ z => z) (V.ld hS h3 rfl Pdf.one9) rfl rfl rfl [] (by kernel_rfl) fun x7_3 h4 => ?_
 refine MV.step0 (i := 4) rfl (VAL.move rfl) rfl rfl rfl ?_
 refine MV.lift0 (i := 5) rfl (V.nc h4 rfl) rfl rfl rfl fun x9_4 h5 => ?_
 refine MV.lift0 (i := 6) rfl (V.fa h5 rfl Pdf.fo168_1) rfl rfl rfl fun x10_5 h6 => ?_
 refine MV.lift1 (i := 7) rfl (fun _ z => z) (V.ld hS h6 rfl Pdf.one3) rfl rfl rfl [3] (by kernel_rfl) fun x11_6 h7 => ?_
 refine MV.lift1 (i := 8) rfl (fun _ z => z) (V.ix h7 rfl rfl Pdf.st9) rfl rfl rfl [] (by kernel_rfl) fun x12_7 h8 => ?_
 refine MV.step1 (i := 9) rfl (fun _ z => z) (VAL.assign rfl) rfl rfl rfl [] (by kernel_rfl) ?_
 refine mdn ?_
 refine CV.seq ?_
 refine sr ?_
 refine mv ?_
 refine LV.call hS h8 (g104_ok _ _ _ _ ) hP rfl rfl rfl rfl fun x14_8 T1 n1 h9 ρ its hS => ?_
 refine mv ?_
 refine ls3 X 0 3 18 [(2, (.lit (.bool false)))] (g209_k1 ro) 3 ?_ ?_
 ·
  rcases condK_inv h9 with ⟨e, h20⟩ | ⟨e, h20⟩
  ·
   clear h1 h2 h3 h4 h5 h6 h7 h8 h9
   subst e
   refine sk ?_
   refine sk ?_
   refine pu ?_
   exact la3 hS h20 ⟨rfl, rfl, rfl, rfl, trivial⟩
  ·
   clear h1 h2 h3 h4 h5 h6 h7 h8 h9
   subst e
   refine mv ?_
   refine LV.call hS h20 (g105_ok _ _ _ _ ) hP rfl rfl rfl rfl fun x17_13 T6 n6 h21 ρ its hS => ?_
   refine pu ?_
   exact la3 hS h21 ⟨rfl, rfl, rfl, rfl, trivial⟩
 ·
  intro y0 y3 y18 T2 n2 ρ its hS h10
  unfold g209_k1 at h10
  clear h1 h2 h3 h4 h5 h6 h7 h8 h9
  refine mv ?_
  refine ls3 X 0 3 22 [(2, (.lit (.bool false)))] (g209_k2 ro) 3 ?_ ?_
  ·
   rcases condK_inv h10 with ⟨e, h18⟩ | ⟨e, h18⟩
   ·
    clear h10
    subst e
    refine sk ?_
    refine sk ?_
    refine pu ?_
    exact la3 hS h18 ⟨rfl, rfl, rfl, rfl, trivial⟩
   ·
    clear h10
    subst e
    refine mv ?_
    refine vy (V.eq h18 rfl rfl) fun x21_12 h19 => ?_
    refine pu ?_
    exact la3 hS h19 ⟨rfl, rfl, rfl, rfl, trivial⟩
  ·
   intro y0 y3 y22 T3 n3 ρ its hS h11
   unfold g209_k2 at h11
   clear h10
   refine mv ?_
   refine ls2 X 0 26 [(2, (.lit (.bool false)))] (g209_k3 ro) 3 ?_ ?_
   ·
    rcases condK_inv h11 with ⟨e, h16⟩ | ⟨e, h16⟩
    ·
     clear h11
     subst e
     refine sk ?_
     refine sk ?_
     refine pu ?_
     exact la2 hS h16 ⟨rfl, rfl, rfl, trivial⟩
    ·
     clear h11
     subst e
     refine mv ?_
     refine vy (V.eq h16 rfl rfl) fun x25_11 h17 => ?_
     refine pu ?_
     exact la2 hS h17 ⟨rfl, rfl, rfl, trivial⟩
   ·
    intro y0 y26 T4 n4 ρ its hS h12
    unfold g209_k3 at h12
    clear h11
    refine dn ?_
    refine CV.cond h12 rfl (fun e h13 => ?_) (fun e h13 => ?_)
    ·
     clear h12
     subst e
     refine sr ?_
     refine as_ ?_
     refine dn ?_
     refine CV.ret ?_
     refine PV.thenR ?_
     cases h13
     exact PV.ret (by simp) Tryz.results209 hS (RS.tmp rfl RS.nil) rfl
    ·
     clear h12
     subst e
     refine CV.skip ?_
     refine PV.thenN ?_
     refine sr ?_
     refine mv ?_
     refine LV.call hS h13 (g213_ok _ _ _ _ ) hP rfl rfl rfl rfl fun x28_9 T5 n5 h14 ρ its hS => ?_
     refine vy (V.neS h14 rfl rfl) fun x29_10 h15 => ?_
     refine as_ ?_
     refine dn ?_
     refine CV.ret ?_
     cases h15
     exact PV.ret (by simp) Tryz.results209 hS (RS.tmp rfl RS.nil) rfl
noncomputable def g226_b1 (ro : List HT) (lp1 : AV → AV → AV → AV → HT → Nat → R) (y0 y1 y4 y5 : AV) (T1 : HT) (n1 : Nat) : R :=
 geK Tryz.prog 3 (.tmp 9) (.const (.int .i64 (.ofNat 0))) 2260008 y5 (.lit (.int .i64 (.ofNat 0))) fun x10_3 =>
 condK 2260009 x10_3
 (
  ixK 2260012 y0 y5 fun x15_4 =>
  eqK Tryz.prog 5 (.tmp 15) (.tmp 16) 2260014 x15_4 y1 fun x17_5 =>
  condK 2260015 x17_5
  (
   .ok (.val y5) T1 n1
  )
  (
   subK Tryz.prog 3 (.tmp 11) (.const (.int .i64 (.ofNat 1))) 2260019 y5 (.lit (.int .i64 (.ofNat 1))) fun x12_6 =>
   lp1 y0 y1 y4 x12_6 T1 n1
  )
 )
 (
  .ok (.val (.lit (.int .i64 (.negSucc 0)))) T1 n1
 )
noncomputable def g226 (ro : List HT) (a0 a1 : AV) (T : HT) (nx : Nat) : R :=
 lenTK 2260003 a0 fun x7_1 =>
 subK Tryz.prog 3 (.tmp 7) (.const (.int .i64 (.ofNat 1))) 2260004 x7_1 (.lit (.int .i64 (.ofNat 1))) fun x8_2 =>
 lpf4 2260006 (g226_b1 ro) 100000 a0 a1 (.lit (.int .i64 (.ofNat 0))) x8_2 T nx
theorem g226_ok (ro : List HT) (a0 a1 : AV) (T : HT) (nx : Nat) : GOk Tryz.prog envE 226 [a0, a1] ro T nx (g226 ro a0 a1 T nx) := by
 refine GOk.of_body Tryz.func226 rfl Tryz.ntmps226 (by kernel_rfl) rfl fun r T' n' h1 w0 base ρ0 its hS hP => ?_
 have X : CtxW envE ρ0 ro r T' n' := trivial
 unfold g226 at h1
 refine sr ?_
 refine as_ ?_
 refine dn ?_
 refine CV.seq ?_
 refine sr ?_
 refine mv ?_
 refine vy (V.lenT h1 rfl Pdf.ls9) fun x7_1 h2 => ?_
 refine vy (V.sub h2 rfl rfl) fun x8_2 h3 => ?_
 refine as_ ?_
 refine dn ?_
 refine CV.block ?_
 refine cl4 X 0 1 4 5 [] hS h3 ⟨rfl, rfl, rfl, rfl, trivial⟩ ?_
 intro f1 y0 y1 y4 y5 T1 n1 ρ its hS h4
 unfold g226_b1 at h4
 clear h1 h2 h3
 refine CV.seq ?_
 refine sr ?_
 refine mv ?_
 refine vy (V.ge h4 rfl rfl) fun x10_3 h5 => ?_
 refine dn ?_
 refine CV.cond h5 rfl (fun e h6 => ?_) (fun e h6 => ?_)
 ·
  clear h4 h5
  subst e
  refine CV.skip ?_
  refine PV.thenN ?_
  refine CV.seq ?_
  refine CV.block ?_
  refine sr ?_
  refine mv ?_
  refine mv ?_
  refine vy (V.ix h6 rfl rfl Pdf.st9) fun x15_4 h7 => ?_
  refine mv ?_
  refine vy (V.eq h7 rfl rfl) fun x17_5 h8 => ?_
  refine dn ?_
  refine CV.cond h8 rfl (fun e h9 => ?_) (fun e h9 => ?_)
  ·
   clear h6 h7 h8
   subst e
   refine sr ?_
   refine mv ?_
   refine as_ ?_
   refine dn ?_
   refine CV.ret ?_
   refine PV.blockR ?_
   refine PV.thenR ?_
   refine PV.thenR ?_
   refine PV.blockR ?_
   refine PV.thenR ?_
   cases h9
   exact PV.ret (by simp) Tryz.results226 hS (RS.tmp rfl RS.nil) rfl
  ·
   clear h6 h7 h8
   subst e
   refine CV.skip ?_
   refine PV.blockN ?_
   refine PV.thenN ?_
   refine CV.region ?_
   refine mv ?_
   refine vy (V.sub h9 rfl rfl) fun x12_6 h10 => ?_
   refine as_ ?_
   refine LV.done ?_
   exact pb4 hS h10 ⟨rfl, rfl, rfl, rfl, trivial⟩
 ·
  clear h4 h5
  subst e
  refine CV.exit ?_
  refine PV.thenE ?_
  refine PV.thenE ?_
  refine PV.blockE ?_
  refine PV.thenN ?_
  refine sr ?_
  refine as_ ?_
  refine dn ?_
  refine CV.ret ?_
  cases h6
  exact PV.ret (by simp) Tryz.results226 hS (RS.tmp rfl RS.nil) rfl
noncomputable def g210 (ro : List HT) (a0 a1 : AV) (T : HT) (nx : Nat) : R :=
 callK (g226 ro a0 a1 T nx) fun x7_1 T1 n1 =>
 .ok (.val x7_1) T1 n1
theorem g210_ok (ro : List HT) (a0 a1 : AV) (T : HT) (nx : Nat) : GOk Tryz.prog envE 210 [a0, a1] ro T nx (g210 ro a0 a1 T nx) := by
 refine GOk.of_body Tryz.func210 rfl Tryz.ntmps210 (by kernel_rfl) rfl fun r T' n' h1 w0 base ρ0 its hS hP => ?_
 have X : CtxW envE ρ0 ro r T' n' := trivial
 unfold g210 at h1
 refine sr ?_
 refine as_ ?_
 refine dn ?_
 refine sr ?_
 refine mv ?_
 refine mv ?_
 refine LV.call hS h1 (g226_ok _ _ _ _ _ ) hP rfl rfl rfl rfl fun x7_1 T1 n1 h2 ρ its hS => ?_
 refine as_ ?_
 refine dn ?_
 refine CV.ret ?_
 cases h2
 exact PV.ret (by simp) Tryz.results210 hS (RS.tmp rfl RS.nil) rfl
noncomputable def g170_b1 (ro : List HT) (lp1 : AV → AV → AV → HT → Nat → R) (y0 y2 y3 : AV) (T3 : HT) (n3 : Nat) : R :=
 ncK 1700048 y0 fun x76_28 =>
 faK 1700049 x76_28 3 fun x77_29 =>
 ldK 1700050 T3 ro x77_29 fun x78_30 =>
 ncK 1700052 y0 fun x80_31 =>
 faK 1700053 x80_31 3 fun x81_32 =>
 ldK 1700054 T3 ro x81_32 fun x82_33 =>
 lenSK 1700055 x82_33 fun x83_34 =>
 subK Tryz.prog 3 (.tmp 83) (.const (.int .i64 (.ofNat 1))) 1700056 x83_34 (.lit (.int .i64 (.ofNat 1))) fun x84_35 =>
 iaK 1700057 x78_30 x84_35 1 fun x85_36 =>
 ldK 1700058 T3 ro x85_36 fun x86_37 =>
 ltK Tryz.prog 3 (.tmp 74) (.tmp 86) 1700059 y3 x86_37 fun x87_38 =>
 condK 1700060 x87_38
 (
  ncK 1700063 y0 fun x90_39 =>
  faK 1700064 x90_39 3 fun x91_40 =>
  ldK 1700065 T3 ro x91_40 fun x92_41 =>
  ncK 1700067 y0 fun x94_42 =>
  faK 1700068 x94_42 3 fun x95_43 =>
  ldK 1700069 T3 ro x95_43 fun x96_44 =>
  lenSK 1700070 x96_44 fun x97_45 =>
  subK Tryz.prog 3 (.tmp 97) (.const (.int .i64 (.ofNat 1))) 1700071 x97_45 (.lit (.int .i64 (.ofNat 1))) fun x98_46 =>
  cutHiK 1700072 T3 ro x92_41 x98_46 fun x99_47 =>
  ncK 1700073 y0 fun x100_48 =>
  faK 1700074 x100_48 3 fun x101_49 =>
  stK 1700075 T3 x101_49 x99_47 fun T4 =>
  fldK 1700078 T4 ro y0 1 fun x106_50 =>
  callK (g98 ro y0 (.lit (.int .i64 (.ofNat 7))) (.lit (.string ⟨⟨[]⟩⟩)) x106_50 T4 n3) fun x107_51 T5 n5 =>
  lp1 y0 y2 y3 T5 n5
 )
 (
  ncK 1700082 y0 fun x110_52 =>
  faK 1700083 x110_52 3 fun x111_53 =>
  ldK 1700084 T3 ro x111_53 fun x112_54 =>
  ncK 1700086 y0 fun x114_55 =>
  faK 1700087 x114_55 3 fun x115_56 =>
  ldK 1700088 T3 ro x115_56 fun x116_57 =>
  lenSK 1700089 x116_57 fun x117_58 =>
  subK Tryz.prog 3 (.tmp 117) (.const (.int .i64 (.ofNat 1))) 1700090 x117_58 (.lit (.int .i64 (.ofNat 1))) fun x118_59 =>
  iaK 1700091 x112_54 x118_59 1 fun x119_60 =>
  ldK 1700092 T3 ro x119_60 fun x120_61 =>
  neK Tryz.prog 3 (.tmp 108) (.tmp 120) 1700093 y3 x120_61 fun x121_62 =>
  condK 1700094 x121_62
  (
   .bad 1700095
  )
  (
   .ok (.val (.lit (.nilIface))) T3 n3
  )
 )
noncomputable def g170 (ro : List HT) (a0 : AV) (T : HT) (nx : Nat) : R :=
 callK (g209 ro a0 T nx) fun x6_1 T1 n1 =>
 notK 1700004 x6_1 fun x7_2 =>
 condK 1700005 x7_2
 (
  .bad 1700006
 )
 (
  faK 1700008 a0 5 fun x15_3 =>
  stK 1700009 T1 x15_3 (.lit (.bool true)) fun T2 =>
  ncK 1700011 a0 fun x17_4 =>
  faK 1700012 x17_4 1 fun x18_5 =>
  ldK 1700013 T2 ro x18_5 fun x19_6 =>
  ncK 1700015 a0 fun x21_7 =>
  faK 1700016 x21_7 0 fun x22_8 =>
  ldK 1700017 T2 ro x22_8 fun x23_9 =>
  ncK 1700019 a0 fun x25_10 =>
  faK 1700020 x25_10 1 fun x26_11 =>
  ldK 1700021 T2 ro x26_11 fun x27_12 =>
  sliceF 1700022 x23_9 none (some x27_12) fun x28_13 =>
  callQ 1700023 (g210 (T2 :: ro) x28_13 (.lit (.int .u8 (.ofNat 10))) .nil n1) fun x29_14 =>
  addK Tryz.prog 3 (.tmp 29) (.const (.int .i64 (.ofNat 1))) 1700024 x29_14 (.lit (.int .i64 (.ofNat 1))) fun x30_15 =>
  subK Tryz.prog 3 (.tmp 19) (.tmp 30) 1700025 x19_6 x30_15 fun x31_16 =>
  ncK 1700028 a0 fun x33_17 =>
  faK 1700029 x33_17 3 fun x34_18 =>
  ldK 1700030 T2 ro x34_18 fun x35_19 =>
  ncK 1700032 a0 fun x37_20 =>
  faK 1700033 x37_20 3 fun x38_21 =>
  ldK 1700034 T2 ro x38_21 fun x39_22 =>
  lenSK 1700035 x39_22 fun x40_23 =>
  subK Tryz.prog 3 (.tmp 40) (.const (.int .i64 (.ofNat 1))) 1700036 x40_23 (.lit (.int .i64 (.ofNat 1))) fun x41_24 =>
  iaK 1700037 x35_19 x41_24 1 fun x42_25 =>
  ldK 1700038 T2 ro x42_25 fun x43_26 =>
  gtK Tryz.prog 3 (.tmp 44) (.tmp 45) 1700042 x31_16 x43_26 fun x46_27 =>
  condK 1700043 x46_27
  (
   .bad 1700044
  )
  (
   lpf3 1700045 (g170_b1 ro) 100000 a0 (.lit (.nilIface)) x31_16 T2 n1
  )
 )
theorem g170_ok (ro : List HT) (a0 : AV) (T : HT) (nx : Nat) : GOk Tryz.prog envE 170 [a0] ro T nx (g170 ro a0 T nx) := by
 refine GOk.of_body Tryz.func170 rfl Tryz.ntmps170 (by kernel_rfl) rfl fun r T' n' h1 w0 base ρ0 its hS hP => ?_
 have X : CtxW envE ρ0 ro r T' n' := trivial
 unfold g170 at h1
 refine sr ?_
 refine as_ ?_
 refine dn ?_
 refine CV.seq ?_
 refine sr ?_
 refine mv ?_
 refine LV.call hS h1 (g209_ok _ _ _ _ ) hP rfl rfl rfl rfl fun x6_1 T1 n1 h2 ρ its hS => ?_
 refine vy (V.not h2 rfl) fun x7_2 h3 => ?_
 refine dn ?_
 refine CV.cond h3 rfl (fun e h4 => ?_) (fun e h4 => ?_)
 ·
  clear h1 h2 h3
  subst e
  cases h4
 ·
  clear h1 h2 h3
  subst e
  refine CV.skip ?_
  refine PV.thenN ?_
  refine sr ?_
  refine mv ?_
  refine fa2 h4 Pdf.fo168_5 fun x15_3 h5 => ?_
  refine LV.st hS h5 rfl rfl rfl Pdf.siz4 rfl rfl fun T2 its h6 hS => ?_
  refine dn ?_
  refine CV.seq ?_
  refine CV.regionM [(0, .anywhere), (1, .anywhere), (2, .anywhere), (3, .held), (4, .anywhere), (5, .anywhere), (6, .anywhere), (7, .held), (8, .anywhere), (9, .anywhere), (10, .anywhere), (11, .held), (12, .held), (13, .alone), (14, .alone), (15, .alone), (16, .alone)] rfl (fun c a a' w hd hq => PanicOk.root (P := Tryz.prog) (fn := Tryz.f170) (w0 := w0) (base := base) (E := envE) (ro := ro) (r := r) (T' := T') (n' := n') (ρ0 := ρ0) c a a' w hd hq) (by kernel_rfl) ?_
  refine MV.step0 (i := 0) rfl (VAL.move rfl) rfl rfl rfl ?_
  refine MV.lift0 (i := 1) rfl (V.nc h6 rfl) rfl rfl rfl fun x17_4 h7 => ?_
  refine MV.lift0 (i := 2) rfl (V.fa h7 rfl Pdf.fo168_1) rfl rfl rfl fun x18_5 h8 => ?_
  refine MV.lift1 (i := 3) rfl (fun _ z => z) (V.ld hS h8 rfl Pdf.one3) rfl rfl rfl [] (by kernel_rfl) fun x19_6 h9 => ?_
  refine MV.step0 (i := 4) rfl (VAL.move rfl) rfl rfl rfl ?_
  refine MV.lift0 (i := 5) rfl (V.nc h9 rfl) rfl rfl rfl fun x21_7 h10 => ?_
  refine MV.lift0 (i := 6) rfl (V.fa h10 rfl Pdf.fo168_0) rfl rfl rfl fun x22_8 h11 => ?_
  refine MV.lift1 (i := 7) rfl (fun _ z => z) (V.ld hS h11 rfl Pdf.one9) rfl rfl rfl [3] (by kernel_rfl) fun x23_9 h12 => ?_
  refine MV.step0 (i := 8) rfl (VAL.move rfl) rfl rfl rfl ?_
  refine MV.lift0 (i := 9) rfl (V.nc h12 rfl) rfl rfl rfl fun x25_10 h13 => ?_
  refine MV.lift0 (i := 10) rfl (V.fa h13 rfl Pdf.fo168_1) rfl rfl rfl fun x26_11 h14 => ?_
  refine MV.lift1 (i := 11) rfl (fun _ z => z) (V.ld hS h14 rfl Pdf.one3) rfl rfl rfl [7, 3] (by kernel_rfl) fun x27_12 h15 => ?_
  refine MV.lift1 (i := 12) rfl (fun _ z => z) (V.slHi (sliceF_ok h15) rfl rfl Pdf.st9) rfl rfl rfl [3] (by kernel_rfl) fun x28_13 h16 => ?_
  refine MV.force (i := 13) rfl ?_
  refine LV.callQ hS h16 (g210_ok _ _ _ _ _ ) rfl rfl rfl rfl fun x29_14 h17 => ?_
  refine LV.nextM [3] (by kernel_rfl) (fun _ => fun _ z => z) ?_
  refine MV.force (i := 14) rfl ?_
  refine vy (V.add h17 rfl rfl) fun x30_15 h18 => ?_
  refine LV.nextM [3] (by kernel_rfl) (fun _ => fun _ z => z) ?_
  refine MV.force (i := 15) rfl ?_
  refine vy (V.sub h18 rfl rfl) fun x31_16 h19 => ?_
  refine LV.nextM [] (by kernel_rfl) (fun z => absurd rfl z) ?_
  refine MV.force (i := 16) rfl ?_
  refine as_ ?_
  refine LV.nextM [] (by kernel_rfl) (fun z => absurd rfl z) ?_
  refine mdn ?_
  refine CV.seq ?_
  refine CV.regionM [(0, .anywhere), (1, .anywhere), (2, .anywhere), (3, .held), (4, .anywhere), (5, .anywhere), (6, .anywhere), (7, .held), (8, .held), (9, .held), (10, .held), (11, .held), (12, .held)] rfl (fun c a a' w hd hq => PanicOk.root (P := Tryz.prog) (fn := Tryz.f170) (w0 := w0) (base := base) (E := envE) (ro := ro) (r := r) (T' := T') (n' := n') (ρ0 := ρ0) c a a' w hd hq) (by kernel_rfl) ?_
  refine MV.step0 (i := 0) rfl (VAL.move rfl) rfl rfl rfl ?_
  refine MV.lift0 (i := 1) rfl (V.nc h19 rfl) rfl rfl rfl fun x33_17 h20 => ?_
  refine MV.lift0 (i := 2) rfl (V.fa h20 rfl Pdf.fo168_3) rfl rfl rfl fun x34_18 h21 => ?_
  refine MV.lift1 (i := 3) rfl (fun _ z => z) (V.ld hS h21 rfl Pdf.one30) rfl rfl rfl [] (by kernel_rfl) fun x35_19 h22 => ?_
  refine MV.step0 (i := 4) rfl (VAL.move rfl) rfl rfl rfl ?_
  refine MV.lift0 (i := 5) rfl (V.nc h22 rfl) rfl rfl rfl fun x37_20 h23 => ?_
  refine MV.lift0 (i := 6) rfl (V.fa h23 rfl Pdf.fo168_3) rfl rfl rfl fun x38_21 h24 => ?_
  refine MV.lift1 (i := 7) rfl (fun _ z => z) (V.ld hS h24 rfl Pdf.one30) rfl rfl rfl [3] (by kernel_rfl) fun x39_22 h25 => ?_
  refine MV.lift1 (i := 8) rfl (fun _ z => z) (V.lenS h25 rfl Pdf.ls30) rfl rfl rfl [3] (by kernel_rfl) fun x40_23 h26 => ?_
  refine MV.lift1 (i := 9) rfl (fun _ z => z) (V.sub h26 rfl rfl) rfl rfl rfl [3] (by kernel_rfl) fun x41_24 h27 => ?_
  refine MV.lift1 (i := 10) rfl (fun _ z => z) (V.ia h27 rfl rfl Pdf.el30) rfl rfl rfl [] (by kernel_rfl) fun x42_25 h28 => ?_
  refine MV.lift1 (i := 11) rfl (fun _ z => z) (V.ld hS h28 rfl Pdf.one3) rfl rfl rfl [] (by kernel_rfl) fun x43_26 h29 => ?_
  refine MV.step1 (i := 12) rfl (fun _ z => z) (VAL.assign rfl) rfl rfl rfl [] (by kernel_rfl) ?_
  refine mdn ?_
  refine CV.seq ?_
  refine sr ?_
  refine mv ?_
  refine mv ?_
  refine vy (V.gt h29 rfl rfl) fun x46_27 h30 => ?_
  refine dn ?_
  refine CV.cond h30 rfl (fun e h31 => ?_) (fun e h31 => ?_)
  ·
   clear h4 h5 h6 h7 h8 h9 h10 h11 h12 h13 h14 h15 h16 h17 h18 h19 h20 h21 h22 h23 h24 h25 h26 h27 h28 h29 h30
   subst e
   cases h31
  ·
   clear h4 h5 h6 h7 h8 h9 h10 h11 h12 h13 h14 h15 h16 h17 h18 h19 h20 h21 h22 h23 h24 h25 h26 h27 h28 h29 h30
   subst e
   refine CV.skip ?_
   refine PV.thenN ?_
   refine CV.seq ?_
   refine CV.block ?_
   refine cl3 X 0 2 3 [] hS h31 ⟨rfl, rfl, rfl, trivial⟩ ?_
   intro f1 y0 y2 y3 T3 n3 ρ its hS h32
   unfold g170_b1 at h32
   clear h31
   refine CV.seq ?_
   refine CV.seq ?_
   refine CV.regionM [(0, .anywhere), (1, .anywhere), (2, .anywhere), (3, .anywhere), (4, .held), (5, .anywhere), (6, .anywhere), (7, .anywhere), (8, .held), (9, .held), (10, .held), (11, .held), (12, .held), (13, .held)] rfl (fun c a a' w hd hq => PanicOk.root (P := Tryz.prog) (fn := Tryz.f170) (w0 := w0) (base := base) (E := envE) (ro := ro) (r := r) (T' := T') (n' := n') (ρ0 := ρ0) c a a' w hd hq) (by kernel_rfl) ?_
   refine MV.step0 (i := 0) rfl (VAL.move rfl) rfl rfl rfl ?_
   refine MV.step0 (i := 1) rfl (VAL.move rfl) rfl rfl rfl ?_
   refine MV.lift0 (i := 2) rfl (V.nc h32 rfl) rfl rfl rfl fun x76_28 h33 => ?_
   refine MV.lift0 (i := 3) rfl (V.fa h33 rfl Pdf.fo168_3) rfl rfl rfl fun x77_29 h34 => ?_
   refine MV.lift1 (i := 4) rfl (fun _ z => z) (V.ld hS h34 rfl Pdf.one30) rfl rfl rfl [] (by kernel_rfl) fun x78_30 h35 => ?_
   refine MV.step0 (i := 5) rfl (VAL.move rfl) rfl rfl rfl ?_
   refine MV.lift0 (i := 6) rfl (V.nc h35 rfl) rfl rfl rfl fun x80_31 h36 => ?_
   refine MV.lift0 (i := 7) rfl (V.fa h36 rfl Pdf.fo168_3) rfl rfl rfl fun x81_32 h37 => ?_
   refine MV.lift1 (i := 8) rfl (fun _ z => z) (V.ld hS h37 rfl Pdf.one30) rfl rfl rfl [4] (by kernel_rfl) fun x82_33 h38 => ?_
   refine MV.lift1 (i := 9) rfl (fun _ z => z) (V.lenS h38 rfl Pdf.ls30) rfl rfl rfl [4] (by kernel_rfl) fun x83_34 h39 => ?_
   refine MV.lift1 (i := 10) rfl (fun _ z => z) (V.sub h39 rfl rfl) rfl rfl rfl [4] (by kernel_rfl) fun x84_35 h40 => ?_
   refine MV.lift1 (i := 11) rfl (fun _ z => z) (V.ia h40 rfl rfl Pdf.el30) rfl rfl rfl [] (by kernel_rfl) fun x85_36 h41 => ?_
   refine MV.lift1 (i := 12) rfl (fun _ z => z) (V.ld hS h41 rfl Pdf.one3) rfl rfl rfl [] (by kernel_rfl) fun x86_37 h42 => ?_
   refine MV.lift1 (i := 13) rfl (fun _ z => z) (V.lt h42 rfl rfl) rfl rfl rfl [] (by kernel_rfl) fun x87_38 h43 => ?_
   refine mdn ?_
   refine CV.cond h43 rfl (fun e h44 => ?_) (fun e h44 => ?_)
   ·
    clear h32 h33 h34 h35 h36 h37 h38 h39 h40 h41 h42 h43
    subst e
    refine CV.skip ?_
    refine PV.thenN ?_
    refine CV.block ?_
    refine CV.seq ?_
    refine CV.regionM [(0, .anywhere), (1, .anywhere), (2, .anywhere), (3, .anywhere), (4, .held), (5, .anywhere), (6, .anywhere), (7, .anywhere), (8, .held), (9, .held), (10, .held), (11, .held), (12, .held), (13, .held), (14, .alone)] rfl (fun c a a' w hd hq => PanicOk.root (P := Tryz.prog) (fn := Tryz.f170) (w0 := w0) (base := base) (E := envE) (ro := ro) (r := r) (T' := T') (n' := n') (ρ0 := ρ0) c a a' w hd hq) (by kernel_rfl) ?_
    refine MV.step0 (i := 0) rfl (VAL.move rfl) rfl rfl rfl ?_
    refine MV.step0 (i := 1) rfl (VAL.move rfl) rfl rfl rfl ?_
    refine MV.lift0 (i := 2) rfl (V.nc h44 rfl) rfl rfl rfl fun x90_39 h45 => ?_
    refine MV.lift0 (i := 3) rfl (V.fa h45 rfl Pdf.fo168_3) rfl rfl rfl fun x91_40 h46 => ?_
    refine MV.lift1 (i := 4) rfl (fun _ z => z) (V.ld hS h46 rfl Pdf.one30) rfl rfl rfl [] (by kernel_rfl) fun x92_41 h47 => ?_
    refine MV.step0 (i := 5) rfl (VAL.move rfl) rfl rfl rfl ?_
    refine MV.lift0 (i := 6) rfl (V.nc h47 rfl) rfl rfl rfl fun x94_42 h48 => ?_
    refine MV.lift0 (i := 7) rfl (V.fa h48 rfl Pdf.fo168_3) rfl rfl rfl fun x95_43 h49 => ?_
    refine MV.lift1 (i := 8) rfl (fun _ z => z) (V.ld hS h49 rfl Pdf.one30) rfl rfl rfl [4] (by kernel_rfl) fun x96_44 h50 => ?_
    refine MV.lift1 (i := 9) rfl (fun _ z => z) (V.lenS h50 rfl Pdf.ls30) rfl rfl rfl [4] (by kernel_rfl) fun x97_45 h51 => ?_
    refine MV.lift1 (i := 10) rfl (fun _ z => z) (V.sub h51 rfl rfl) rfl rfl rfl [4] (by kernel_rfl) fun x98_46 h52 => ?_
    refine MV.lift1 (i := 11) rfl (fun _ z => z) (V.cutHi hS h52 rfl rfl Pdf.el30) rfl rfl rfl [] (by kernel_rfl) fun x99_47 h53 => ?_
    refine MV.lift1 (i := 12) rfl (fun _ z => z) (V.nc h53 rfl) rfl rfl rfl [] (by kernel_rfl) fun x100_48 h54 => ?_
    refine MV.lift1 (i := 13) rfl (fun _ z => z) (V.fa h54 rfl Pdf.fo168_3) rfl rfl rfl [] (by kernel_rfl) fun x101_49 h55 => ?_
    refine MV.force (i := 14) rfl ?_
    refine LV.st hS h55 rfl rfl rfl Pdf.siz30 rfl rfl fun T4 its h56 hS => ?_
    refine LV.nextM [] (by kernel_rfl) (fun z => absurd rfl z) ?_
    refine mdn ?_
    refine CV.region ?_
    refine mv ?_
    refine mv ?_
    refine fl hS h56 Pdf.fo168_1 Pdf.one3 fun x106_50 h57 => ?_
    refine LV.call hS h57 (g98_ok _ _ _ _ _ _ _ ) hP rfl rfl rfl rfl fun x107_51 T5 n5 h58 ρ its hS => ?_
    refine LV.done ?_
    refine PV.blockN ?_
    exact pb3 hS h58 ⟨rfl, rfl, rfl, trivial⟩
   ·
    clear h32 h33 h34 h35 h36 h37 h38 h39 h40 h41 h42 h43
    subst e
    refine CV.exit ?_
    refine PV.thenE ?_
    refine PV.thenE ?_
    refine PV.blockE ?_
    refine PV.thenN ?_
    refine CV.seq ?_
    refine CV.seq ?_
    refine CV.regionM [(0, .anywhere), (1, .anywhere), (2, .anywhere), (3, .anywhere), (4, .held), (5, .anywhere), (6, .anywhere), (7, .anywhere), (8, .held), (9, .held), (10, .held), (11, .held), (12, .held), (13, .held)] rfl (fun c a a' w hd hq => PanicOk.root (P := Tryz.prog) (fn := Tryz.f170) (w0 := w0) (base := base) (E := envE) (ro := ro) (r := r) (T' := T') (n' := n') (ρ0 := ρ0) c a a' w hd hq) (by kernel_rfl) ?_
    refine MV.step0 (i := 0) rfl (VAL.move rfl) rfl rfl rfl ?_
    refine MV.step0 (i := 1) rfl (VAL.move rfl) rfl rfl rfl ?_
    refine MV.lift0 (i := 2) rfl (V.nc h44 rfl) rfl rfl rfl fun x110_52 h59 => ?_
    refine MV.lift0 (i := 3) rfl (V.fa h59 rfl Pdf.fo168_3) rfl rfl rfl fun x111_53 h60 => ?_
    refine MV.lift1 (i := 4) rfl (fun _ z => z) (V.ld hS h60 rfl Pdf.one30) rfl rfl rfl [] (by kernel_rfl) fun x112_54 h61 => ?_
    refine MV.step0 (i := 5) rfl (VAL.move rfl) rfl rfl rfl ?_
    refine MV.lift0 (i := 6) rfl (V.nc h61 rfl) rfl rfl rfl fun x114_55 h62 => ?_
    refine MV.lift0 (i := 7) rfl (V.fa h62 rfl Pdf.fo168_3) rfl rfl rfl fun x115_56 h63 => ?_
    refine MV.lift1 (i := 8) rfl (fun _ z => z) (V.ld hS h63 rfl Pdf.one30) rfl rfl rfl [4] (by kernel_rfl) fun x116_57 h64 => ?_
    refine MV.lift1 (i := 9) rfl (fun _ z => z) (V.lenS h64 rfl Pdf.ls30) rfl rfl rfl [4] (by kernel_rfl) fun x117_58 h65 => ?_
    refine MV.lift1 (i := 10) rfl (fun _ z => z) (V.sub h65 rfl rfl) rfl rfl rfl [4] (by kernel_rfl) fun x118_59 h66 => ?_
    refine MV.lift1 (i := 11) rfl (fun _ z => z) (V.ia h66 rfl rfl Pdf.el30) rfl rfl rfl [] (by kernel_rfl) fun x119_60 h67 => ?_
    refine MV.lift1 (i := 12) rfl (fun _ z => z) (V.ld hS h67 rfl Pdf.one3) rfl rfl rfl [] (by kernel_rfl) fun x120_61 h68 => ?_
    refine MV.lift1 (i := 13) rfl (fun _ z => z) (V.ne h68 rfl rfl) rfl rfl rfl [] (by kernel_rfl) fun x121_62 h69 => ?_
    refine mdn ?_
    refine CV.cond h69 rfl (fun e h70 => ?_) (fun e h70 => ?_)
    ·
     clear h44 h59 h60 h61 h62 h63 h64 h65 h66 h67 h68 h69
     subst e
     cases h70
    ·
     clear h44 h59 h60 h61 h62 h63 h64 h65 h66 h67 h68 h69
     subst e
     refine CV.skip ?_
     refine PV.thenN ?_
     refine sr ?_
     refine as_ ?_
     refine dn ?_
     refine CV.ret ?_
     cases h70
     exact PV.ret (by simp) Tryz.results170 hS (RS.tmp rfl RS.nil) rfl
noncomputable def g106 (ro : List HT) (T : HT) (nx : Nat) : R :=
 bsK 1060002 T nx 17 9 1 [(0, (.lit (.string ⟨⟨[70, 97, 108, 115, 101]⟩⟩))), (1, (.lit (.string ⟨⟨[78, 111, 110, 101]⟩⟩))), (2, (.lit (.string ⟨⟨[84, 114, 117, 101]⟩⟩))), (3, (.lit (.string ⟨⟨[97, 110, 100]⟩⟩))), (4, (.lit (.string ⟨⟨[98, 114, 101, 97, 107]⟩⟩))), (5, (.lit (.string ⟨⟨[99, 111, 110, 116, 105, 110, 117, 101]⟩⟩))), (6, (.lit (.string ⟨⟨[100, 101, 102]⟩⟩))), (7, (.lit (.string ⟨⟨[101, 108, 105, 102]⟩⟩))), (8, (.lit (.string ⟨⟨[101, 108, 115, 101]⟩⟩))), (9, (.lit (.string ⟨⟨[102, 111, 114]⟩⟩))), (10, (.lit (.string ⟨⟨[105, 102]⟩⟩))), (11, (.lit (.string ⟨⟨[105, 110]⟩⟩))), (12, (.lit (.string ⟨⟨[108, 111, 97, 100]⟩⟩))), (13, (.lit (.string ⟨⟨[110, 111, 116]⟩⟩))), (14, (.lit (.string ⟨⟨[111, 114]⟩⟩))), (15, (.lit (.string ⟨⟨[112, 97, 115, 115]⟩⟩))), (16, (.lit (.string ⟨⟨[114, 101, 116, 117, 114, 110]⟩⟩)))] fun x1_1 T1 n1 =>
 .ok (.val x1_1) T1 n1
theorem g106_ok (ro : List HT) (T : HT) (nx : Nat) : GOk Tryz.prog envE 106 [] ro T nx (g106 ro T nx) := by
 refine GOk.of_body Tryz.func106 rfl Tryz.ntmps106 (by kernel_rfl) rfl fun r T' n' h1 w0 base ρ0 its hS hP => ?_
 have X : CtxW envE ρ0 ro r T' n' := trivial
 unfold g106 at h1
 refine sr ?_
 refine as_ ?_
 refine dn ?_
 refine sr ?_
 refine LV.bslice hS h1 rfl rfl Pdf.el46 rfl rfl rfl rfl fun x1_1 T1 n1 h2 ρ its hS hdr => ?_
 refine as_ ?_
 refine dn ?_
 refine CV.ret ?_
 cases h2
 exact PV.ret (by simp) Tryz.results106 hS (RS.tmp rfl RS.nil) rfl
noncomputable def g171_b1 (ro : List HT) (lp1 : AV → AV → HT → Nat → R) (y0 y2 : AV) (T1 : HT) (n1 : Nat) : R :=
 ncK 1710006 y0 fun x9_2 =>
 faK 1710007 x9_2 1 fun x10_3 =>
 ldK 1710008 T1 ro x10_3 fun x11_4 =>
 ncK 1710010 y0 fun x13_5 =>
 faK 1710011 x13_5 0 fun x14_6 =>
 ldK 1710012 T1 ro x14_6 fun x15_7 =>
 lenTK 1710013 x15_7 fun x16_8 =>
 ltK Tryz.prog 3 (.tmp 11) (.tmp 16) 1710014 x11_4 x16_8 fun x17_9 =>
 condK 1710016 x17_9
 (
  ncK 1710018 y0 fun x20_10 =>
  faK 1710019 x20_10 0 fun x21_11 =>
  ldK 1710020 T1 ro x21_11 fun x22_12 =>
  ncK 1710022 y0 fun x24_13 =>
  faK 1710023 x24_13 1 fun x25_14 =>
  ldK 1710024 T1 ro x25_14 fun x26_15 =>
  ixK 1710025 x22_12 x26_15 fun x27_16 =>
  callQ 1710026 (g104 (T1 :: ro) x27_16 .nil n1) fun x28_17 =>
  condK 1710028 x28_17
  (
   condK 1710031 (.lit (.bool true))
   (
    fldK 1710033 T1 ro y0 1 fun x45_18 =>
    addK Tryz.prog 3 (.tmp 45) (.const (.int .i64 (.ofNat 1))) 1710034 x45_18 (.lit (.int .i64 (.ofNat 1))) fun x46_19 =>
    faK 1710035 y0 1 fun x48_20 =>
    stK 1710036 T1 x48_20 x46_19 fun T2 =>
    lp1 y0 y2 T2 n1
   )
   (
    .bad 0
   )
  )
  (
   ncK 1710038 y0 fun x31_21 =>
   faK 1710039 x31_21 0 fun x32_22 =>
   ldK 1710040 T1 ro x32_22 fun x33_23 =>
   ncK 1710042 y0 fun x35_24 =>
   faK 1710043 x35_24 1 fun x36_25 =>
   ldK 1710044 T1 ro x36_25 fun x37_26 =>
   ixK 1710045 x33_23 x37_26 fun x38_27 =>
   callQ 1710046 (g105 (T1 :: ro) x38_27 .nil n1) fun x39_28 =>
   condK 1710049 x39_28
   (
    fldK 1710051 T1 ro y0 1 fun x45_29 =>
    addK Tryz.prog 3 (.tmp 45) (.const (.int .i64 (.ofNat 1))) 1710052 x45_29 (.lit (.int .i64 (.ofNat 1))) fun x46_30 =>
    faK 1710053 y0 1 fun x48_31 =>
    stK 1710054 T1 x48_31 x46_30 fun T3 =>
    lp1 y0 y2 T3 n1
   )
   (
    ncK 1710056 y0 fun x50_32 =>
    faK 1710057 x50_32 0 fun x51_33 =>
    ldK 1710058 T1 ro x51_33 fun x52_34 =>
    ncK 1710061 y0 fun x55_35 =>
    faK 1710062 x55_35 1 fun x56_36 =>
    ldK 1710063 T1 ro x56_36 fun x57_37 =>
    sliceF 1710064 x52_34 (some y2) (some x57_37) fun x58_38 =>
    callK (g106 ro T1 n1) fun x59_39 T4 n4 =>
    callK (g87 ro x59_39 x58_38 T4 n4) fun x61_40 T5 n5 =>
    condK 1710069 x61_40
    (
     callK (g98 ro y0 (.lit (.int .i64 (.ofNat 4))) x58_38 y2 T5 n5) fun x65_41 T6 n6 =>
     .ok (.val (.tup [])) T6 n6
    )
    (
     callK (g98 ro y0 (.lit (.int .i64 (.ofNat 1))) x58_38 y2 T5 n5) fun x69_42 T7 n7 =>
     .ok (.val (.tup [])) T7 n7
    )
   )
  )
 )
 (
  condK 1710079 (.lit (.bool false))
  (
   .bad 0
  )
  (
   ncK 1710081 y0 fun x50_43 =>
   faK 1710082 x50_43 0 fun x51_44 =>
   ldK 1710083 T1 ro x51_44 fun x52_45 =>
   ncK 1710086 y0 fun x55_46 =>
   faK 1710087 x55_46 1 fun x56_47 =>
   ldK 1710088 T1 ro x56_47 fun x57_48 =>
   sliceF 1710089 x52_45 (some y2) (some x57_48) fun x58_49 =>
   callK (g106 ro T1 n1) fun x59_50 T8 n8 =>
   callK (g87 ro x59_50 x58_49 T8 n8) fun x61_51 T9 n9 =>
   condK 1710094 x61_51
   (
    callK (g98 ro y0 (.lit (.int .i64 (.ofNat 4))) x58_49 y2 T9 n9) fun x65_52 T10 n10 =>
    .ok (.val (.tup [])) T10 n10
   )
   (
    callK (g98 ro y0 (.lit (.int .i64 (.ofNat 1))) x58_49 y2 T9 n9) fun x69_53 T11 n11 =>
    .ok (.val (.tup [])) T11 n11
   )
  )
 )
noncomputable def g171 (ro : List HT) (a0 : AV) (T : HT) (nx : Nat) : R :=
 fldK 1710002 T ro a0 1 fun x7_1 =>
 lpf2 1710004 (g171_b1 ro) 100000 a0 x7_1 T nx
theorem g171_ok (ro : List HT) (a0 : AV) (T : HT) (nx : Nat) : GOk Tryz.prog envE 171 [a0] ro T nx (g171 ro a0 T nx) := by
 refine GOk.of_body Tryz.func171 rfl Tryz.ntmps171 (by kernel_rfl) rfl fun r T' n' h1 w0 base ρ0 its hS hP => ?_
 have X : CtxW envE ρ0 ro r T' n' := trivial
 unfold g171 at h1
 refine sr ?_
 refine mv ?_
 refine fl hS h1 Pdf.fo168_1 Pdf.one3 fun x7_1 h2 => ?_
 refine as_ ?_
 refine dn ?_
 refine CV.seq ?_
 refine CV.block ?_
 refine cl2 X 0 2 [] hS h2 ⟨rfl, rfl, trivial⟩ ?_
 intro f1 y0 y2 T1 n1 ρ its hS h3
 unfold g171_b1 at h3
 clear h1 h2
 refine CV.seq ?_
 refine CV.seq ?_
 refine CV.regionM [(0, .anywhere), (1, .anywhere), (2, .anywhere), (3, .held), (4, .anywhere), (5, .anywhere), (6, .anywhere), (7, .held), (8, .held), (9, .held), (10, .held), (11, .held), (12, .held), (13, .held), (14, .held), (15, .anywhere), (16, .anywhere), (17, .anywhere), (18, .held), (19, .held), (20, .alone), (21, .anywhere), (22, .anywhere), (23, .anywhere), (24, .anywhere), (25, .held), (26, .anywhere), (27, .anywhere), (28, .anywhere), (29, .held), (30, .held), (31, .alone), (32, .anywhere), (33, .anywhere)] rfl (fun c a a' w hd hq => PanicOk.root (P := Tryz.prog) (fn := Tryz.f171) (w0 := w0) (base := base) (E := envE) (ro := ro) (r := r) (T' := T') (n' := n') (ρ0 := ρ0) c a a' w hd hq) (by kernel_rfl) ?_
 refine MV.step0 (i := 0) rfl (VAL.move rfl) rfl rfl rfl ?_
 refine MV.lift0 (i := 1) rfl (V.nc h3 rfl) rfl rfl rfl fun x9_2 h4 => ?_
 refine MV.lift0 (i := 2) rfl (V.fa h4 rfl Pdf.fo168_1) rfl rfl rfl fun x10_3 h5 => ?_
 refine MV.lift1 (i := 3) rfl (fun _ z => z) (V.ld hS h5 rfl Pdf.one3) rfl rfl rfl [] (by kernel_rfl) fun x11_4 h6 => ?_
 refine MV.step0 (i := 4) rfl (VAL.move rfl) rfl rfl rfl ?_
 refine MV.lift0 (i := 5) rfl (V.nc h6 rfl) rfl rfl rfl fun x13_5 h7 => ?_
 refine MV.lift0 (i := 6) rfl (V.fa h7 rfl Pdf.fo168_0) rfl rfl rfl fun x14_6 h8 => ?_
 refine MV.lift1 (i := 7) rfl (fun _ z => z) (V.ld hS h8 rfl Pdf.one9) rfl rfl rfl [3] (by kernel_rfl) fun x15_7 h9 => ?_
 refine MV.lift1 (i := 8) rfl (fun _ z => z) (V.lenT h9 rfl Pdf.ls9) rfl rfl rfl [3] (by kernel_rfl) fun x16_8 h10 => ?_
 refine MV.lift1 (i := 9) rfl (fun _ z => z) (V.lt h10 rfl rfl) rfl rfl rfl [] (by kernel_rfl) fun x17_9 h11 => ?_
 refine MV.step1 (i := 10) rfl (fun _ z => z) (VAL.move rfl) rfl rfl rfl [] (by kernel_rfl) ?_
 rcases condK_inv h11 with ⟨e, h12⟩ | ⟨e, h12⟩
 ·
  clear h3 h4 h5 h6 h7 h8 h9 h10 h11
  subst e
  refine MV.step1 (i := 11) rfl (fun _ z => z) (VAL.move rfl) rfl rfl rfl [] (by kernel_rfl) ?_
  refine MV.lift1 (i := 12) rfl (fun _ z => z) (V.nc h12 rfl) rfl rfl rfl [] (by kernel_rfl) fun x20_10 h13 => ?_
  refine MV.lift1 (i := 13) rfl (fun _ z => z) (V.fa h13 rfl Pdf.fo168_0) rfl rfl rfl [] (by kernel_rfl) fun x21_11 h14 => ?_
  refine MV.lift1 (i := 14) rfl (fun _ z => z) (V.ld hS h14 rfl Pdf.one9) rfl rfl rfl [] (by kernel_rfl) fun x22_12 h15 => ?_
  refine MV.step0 (i := 15) rfl (VAL.move rfl) rfl rfl rfl ?_
  refine MV.lift0 (i := 16) rfl (V.nc h15 rfl) rfl rfl rfl fun x24_13 h16 => ?_
  refine MV.lift0 (i := 17) rfl (V.fa h16 rfl Pdf.fo168_1) rfl rfl rfl fun x25_14 h17 => ?_
  refine MV.lift1 (i := 18) rfl (fun _ z => z) (V.ld hS h17 rfl Pdf.one3) rfl rfl rfl [14] (by kernel_rfl) fun x26_15 h18 => ?_
  refine MV.lift1 (i := 19) rfl (fun _ z => z) (V.ix h18 rfl rfl Pdf.st9) rfl rfl rfl [] (by kernel_rfl) fun x27_16 h19 => ?_
  refine MV.force (i := 20) rfl ?_
  refine LV.callQ hS h19 (g104_ok _ _ _ _ ) rfl rfl rfl rfl fun x28_17 h20 => ?_
  refine LV.nextM [] (by kernel_rfl) (fun z => absurd rfl z) ?_
  refine MV.step0 (i := 21) rfl (VAL.move rfl) rfl rfl rfl ?_
  rcases condK_inv h20 with ⟨e, h21⟩ | ⟨e, h21⟩
  ·
   clear h12 h13 h14 h15 h16 h17 h18 h19 h20
   subst e
   refine MV.skip0 (i := 22) rfl rfl rfl rfl ?_
   refine MV.skip0 (i := 23) rfl rfl rfl rfl ?_
   refine MV.skip0 (i := 24) rfl rfl rfl rfl ?_
   refine MV.skip1 (i := 25) rfl (fun _ z => z) rfl rfl rfl [] (by kernel_rfl) ?_
   refine MV.skip0 (i := 26) rfl rfl rfl rfl ?_
   refine MV.skip0 (i := 27) rfl rfl rfl rfl ?_
   refine MV.skip0 (i := 28) rfl rfl rfl rfl ?_
   refine MV.skip1 (i := 29) rfl (fun _ z => z) rfl rfl rfl [25] (by kernel_rfl) ?_
   refine MV.skip1 (i := 30) rfl (fun _ z => z) rfl rfl rfl [] (by kernel_rfl) ?_
   refine MV.force (i := 31) rfl ?_
   refine sk ?_
   refine LV.nextM [] (by kernel_rfl) (fun z => absurd rfl z) ?_
   refine MV.step0 (i := 32) rfl (VAL.pure rfl) rfl rfl rfl ?_
   refine MV.step0 (i := 33) rfl (VAL.pure rfl) rfl rfl rfl ?_
   refine mdn ?_
   refine CV.cond h21 rfl (fun e h22 => ?_) (fun e h22 => ?_)
   ·
    clear h21
    refine CV.skip ?_
    refine PV.thenN ?_
    refine CV.block ?_
    refine CV.region ?_
    refine mv ?_
    refine fl hS h22 Pdf.fo168_1 Pdf.one3 fun x45_18 h23 => ?_
    refine vy (V.add h23 rfl rfl) fun x46_19 h24 => ?_
    refine fa2 h24 Pdf.fo168_1 fun x48_20 h25 => ?_
    refine LV.st hS h25 rfl rfl rfl Pdf.siz3 rfl rfl fun T2 its h26 hS => ?_
    refine LV.done ?_
    refine PV.blockN ?_
    exact pb2 hS h26 ⟨rfl, rfl, trivial⟩
   ·
    clear h21
    cases e
  ·
   clear h12 h13 h14 h15 h16 h17 h18 h19 h20
   subst e
   refine MV.step0 (i := 22) rfl (VAL.move rfl) rfl rfl rfl ?_
   refine MV.lift0 (i := 23) rfl (V.nc h21 rfl) rfl rfl rfl fun x31_21 h27 => ?_
   refine MV.lift0 (i := 24) rfl (V.fa h27 rfl Pdf.fo168_0) rfl rfl rfl fun x32_22 h28 => ?_
   refine MV.lift1 (i := 25) rfl (fun _ z => z) (V.ld hS h28 rfl Pdf.one9) rfl rfl rfl [] (by kernel_rfl) fun x33_23 h29 => ?_
   refine MV.step0 (i := 26) rfl (VAL.move rfl) rfl rfl rfl ?_
   refine MV.lift0 (i := 27) rfl (V.nc h29 rfl) rfl rfl rfl fun x35_24 h30 => ?_
   refine MV.lift0 (i := 28) rfl (V.fa h30 rfl Pdf.fo168_1) rfl rfl rfl fun x36_25 h31 => ?_
   refine MV.lift1 (i := 29) rfl (fun _ z => z) (V.ld hS h31 rfl Pdf.one3) rfl rfl rfl [25] (by kernel_rfl) fun x37_26 h32 => ?_
   refine MV.lift1 (i := 30) rfl (fun _ z => z) (V.ix h32 rfl rfl Pdf.st9) rfl rfl rfl [] (by kernel_rfl) fun x38_27 h33 => ?_
   refine MV.force (i := 31) rfl ?_
   refine LV.callQ hS h33 (g105_ok _ _ _ _ ) rfl rfl rfl rfl fun x39_28 h34 => ?_
   refine LV.nextM [] (by kernel_rfl) (fun z => absurd rfl z) ?_
   refine MV.step0 (i := 32) rfl (VAL.pure rfl) rfl rfl rfl ?_
   refine MV.step0 (i := 33) rfl (VAL.pure rfl) rfl rfl rfl ?_
   refine mdn ?_
   refine CV.cond h34 rfl (fun e h35 => ?_) (fun e h35 => ?_)
   ·
    clear h21 h27 h28 h29 h30 h31 h32 h33 h34
    subst e
    refine CV.skip ?_
    refine PV.thenN ?_
    refine CV.block ?_
    refine CV.region ?_
    refine mv ?_
    refine fl hS h35 Pdf.fo168_1 Pdf.one3 fun x45_29 h36 => ?_
    refine vy (V.add h36 rfl rfl) fun x46_30 h37 => ?_
    refine fa2 h37 Pdf.fo168_1 fun x48_31 h38 => ?_
    refine LV.st hS h38 rfl rfl rfl Pdf.siz3 rfl rfl fun T3 its h39 hS => ?_
    refine LV.done ?_
    refine PV.blockN ?_
    exact pb2 hS h39 ⟨rfl, rfl, trivial⟩
   ·
    clear h21 h27 h28 h29 h30 h31 h32 h33 h34
    subst e
    refine CV.exit ?_
    refine PV.thenE ?_
    refine PV.thenE ?_
    refine PV.blockE ?_
    refine PV.thenN ?_
    refine CV.seq ?_
    refine CV.regionM [(0, .anywhere), (1, .anywhere), (2, .anywhere), (3, .held), (4, .anywhere), (5, .anywhere), (6, .anywhere), (7, .anywhere), (8, .held), (9, .held), (10, .held)] rfl (fun c a a' w hd hq => PanicOk.root (P := Tryz.prog) (fn := Tryz.f171) (w0 := w0) (base := base) (E := envE) (ro := ro) (r := r) (T' := T') (n' := n') (ρ0 := ρ0) c a a' w hd hq) (by kernel_rfl) ?_
    refine MV.step0 (i := 0) rfl (VAL.move rfl) rfl rfl rfl ?_
    refine MV.lift0 (i := 1) rfl (V.nc h35 rfl) rfl rfl rfl fun x50_32 h40 => ?_
    refine MV.lift0 (i := 2) rfl (V.fa h40 rfl Pdf.fo168_0) rfl rfl rfl fun x51_33 h41 => ?_
    refine MV.lift1 (i := 3) rfl (fun _ z => z) (V.ld hS h41 rfl Pdf.one9) rfl rfl rfl [] (by kernel_rfl) fun x52_34 h42 => ?_
    refine MV.step0 (i := 4) rfl (VAL.move rfl) rfl rfl rfl ?_
    refine MV.step0 (i := 5) rfl (VAL.move rfl) rfl rfl rfl ?_
    refine MV.lift0 (i := 6) rfl (V.nc h42 rfl) rfl rfl rfl fun x55_35 h43 => ?_
    refine MV.lift0 (i := 7) rfl (V.fa h43 rfl Pdf.fo168_1) rfl rfl rfl fun x56_36 h44 => ?_
    refine MV.lift1 (i := 8) rfl (fun _ z => z) (V.ld hS h44 rfl Pdf.one3) rfl rfl rfl [3] (by kernel_rfl) fun x57_37 h45 => ?_
    refine MV.lift1 (i := 9) rfl (fun _ z => z) (V.slBo (sliceF_ok h45) rfl rfl rfl Pdf.st9) rfl rfl rfl [] (by kernel_rfl) fun x58_38 h46 => ?_
    refine MV.step1 (i := 10) rfl (fun _ z => z) (VAL.assign rfl) rfl rfl rfl [] (by kernel_rfl) ?_
    refine mdn ?_
    refine CV.seq ?_
    refine sr ?_
    refine LV.call hS h46 (g106_ok _ _ _ ) hP rfl rfl rfl rfl fun x59_39 T4 n4 h47 ρ its hS => ?_
    refine mv ?_
    refine LV.call hS h47 (g87_ok _ _ _ _ _ ) hP rfl rfl rfl rfl fun x61_40 T5 n5 h48 ρ its hS => ?_
    refine dn ?_
    refine CV.cond h48 rfl (fun e h49 => ?_) (fun e h49 => ?_)
    ·
     clear h35 h40 h41 h42 h43 h44 h45 h46 h47 h48
     subst e
     refine sr ?_
     refine mv ?_
     refine mv ?_
     refine mv ?_
     refine LV.call hS h49 (g98_ok _ _ _ _ _ _ _ ) hP rfl rfl rfl rfl fun x65_41 T6 n6 h50 ρ its hS => ?_
     refine dn ?_
     refine CV.ret ?_
     refine PV.thenR ?_
     cases h50
     exact PV.ret (by simp) Tryz.results171 hS RS.nil rfl
    ·
     clear h35 h40 h41 h42 h43 h44 h45 h46 h47 h48
     subst e
     refine CV.skip ?_
     refine PV.thenN ?_
     refine CV.region ?_
     refine mv ?_
     refine mv ?_
     refine mv ?_
     refine LV.call hS h49 (g98_ok _ _ _ _ _ _ _ ) hP rfl rfl rfl rfl fun x69_42 T7 n7 h51 ρ its hS => ?_
     refine LV.done ?_
     cases h51
     exact PV.ret (by simp) Tryz.results171 hS RS.nil rfl
 ·
  clear h3 h4 h5 h6 h7 h8 h9 h10 h11
  subst e
  refine MV.skip1 (i := 11) rfl (fun _ z => z) rfl rfl rfl [] (by kernel_rfl) ?_
  refine MV.skip1 (i := 12) rfl (fun _ z => z) rfl rfl rfl [] (by kernel_rfl) ?_
  refine MV.skip1 (i := 13) rfl (fun _ z => z) rfl rfl rfl [] (by kernel_rfl) ?_
  refine MV.skip1 (i := 14) rfl (fun _ z => z) rfl rfl rfl [] (by kernel_rfl) ?_
  refine MV.skip0 (i := 15) rfl rfl rfl rfl ?_
  refine MV.skip0 (i := 16) rfl rfl rfl rfl ?_
  refine MV.skip0 (i := 17) rfl rfl rfl rfl ?_
  refine MV.skip1 (i := 18) rfl (fun _ z => z) rfl rfl rfl [14] (by kernel_rfl) ?_
  refine MV.skip1 (i := 19) rfl (fun _ z => z) rfl rfl rfl [] (by kernel_rfl) ?_
  refine MV.force (i := 20) rfl ?_
  refine sk ?_
  refine LV.nextM [] (by kernel_rfl) (fun z => absurd rfl z) ?_
  refine MV.skip0 (i := 21) rfl rfl rfl rfl ?_
  refine MV.skip0 (i := 22) rfl rfl rfl rfl ?_
  refine MV.skip0 (i := 23) rfl rfl rfl rfl ?_
  refine MV.skip0 (i := 24) rfl rfl rfl rfl ?_
  refine MV.skip1 (i := 25) rfl (fun _ z => z) rfl rfl rfl [] (by kernel_rfl) ?_
  refine MV.skip0 (i := 26) rfl rfl rfl rfl ?_
  refine MV.skip0 (i := 27) rfl rfl rfl rfl ?_
  refine MV.skip0 (i := 28) rfl rfl rfl rfl ?_
  refine MV.skip1 (i := 29) rfl (fun _ z => z) rfl rfl rfl [25] (by kernel_rfl) ?_
  refine MV.skip1 (i := 30) rfl (fun _ z => z) rfl rfl rfl [] (by kernel_rfl) ?_
  refine MV.force (i := 31) rfl ?_
  refine sk ?_
  refine LV.nextM [] (by kernel_rfl) (fun z => absurd rfl z) ?_
  refine MV.skip0 (i := 32) rfl rfl rfl rfl ?_
  refine MV.step0 (i := 33) rfl (VAL.pure rfl) rfl rfl rfl ?_
  refine mdn ?_
  refine CV.cond h12 rfl (fun e h52 => ?_) (fun e h52 => ?_)
  ·
   clear h12
   cases e
  ·
   clear h12
   refine CV.exit ?_
   refine PV.thenE ?_
   refine PV.thenE ?_
   refine PV.blockE ?_
   refine PV.thenN ?_
   refine CV.seq ?_
   refine CV.regionM [(0, .anywhere), (1, .anywhere), (2, .anywhere), (3, .held), (4, .anywhere), (5, .anywhere), (6, .anywhere), (7, .anywhere), (8, .held), (9, .held), (10, .held)] rfl (fun c a a' w hd hq => PanicOk.root (P := Tryz.prog) (fn := Tryz.f171) (w0 := w0) (base := base) (E := envE) (ro := ro) (r := r) (T' := T') (n' := n') (ρ0 := ρ0) c a a' w hd hq) (by kernel_rfl) ?_
   refine MV.step0 (i := 0) rfl (VAL.move rfl) rfl rfl rfl ?_
   refine MV.lift0 (i := 1) rfl (V.nc h52 rfl) rfl rfl rfl fun x50_43 h53 => ?_
   refine MV.lift0 (i := 2) rfl (V.fa h53 rfl Pdf.fo168_0) rfl rfl rfl fun x51_44 h54 => ?_
   refine MV.lift1 (i := 3) rfl (fun _ z => z) (V.ld hS h54 rfl Pdf.one9) rfl rfl rfl [] (by kernel_rfl) fun x52_45 h55 => ?_
   refine MV.step0 (i := 4) rfl (VAL.move rfl) rfl rfl rfl ?_
   refine MV.step0 (i := 5) rfl (VAL.move rfl) rfl rfl rfl ?_
   refine MV.lift0 (i := 6) rfl (V.nc h55 rfl) rfl rfl rfl fun x55_46 h56 => ?_
   refine MV.lift0 (i := 7) rfl (V.fa h56 rfl Pdf.fo168_1) rfl rfl rfl fun x56_47 h57 => ?_
   refine MV.lift1 (i := 8) rfl (fun _ z => z) (V.ld hS h57 rfl Pdf.one3) rfl rfl rfl [3] (by kernel_rfl) fun x57_48 h58 => ?_
   refine MV.lift1 (i := 9) rfl (fun _ z => z) (V.slBo (sliceF_ok h58) rfl rfl rfl Pdf.st9) rfl rfl rfl [] (by kernel_rfl) fun x58_49 h59 => ?_
   refine MV.step1 (i := 10) rfl (fun _ z => z) (VAL.assign rfl) rfl rfl rfl [] (by kernel_rfl) ?_
   refine mdn ?_
   refine CV.seq ?_
   refine sr ?_
   refine LV.call hS h59 (g106_ok _ _ _ ) hP rfl rfl rfl rfl fun x59_50 T8 n8 h60 ρ its hS => ?_
   refine mv ?_
   refine LV.call hS h60 (g87_ok _ _ _ _ _ ) hP rfl rfl rfl rfl fun x61_51 T9 n9 h61 ρ its hS => ?_
   refine dn ?_
   refine CV.cond h61 rfl (fun e h62 => ?_) (fun e h62 => ?_)
   ·
    clear h52 h53 h54 h55 h56 h57 h58 h59 h60 h61
    subst e
    refine sr ?_
    refine mv ?_
    refine mv ?_
    refine mv ?_
    refine LV.call hS h62 (g98_ok _ _ _ _ _ _ _ ) hP rfl rfl rfl rfl fun x65_52 T10 n10 h63 ρ its hS => ?_
    refine dn ?_
    refine CV.ret ?_
    refine PV.thenR ?_
    cases h63
    exact PV.ret (by simp) Tryz.results171 hS RS.nil rfl
   ·
    clear h52 h53 h54 h55 h56 h57 h58 h59 h60 h61
    subst e
    refine CV.skip ?_
    refine PV.thenN ?_
    refine CV.region ?_
    refine mv ?_
    refine mv ?_
    refine mv ?_
    refine LV.call hS h62 (g98_ok _ _ _ _ _ _ _ ) hP rfl rfl rfl rfl fun x69_53 T11 n11 h64 ρ its hS => ?_
    refine LV.done ?_
    cases h64
    exact PV.ret (by simp) Tryz.results171 hS RS.nil rfl

end Go.Proofs.YtdepmlcnllofiaaGreatDoor.Pd
