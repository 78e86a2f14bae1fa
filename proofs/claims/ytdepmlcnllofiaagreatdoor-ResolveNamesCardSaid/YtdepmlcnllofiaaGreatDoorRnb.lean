/-
  Proved here: plain functions that do what the program's functions do, each with its proof.
-/
import Derived.Test.YtdepmlcnllofiaaGreatDoorRna
namespace Go.Proofs.YtdepmlcnllofiaaGreatDoor.Rn
open Go.EY Go.EX Go.SX Go.RowKit
noncomputable def g102_k1 (ih : FuncId → List HT → List AV → HT → Nat → R) (ro : List HT) (y0 y2 y3 y4 y6 : AV) (T4 : HT) (n4 : Nat) : R :=
 callK (g177 ro y0 (.lit (.string ⟨⟨[41]⟩⟩)) T4 n4) fun x85_6 T5 n5 =>
 faK 1020020 y0 4 fun x88_7 =>
 stK 1020021 T5 x88_7 (.lit (.bool true)) fun T6 =>
 fldK 1020023 T6 ro y0 5 fun x92_8 =>
 faK 1020026 y0 5 fun x95_9 =>
 stK 1020027 T6 x95_9 (.lit (.int .i64 (.ofNat 0))) fun T7 =>
 callK (ih 175 ro [y0] T7 n5) fun x98_10 T8 n8 =>
 bsK 1020031 T8 n8 1 3 1 [(0, x98_10)] fun x99_11 T9 n9 =>
 shrK 1020033 T9 y6 fun T10 =>
 appK 1020032 T10 ro n9 3 1 8 y6 x99_11 fun x100_12 T11 n11 =>
 faK 1020038 y0 4 fun x105_13 =>
 stK 1020039 T11 x105_13 (.lit (.bool false)) fun T12 =>
 faK 1020040 y0 5 fun x107_14 =>
 stK 1020041 T12 x107_14 x92_8 fun T13 =>
 callK (g65 ro y0 (.lit (.int .i64 (.ofNat 45))) y3 y4 x100_12 T13 n11) fun x112_15 T14 n14 =>
 .ok (.val x112_15) T14 n14
noncomputable def g102_k3 (ih : FuncId → List HT → List AV → HT → Nat → R) (ro : List HT) (lp2 : AV → AV → AV → AV → AV → AV → AV → HT → Nat → R) (y0 y2 y3 y4 y6 y7 y8 y50 : AV) (T18 : HT) (n18 : Nat) : R :=
 condK 1020054 y50
 (
  .bad 1020055
 )
 (
  callK (g51 ro y0 (.lit (.int .i64 (.ofNat 1))) T18 n18) fun x55_19 T19 n19 =>
  exK 1020059 x55_19 0 fun x56_20 =>
  exK 1020060 x55_19 1 fun x57_21 =>
  bsK 1020065 T19 n19 1 9 1 [(0, x56_20)] fun x60_22 T20 n20 =>
  shrK 1020067 T20 y7 fun T21 =>
  appK 1020066 T21 ro n20 9 1 16 y7 x60_22 fun x61_23 T22 n22 =>
  callK (g131 ro y0 (.lit (.string ⟨⟨[61]⟩⟩)) T22 n22) fun x63_24 T23 n23 =>
  condK 1020071 x63_24
  (
   .bad 1020072
  )
  (
   callK (g65 ro y0 (.lit (.int .i64 (.ofNat 46))) x57_21 x56_20 (.lit (.slice none 0 0)) T23 n23) fun x78_25 T24 n24 =>
   bsK 1020078 T24 n24 1 3 1 [(0, x78_25)] fun x79_26 T25 n25 =>
   shrK 1020080 T25 y6 fun T26 =>
   appK 1020079 T26 ro n25 3 1 8 y6 x79_26 fun x80_27 T27 n27 =>
   callK (g131 ro y0 (.lit (.string ⟨⟨[44]⟩⟩)) T27 n27) fun x82_28 T28 n28 =>
   notK 1020084 x82_28 fun x83_29 =>
   condK 1020085 x83_29
   (
    g102_k1 ih ro y0 y2 y3 y4 x80_27 T28 n28
   )
   (
    lp2 y0 y2 y3 y4 x80_27 x61_23 y8 T28 n28
   )
  )
 )
noncomputable def g102_b2 (ih : FuncId → List HT → List AV → HT → Nat → R) (ro : List HT) (lp2 : AV → AV → AV → AV → AV → AV → AV → HT → Nat → R) (y0 y2 y3 y4 y6 y7 y8 : AV) (T15 : HT) (n15 : Nat) : R :=
 bsK 1020050 T15 n15 1 9 1 [(0, (.lit (.string ⟨⟨[41]⟩⟩)))] fun x22_16 T16 n16 =>
 callK (g99 ro y0 x22_16 T16 n16) fun x23_17 T17 n17 =>
 notK 1020052 x23_17 fun x24_18 =>
 condK 1020053 x24_18
 (
  callQ 1020087 (g50 (T17 :: ro) y0 .nil n17) fun x26_30 =>
  neK Tryz.prog 3 (.tmp 26) (.const (.int .i64 (.ofNat 1))) 1020088 x26_30 (.lit (.int .i64 (.ofNat 1))) fun x27_31 =>
  condK 1020090 x27_31
  (
   condK 1020093 (.lit (.bool true))
   (
    g102_k3 ih ro lp2 y0 y2 y3 y4 y6 y7 y8 (.lit (.bool true)) T17 n17
   )
   (
    .bad 0
   )
  )
  (
   ncK 1020097 y0 fun x31_32 =>
   faK 1020098 x31_32 0 fun x32_33 =>
   ldK 1020099 T17 ro x32_33 fun x33_34 =>
   ncK 1020101 y0 fun x35_35 =>
   faK 1020102 x35_35 1 fun x36_36 =>
   ldK 1020103 T17 ro x36_36 fun x37_37 =>
   iaK 1020104 x33_34 x37_37 3 fun x38_38 =>
   faK 1020105 x38_38 1 fun x39_39 =>
   ldK 1020106 T17 ro x39_39 fun x40_40 =>
   callQ 1020107 (g87 (T17 :: ro) y7 x40_40 .nil n17) fun x41_41 =>
   condK 1020110 x41_41
   (
    g102_k3 ih ro lp2 y0 y2 y3 y4 y6 y7 y8 (.lit (.bool true)) T17 n17
   )
   (
    condK 1020114 y8
    (
     callQ 1020116 (g179 (T17 :: ro) y0 (.lit (.string ⟨⟨[61]⟩⟩)) .nil n17) fun x47_42 =>
     notK 1020117 x47_42 fun x48_43 =>
     g102_k3 ih ro lp2 y0 y2 y3 y4 y6 y7 (.lit (.bool true)) x48_43 T17 n17
    )
    (
     g102_k3 ih ro lp2 y0 y2 y3 y4 y6 y7 (.lit (.bool false)) (.lit (.bool false)) T17 n17
    )
   )
  )
 )
 (
  g102_k1 ih ro y0 y2 y3 y4 y6 T17 n17
 )
noncomputable def g102 (ih : FuncId → List HT → List AV → HT → Nat → R) (ro : List HT) (a0 : AV) (T : HT) (nx : Nat) : R :=
 callK (g177 ro a0 (.lit (.string ⟨⟨[100, 101, 102]⟩⟩)) T nx) fun x13_1 T1 n1 =>
 callK (g51 ro a0 (.lit (.int .i64 (.ofNat 1))) T1 n1) fun x16_2 T2 n2 =>
 exK 1020008 x16_2 0 fun x17_3 =>
 exK 1020009 x16_2 1 fun x18_4 =>
 callK (g177 ro a0 (.lit (.string ⟨⟨[40]⟩⟩)) T2 n2) fun x20_5 T3 n3 =>
 lpf7 1020048 (g102_b2 ih ro) 100000 a0 (.lit (.int .i64 (.ofNat 0))) x13_1 x17_3 (.lit (.slice none 0 0)) (.lit (.slice none 0 0)) (.lit (.bool false)) T3 n3
theorem g102_ok (ih : FuncId → List HT → List AV → HT → Nat → R) (hI : ∀ f ro args T nx, GOk Tryz.prog envE f args ro T nx (ih f ro args T nx)) (ro : List HT) (a0 : AV) (T : HT) (nx : Nat) : GOk Tryz.prog envE 102 [a0] ro T nx (g102 ih ro a0 T nx) := by
 refine GOk.of_body Tryz.func102 rfl Tryz.ntmps102 (by kernel_rfl) rfl fun r T' n' h1 w0 base ρ0 its hS hP => ?_
 have X : CtxW envE ρ0 ro r T' n' := trivial
 unfold g102 at h1
 refine sr ?_
 refine as_ ?_
 refine dn ?_
 refine sr ?_
 refine mv ?_
 refine LV.call hS h1 (g177_ok _ _ _ _ _ ) hP rfl rfl rfl rfl fun x13_1 T1 n1 h2 ρ its hS => ?_
 refine as_ ?_
 refine dn ?_
 refine sr ?_
 refine mv ?_
 refine LV.call hS h2 (g51_ok _ _ _ _ _ ) hP rfl rfl rfl rfl fun x16_2 T2 n2 h3 ρ its hS => ?_
 refine mv ?_
 refine vy (V.ex h3 rfl) fun x17_3 h4 => ?_
 refine vy (V.ex h4 rfl) fun x18_4 h5 => ?_
 refine as_ ?_
 refine as_ ?_
 refine dn ?_
 refine sr ?_
 refine mv ?_
 refine LV.call hS h5 (g177_ok _ _ _ _ _ ) hP rfl rfl rfl rfl fun x20_5 T3 n3 h6 ρ its hS => ?_
 refine dn ?_
 refine sr ?_
 refine as_ ?_
 refine dn ?_
 refine sr ?_
 refine as_ ?_
 refine dn ?_
 refine sr ?_
 refine as_ ?_
 refine dn ?_
 refine cs5 X 0 2 3 4 6 [] (g102_k1 ih ro) ?_ ?_
 ·
  refine CV.block ?_
  refine cl7 X 0 2 3 4 6 7 8 [] hS h6 ⟨rfl, rfl, rfl, rfl, rfl, rfl, rfl, trivial⟩ ?_
  intro f2 y0 y2 y3 y4 y6 y7 y8 T15 n15 ρ its hS h23
  unfold g102_b2 at h23
  clear h1 h2 h3 h4 h5 h6
  refine CV.seq ?_
  refine sr ?_
  refine mv ?_
  refine LV.bslice hS h23 rfl rfl Rnf.el46 rfl rfl rfl rfl fun x22_16 T16 n16 h24 ρ its hS hdr => ?_
  refine LV.call hS h24 (g99_ok _ _ _ _ _ ) hP rfl rfl rfl rfl fun x23_17 T17 n17 h25 ρ its hS => ?_
  refine vy (V.not h25 rfl) fun x24_18 h26 => ?_
  refine dn ?_
  refine CV.cond h26 rfl (fun e h27 => ?_) (fun e h27 => ?_)
  ·
   clear h23 h24 h25 h26
   subst e
   refine CV.skip ?_
   refine PV.thenN ?_
   refine CV.block ?_
   refine CV.seq ?_
   refine cs8 X 0 2 3 4 6 7 8 50 [] (g102_k3 ih ro (lpf7 1020048 (g102_b2 ih ro) f2)) ?_ ?_
   ·
    refine CV.regionM [(0, .anywhere), (1, .alone), (2, .anywhere), (3, .anywhere), (4, .anywhere), (5, .anywhere), (6, .anywhere), (7, .anywhere), (8, .held), (9, .anywhere), (10, .anywhere), (11, .anywhere), (12, .held), (13, .held), (14, .held), (15, .held), (16, .alone), (17, .anywhere), (18, .anywhere), (19, .anywhere), (20, .anywhere), (21, .anywhere), (22, .alone), (23, .anywhere), (24, .anywhere), (25, .anywhere)] rfl (fun c a a' w hd hq => PanicOk.root (P := Tryz.prog) (fn := Tryz.f102) (w0 := w0) (base := base) (E := envE) (ro := ro) (r := r) (T' := T') (n' := n') (ρ0 := ρ0) c a a' w hd hq) (by kernel_rfl) ?_
    refine MV.step0 (i := 0) rfl (VAL.move rfl) rfl rfl rfl ?_
    refine MV.force (i := 1) rfl ?_
    refine LV.callQ hS h27 (g50_ok _ _ _ _ ) rfl rfl rfl rfl fun x26_30 h45 => ?_
    refine LV.nextM [] (by kernel_rfl) (fun z => absurd rfl z) ?_
    refine MV.lift0 (i := 2) rfl (V.ne h45 rfl rfl) rfl rfl rfl fun x27_31 h46 => ?_
    refine MV.step0 (i := 3) rfl (VAL.move rfl) rfl rfl rfl ?_
    rcases condK_inv h46 with ⟨e, h47⟩ | ⟨e, h47⟩
    ·
     clear h27 h45 h46
     subst e
     refine MV.skip0 (i := 4) rfl rfl rfl rfl ?_
     refine MV.skip0 (i := 5) rfl rfl rfl rfl ?_
     refine MV.skip0 (i := 6) rfl rfl rfl rfl ?_
     refine MV.skip0 (i := 7) rfl rfl rfl rfl ?_
     refine MV.skip1 (i := 8) rfl (fun _ z => z) rfl rfl rfl [] (by kernel_rfl) ?_
     refine MV.skip0 (i := 9) rfl rfl rfl rfl ?_
     refine MV.skip0 (i := 10) rfl rfl rfl rfl ?_
     refine MV.skip0 (i := 11) rfl rfl rfl rfl ?_
     refine MV.skip1 (i := 12) rfl (fun _ z => z) rfl rfl rfl [8] (by kernel_rfl) ?_
     refine MV.skip1 (i := 13) rfl (fun _ z => z) rfl rfl rfl [] (by kernel_rfl) ?_
     refine MV.skip1 (i := 14) rfl (fun _ z => z) rfl rfl rfl [] (by kernel_rfl) ?_
     refine MV.skip1 (i := 15) rfl (fun _ z => z) rfl rfl rfl [] (by kernel_rfl) ?_
     refine MV.force (i := 16) rfl ?_
     refine sk ?_
     refine LV.nextM [] (by kernel_rfl) (fun z => absurd rfl z) ?_
     refine MV.step0 (i := 17) rfl (VAL.pure rfl) rfl rfl rfl ?_
     refine MV.step0 (i := 18) rfl (VAL.move rfl) rfl rfl rfl ?_
     rcases condK_inv h47 with ⟨e, h48⟩ | ⟨e, h48⟩
     ·
      clear h47
      refine MV.skip0 (i := 19) rfl rfl rfl rfl ?_
      refine MV.skip0 (i := 20) rfl rfl rfl rfl ?_
      refine MV.skip0 (i := 21) rfl rfl rfl rfl ?_
      refine MV.force (i := 22) rfl ?_
      refine sk ?_
      refine LV.nextM [] (by kernel_rfl) (fun z => absurd rfl z) ?_
      refine MV.skip0 (i := 23) rfl rfl rfl rfl ?_
      refine MV.skip0 (i := 24) rfl rfl rfl rfl ?_
      refine MV.step0 (i := 25) rfl (VAL.pure rfl) rfl rfl rfl ?_
      refine MV.done ?_
      exact pa8 hS h48 ⟨rfl, rfl, rfl, rfl, rfl, rfl, rfl, rfl, trivial⟩
     ·
      clear h47
      cases e
    ·
     clear h27 h45 h46
     subst e
     refine MV.step0 (i := 4) rfl (VAL.move rfl) rfl rfl rfl ?_
     refine MV.step0 (i := 5) rfl (VAL.move rfl) rfl rfl rfl ?_
     refine MV.lift0 (i := 6) rfl (V.nc h47 rfl) rfl rfl rfl fun x31_32 h49 => ?_
     refine MV.lift0 (i := 7) rfl (V.fa h49 rfl Rnf.fo98_0) rfl rfl rfl fun x32_33 h50 => ?_
     refine MV.lift1 (i := 8) rfl (fun _ z => z) (V.ld hS h50 rfl Rnf.one96) rfl rfl rfl [] (by kernel_rfl) fun x33_34 h51 => ?_
     refine MV.step0 (i := 9) rfl (VAL.move rfl) rfl rfl rfl ?_
     refine MV.lift0 (i := 10) rfl (V.nc h51 rfl) rfl rfl rfl fun x35_35 h52 => ?_
     refine MV.lift0 (i := 11) rfl (V.fa h52 rfl Rnf.fo98_1) rfl rfl rfl fun x36_36 h53 => ?_
     refine MV.lift1 (i := 12) rfl (fun _ z => z) (V.ld hS h53 rfl Rnf.one3) rfl rfl rfl [8] (by kernel_rfl) fun x37_37 h54 => ?_
     refine MV.lift1 (i := 13) rfl (fun _ z => z) (V.ia h54 rfl rfl Rnf.el96) rfl rfl rfl [] (by kernel_rfl) fun x38_38 h55 => ?_
     refine MV.lift1 (i := 14) rfl (fun _ z => z) (V.fa h55 rfl Rnf.fo139_1) rfl rfl rfl [] (by kernel_rfl) fun x39_39 h56 => ?_
     refine MV.lift1 (i := 15) rfl (fun _ z => z) (V.ld hS h56 rfl Rnf.one9) rfl rfl rfl [] (by kernel_rfl) fun x40_40 h57 => ?_
     refine MV.force (i := 16) rfl ?_
     refine LV.callQ hS h57 (g87_ok _ _ _ _ _ ) rfl rfl rfl rfl fun x41_41 h58 => ?_
     refine LV.nextM [] (by kernel_rfl) (fun z => absurd rfl z) ?_
     refine MV.step0 (i := 17) rfl (VAL.pure rfl) rfl rfl rfl ?_
     refine MV.step0 (i := 18) rfl (VAL.move rfl) rfl rfl rfl ?_
     rcases condK_inv h58 with ⟨e, h59⟩ | ⟨e, h59⟩
     ·
      clear h47 h49 h50 h51 h52 h53 h54 h55 h56 h57 h58
      subst e
      refine MV.skip0 (i := 19) rfl rfl rfl rfl ?_
      refine MV.skip0 (i := 20) rfl rfl rfl rfl ?_
      refine MV.skip0 (i := 21) rfl rfl rfl rfl ?_
      refine MV.force (i := 22) rfl ?_
      refine sk ?_
      refine LV.nextM [] (by kernel_rfl) (fun z => absurd rfl z) ?_
      refine MV.skip0 (i := 23) rfl rfl rfl rfl ?_
      refine MV.skip0 (i := 24) rfl rfl rfl rfl ?_
      refine MV.step0 (i := 25) rfl (VAL.pure rfl) rfl rfl rfl ?_
      refine MV.done ?_
      exact pa8 hS h59 ⟨rfl, rfl, rfl, rfl, rfl, rfl, rfl, rfl, trivial⟩
     ·
      clear h47 h49 h50 h51 h52 h53 h54 h55 h56 h57 h58
      subst e
      refine MV.step0 (i := 19) rfl (VAL.move rfl) rfl rfl rfl ?_
      refine MV.step0 (i := 20) rfl (VAL.move rfl) rfl rfl rfl ?_
      rcases condK_inv h59 with ⟨e, h60⟩ | ⟨e, h60⟩
      ·
       clear h59
       subst e
       refine MV.step0 (i := 21) rfl (VAL.move rfl) rfl rfl rfl ?_
       refine MV.force (i := 22) rfl ?_
       refine LV.callQ hS h60 (g179_ok _ _ _ _ _ ) rfl rfl rfl rfl fun x47_42 h61 => ?_
       refine LV.nextM [] (by kernel_rfl) (fun z => absurd rfl z) ?_
       refine MV.lift0 (i := 23) rfl (V.not h61 rfl) rfl rfl rfl fun x48_43 h62 => ?_
       refine MV.step0 (i := 24) rfl (VAL.pure rfl) rfl rfl rfl ?_
       refine MV.step0 (i := 25) rfl (VAL.pure rfl) rfl rfl rfl ?_
       refine MV.done ?_
       exact pa8 hS h62 ⟨rfl, rfl, rfl, rfl, rfl, rfl, rfl, rfl, trivial⟩
      ·
       clear h59
       subst e
       refine MV.skip0 (i := 21) rfl rfl rfl rfl ?_
       refine MV.force (i := 22) rfl ?_
       refine sk ?_
       refine LV.nextM [] (by kernel_rfl) (fun z => absurd rfl z) ?_
       refine MV.skip0 (i := 23) rfl rfl rfl rfl ?_
       refine MV.step0 (i := 24) rfl (VAL.pure rfl) rfl rfl rfl ?_
       refine MV.step0 (i := 25) rfl (VAL.pure rfl) rfl rfl rfl ?_
       refine MV.done ?_
       exact pa8 hS h60 ⟨rfl, rfl, rfl, rfl, rfl, rfl, rfl, rfl, trivial⟩
   ·
    intro y0 y2 y3 y4 y6 y7 y8 y50 T18 n18 ρ its hS h28
    unfold g102_k3 at h28
    clear h27
    refine CV.cond h28 rfl (fun e h29 => ?_) (fun e h29 => ?_)
    ·
     clear h28
     subst e
     cases h29
    ·
     clear h28
     subst e
     refine CV.skip ?_
     refine PV.thenN ?_
     refine sr ?_
     refine mv ?_
     refine LV.call hS h29 (g51_ok _ _ _ _ _ ) hP rfl rfl rfl rfl fun x55_19 T19 n19 h30 ρ its hS => ?_
     refine mv ?_
     refine vy (V.ex h30 rfl) fun x56_20 h31 => ?_
     refine vy (V.ex h31 rfl) fun x57_21 h32 => ?_
     refine as_ ?_
     refine as_ ?_
     refine dn ?_
     refine sr ?_
     refine mv ?_
     refine mv ?_
     refine LV.bslice hS h32 rfl rfl Rnf.el46 rfl rfl rfl rfl fun x60_22 T20 n20 h33 ρ its hS hdr => ?_
     obtain ⟨T21, its1, h34, hS, hW⟩ := shrK_inv hS h33
     refine LV.world hW ?_
     refine LV.app hS h34 rfl rfl rfl rfl Rnf.el46 rfl rfl rfl fun x61_23 T22 n22 h35 ρ its hS => ?_
     refine as_ ?_
     refine dn ?_
     refine CV.seq ?_
     refine sr ?_
     refine mv ?_
     refine LV.call hS h35 (g131_ok _ _ _ _ _ ) hP rfl rfl rfl rfl fun x63_24 T23 n23 h36 ρ its hS => ?_
     refine dn ?_
     refine CV.cond h36 rfl (fun e h37 => ?_) (fun e h37 => ?_)
     ·
      clear h29 h30 h31 h32 h33 h34 h35 h36
      subst e
      cases h37
     ·
      clear h29 h30 h31 h32 h33 h34 h35 h36
      subst e
      refine CV.region ?_
      refine mv ?_
      refine mv ?_
      refine mv ?_
      refine mv ?_
      refine LV.call hS h37 (g65_ok _ _ _ _ _ _ _ _ ) hP rfl rfl rfl rfl fun x78_25 T24 n24 h38 ρ its hS => ?_
      refine LV.bslice hS h38 rfl rfl Rnf.el30 rfl rfl rfl rfl fun x79_26 T25 n25 h39 ρ its hS hdr => ?_
      obtain ⟨T26, its1, h40, hS, hW⟩ := shrK_inv hS h39
      refine LV.world hW ?_
      refine LV.app hS h40 rfl rfl rfl rfl Rnf.el30 rfl rfl rfl fun x80_27 T27 n27 h41 ρ its hS => ?_
      refine as_ ?_
      refine dn ?_
      refine sr ?_
      refine mv ?_
      refine LV.call hS h41 (g131_ok _ _ _ _ _ ) hP rfl rfl rfl rfl fun x82_28 T28 n28 h42 ρ its hS => ?_
      refine vy (V.not h42 rfl) fun x83_29 h43 => ?_
      refine dn ?_
      refine CV.cond h43 rfl (fun e h44 => ?_) (fun e h44 => ?_)
      ·
       clear h37 h38 h39 h40 h41 h42 h43
       subst e
       refine CV.exit ?_
       refine PV.blockO rfl ?_
       refine PV.thenE ?_
       refine PV.blockE ?_
       exact pa5 hS h44 ⟨rfl, rfl, rfl, rfl, rfl, trivial⟩
      ·
       clear h37 h38 h39 h40 h41 h42 h43
       subst e
       refine CV.skip ?_
       refine PV.blockN ?_
       exact pb7 hS h44 ⟨rfl, rfl, rfl, rfl, rfl, rfl, rfl, trivial⟩
  ·
   clear h23 h24 h25 h26
   subst e
   refine CV.exit ?_
   refine PV.thenE ?_
   refine PV.thenE ?_
   refine PV.blockE ?_
   exact pa5 hS h27 ⟨rfl, rfl, rfl, rfl, rfl, trivial⟩
 ·
  intro y0 y2 y3 y4 y6 T4 n4 ρ its hS h7
  unfold g102_k1 at h7
  clear h1 h2 h3 h4 h5 h6
  refine sr ?_
  refine mv ?_
  refine LV.call hS h7 (g177_ok _ _ _ _ _ ) hP rfl rfl rfl rfl fun x85_6 T5 n5 h8 ρ its hS => ?_
  refine dn ?_
  refine sr ?_
  refine mv ?_
  refine fa2 h8 Rnf.fo98_4 fun x88_7 h9 => ?_
  refine LV.st hS h9 rfl rfl rfl Rnf.siz4 rfl rfl fun T6 its h10 hS => ?_
  refine dn ?_
  refine sr ?_
  refine mv ?_
  refine fl hS h10 Rnf.fo98_5 Rnf.one3 fun x92_8 h11 => ?_
  refine as_ ?_
  refine dn ?_
  refine sr ?_
  refine mv ?_
  refine fa2 h11 Rnf.fo98_5 fun x95_9 h12 => ?_
  refine LV.st hS h12 rfl rfl rfl Rnf.siz3 rfl rfl fun T7 its h13 hS => ?_
  refine dn ?_
  refine sr ?_
  refine mv ?_
  refine mv ?_
  refine LV.call hS h13 (hI _ _ _ _ _) hP rfl rfl rfl rfl fun x98_10 T8 n8 h14 ρ its hS => ?_
  refine LV.bslice hS h14 rfl rfl Rnf.el30 rfl rfl rfl rfl fun x99_11 T9 n9 h15 ρ its hS hdr => ?_
  obtain ⟨T10, its1, h16, hS, hW⟩ := shrK_inv hS h15
  refine LV.world hW ?_
  refine LV.app hS h16 rfl rfl rfl rfl Rnf.el30 rfl rfl rfl fun x100_12 T11 n11 h17 ρ its hS => ?_
  refine as_ ?_
  refine dn ?_
  refine sr ?_
  refine mv ?_
  refine mv ?_
  refine mv ?_
  refine fa2 h17 Rnf.fo98_4 fun x105_13 h18 => ?_
  refine LV.st hS h18 rfl rfl rfl Rnf.siz4 rfl rfl fun T12 its h19 hS => ?_
  refine fa2 h19 Rnf.fo98_5 fun x107_14 h20 => ?_
  refine LV.st hS h20 rfl rfl rfl Rnf.siz3 rfl rfl fun T13 its h21 hS => ?_
  refine dn ?_
  refine sr ?_
  refine mv ?_
  refine mv ?_
  refine mv ?_
  refine mv ?_
  refine LV.call hS h21 (g65_ok _ _ _ _ _ _ _ _ ) hP rfl rfl rfl rfl fun x112_15 T14 n14 h22 ρ its hS => ?_
  refine as_ ?_
  refine dn ?_
  refine CV.ret ?_
  cases h22
  exact PV.ret (by simp) Tryz.results102 hS (RS.tmp rfl RS.nil) rfl
noncomputable def g103 (ih : FuncId → List HT → List AV → HT → Nat → R) (ro : List HT) (a0 a1 : AV) (T : HT) (nx : Nat) : R :=
 callK (g129 ro a0 T nx) fun x10_1 T1 n1 =>
 callK (g131 ro a0 (.lit (.string ⟨⟨[112, 97, 115, 115]⟩⟩)) T1 n1) fun x13_2 T2 n2 =>
 condK 1030008 x13_2
 (
  .bad 1030009
 )
 (
  bsK 1030011 T2 n2 2 9 1 [(0, (.lit (.string ⟨⟨[98, 114, 101, 97, 107]⟩⟩))), (1, (.lit (.string ⟨⟨[99, 111, 110, 116, 105, 110, 117, 101]⟩⟩)))] fun x19_3 T3 n3 =>
  callK (g99 ro a0 x19_3 T3 n3) fun x20_4 T4 n4 =>
  condK 1030014 x20_4
  (
   .bad 1030015
  )
  (
   bsK 1030017 T4 n4 1 9 1 [(0, (.lit (.string ⟨⟨[114, 101, 116, 117, 114, 110]⟩⟩)))] fun x45_5 T5 n5 =>
   callK (g99 ro a0 x45_5 T5 n5) fun x46_6 T6 n6 =>
   condK 1030020 x46_6
   (
    callK (ih 180 ro [a0] T6 n6) fun x48_7 T7 n7 =>
    .ok (.val x48_7) T7 n7
   )
   (
    bsK 1030025 T6 n6 1 9 1 [(0, (.lit (.string ⟨⟨[108, 111, 97, 100]⟩⟩)))] fun x51_8 T8 n8 =>
    callK (g99 ro a0 x51_8 T8 n8) fun x52_9 T9 n9 =>
    condK 1030028 x52_9
    (
     .bad 1030029
    )
    (
     callK (ih 49 ro [a0] T9 n9) fun x60_10 T10 n10 =>
     callK (g129 ro a0 T10 n10) fun x62_11 T11 n11 =>
     bsK 1030037 T11 n11 1 9 1 [(0, (.lit (.string ⟨⟨[61]⟩⟩)))] fun x65_12 T12 n12 =>
     callK (g99 ro a0 x65_12 T12 n12) fun x66_13 T13 n13 =>
     condK 1030040 x66_13
     (
      callK (scc1 4000 182 ro [a0, x60_10] T13 n13) fun x69_14 T14 n14 =>
      notK 1030044 x69_14 fun x70_15 =>
      condK 1030045 x70_15
      (
       .bad 1030046
      )
      (
       fldK 1030048 T14 ro a0 1 fun x76_16 =>
       addK Tryz.prog 3 (.tmp 76) (.const (.int .i64 (.ofNat 1))) 1030049 x76_16 (.lit (.int .i64 (.ofNat 1))) fun x77_17 =>
       faK 1030050 a0 1 fun x79_18 =>
       stK 1030051 T14 x79_18 x77_17 fun T15 =>
       callK (ih 49 ro [a0] T15 n14) fun x84_19 T16 n16 =>
       bsK 1030057 T16 n16 2 3 1 [(0, x60_10), (1, x84_19)] fun x85_20 T17 n17 =>
       callK (g65 ro a0 (.lit (.int .i64 (.ofNat 36))) x62_11 (.lit (.string ⟨⟨[]⟩⟩)) x85_20 T17 n17) fun x86_21 T18 n18 =>
       .ok (.val x86_21) T18 n18
      )
     )
     (
      bsK 1030061 T13 n13 1 9 1 [(0, (.lit (.string ⟨⟨[43, 61]⟩⟩)))] fun x89_22 T19 n19 =>
      callK (g99 ro a0 x89_22 T19 n19) fun x90_23 T20 n20 =>
      condK 1030064 x90_23
      (
       .bad 1030065
      )
      (
       fldK 1030068 T20 ro a0 2 fun x125_24 =>
       iaK 1030070 x125_24 x60_10 5 fun x127_25 =>
       faK 1030071 x127_25 2 fun x128_26 =>
       ldK 1030072 T20 ro x128_26 fun x129_27 =>
       bsK 1030074 T20 n20 1 3 1 [(0, x60_10)] fun x131_28 T21 n21 =>
       callK (g65 ro a0 (.lit (.int .i64 (.ofNat 35))) x129_27 (.lit (.string ⟨⟨[]⟩⟩)) x131_28 T21 n21) fun x132_29 T22 n22 =>
       .ok (.val x132_29) T22 n22
      )
     )
    )
   )
  )
 )
theorem g103_ok (ih : FuncId → List HT → List AV → HT → Nat → R) (hI : ∀ f ro args T nx, GOk Tryz.prog envE f args ro T nx (ih f ro args T nx)) (ro : List HT) (a0 a1 : AV) (T : HT) (nx : Nat) : GOk Tryz.prog envE 103 [a0, a1] ro T nx (g103 ih ro a0 a1 T nx) := by
 refine GOk.of_body Tryz.func103 rfl Tryz.ntmps103 (by kernel_rfl) rfl fun r T' n' h1 w0 base ρ0 its hS hP => ?_
 have X : CtxW envE ρ0 ro r T' n' := trivial
 unfold g103 at h1
 refine sr ?_
 refine as_ ?_
 refine dn ?_
 refine sr ?_
 refine mv ?_
 refine LV.call hS h1 (g129_ok _ _ _ _ ) hP rfl rfl rfl rfl fun x10_1 T1 n1 h2 ρ its hS => ?_
 refine as_ ?_
 refine dn ?_
 refine CV.seq ?_
 refine CV.block ?_
 refine sr ?_
 refine mv ?_
 refine LV.call hS h2 (g131_ok _ _ _ _ _ ) hP rfl rfl rfl rfl fun x13_2 T2 n2 h3 ρ its hS => ?_
 refine as_ ?_
 refine dn ?_
 refine CV.cond h3 rfl (fun e h4 => ?_) (fun e h4 => ?_)
 ·
  clear h1 h2 h3
  subst e
  cases h4
 ·
  clear h1 h2 h3
  subst e
  refine sr ?_
  refine mv ?_
  refine LV.bslice hS h4 rfl rfl Rnf.el46 rfl rfl rfl rfl fun x19_3 T3 n3 h5 ρ its hS hdr => ?_
  refine LV.call hS h5 (g99_ok _ _ _ _ _ ) hP rfl rfl rfl rfl fun x20_4 T4 n4 h6 ρ its hS => ?_
  refine as_ ?_
  refine dn ?_
  refine CV.cond h6 rfl (fun e h7 => ?_) (fun e h7 => ?_)
  ·
   clear h4 h5 h6
   subst e
   cases h7
  ·
   clear h4 h5 h6
   subst e
   refine sr ?_
   refine mv ?_
   refine LV.bslice hS h7 rfl rfl Rnf.el46 rfl rfl rfl rfl fun x45_5 T5 n5 h8 ρ its hS hdr => ?_
   refine LV.call hS h8 (g99_ok _ _ _ _ _ ) hP rfl rfl rfl rfl fun x46_6 T6 n6 h9 ρ its hS => ?_
   refine as_ ?_
   refine dn ?_
   refine CV.cond h9 rfl (fun e h10 => ?_) (fun e h10 => ?_)
   ·
    clear h7 h8 h9
    subst e
    refine sr ?_
    refine mv ?_
    refine LV.call hS h10 (hI _ _ _ _ _) hP rfl rfl rfl rfl fun x48_7 T7 n7 h11 ρ its hS => ?_
    refine as_ ?_
    refine dn ?_
    refine CV.ret ?_
    refine PV.blockR ?_
    refine PV.thenR ?_
    cases h11
    exact PV.ret (by simp) Tryz.results103 hS (RS.tmp rfl RS.nil) rfl
   ·
    clear h7 h8 h9
    subst e
    refine sr ?_
    refine mv ?_
    refine LV.bslice hS h10 rfl rfl Rnf.el46 rfl rfl rfl rfl fun x51_8 T8 n8 h12 ρ its hS hdr => ?_
    refine LV.call hS h12 (g99_ok _ _ _ _ _ ) hP rfl rfl rfl rfl fun x52_9 T9 n9 h13 ρ its hS => ?_
    refine as_ ?_
    refine dn ?_
    refine CV.cond h13 rfl (fun e h14 => ?_) (fun e h14 => ?_)
    ·
     clear h10 h12 h13
     subst e
     cases h14
    ·
     clear h10 h12 h13
     subst e
     refine CV.skip ?_
     refine PV.blockN ?_
     refine PV.thenN ?_
     refine sr ?_
     refine mv ?_
     refine LV.call hS h14 (hI _ _ _ _ _) hP rfl rfl rfl rfl fun x60_10 T10 n10 h15 ρ its hS => ?_
     refine as_ ?_
     refine dn ?_
     refine sr ?_
     refine mv ?_
     refine LV.call hS h15 (g129_ok _ _ _ _ ) hP rfl rfl rfl rfl fun x62_11 T11 n11 h16 ρ its hS => ?_
     refine as_ ?_
     refine dn ?_
     refine CV.seq ?_
     refine CV.block ?_
     refine sr ?_
     refine mv ?_
     refine LV.bslice hS h16 rfl rfl Rnf.el46 rfl rfl rfl rfl fun x65_12 T12 n12 h17 ρ its hS hdr => ?_
     refine LV.call hS h17 (g99_ok _ _ _ _ _ ) hP rfl rfl rfl rfl fun x66_13 T13 n13 h18 ρ its hS => ?_
     refine as_ ?_
     refine dn ?_
     refine CV.cond h18 rfl (fun e h19 => ?_) (fun e h19 => ?_)
     ·
      clear h14 h15 h16 h17 h18
      subst e
      refine CV.seq ?_
      refine sr ?_
      refine mv ?_
      refine mv ?_
      refine LV.call hS h19 (scc1_ok _ _ _ _ _ _) hP rfl rfl rfl rfl fun x69_14 T14 n14 h20 ρ its hS => ?_
      refine vy (V.not h20 rfl) fun x70_15 h21 => ?_
      refine dn ?_
      refine CV.cond h21 rfl (fun e h22 => ?_) (fun e h22 => ?_)
      ·
       clear h19 h20 h21
       subst e
       cases h22
      ·
       clear h19 h20 h21
       subst e
       refine CV.skip ?_
       refine PV.thenN ?_
       refine sr ?_
       refine mv ?_
       refine fl hS h22 Rnf.fo98_1 Rnf.one3 fun x76_16 h23 => ?_
       refine vy (V.add h23 rfl rfl) fun x77_17 h24 => ?_
       refine fa2 h24 Rnf.fo98_1 fun x79_18 h25 => ?_
       refine LV.st hS h25 rfl rfl rfl Rnf.siz3 rfl rfl fun T15 its h26 hS => ?_
       refine dn ?_
       refine sr ?_
       refine mv ?_
       refine mv ?_
       refine mv ?_
       refine mv ?_
       refine LV.call hS h26 (hI _ _ _ _ _) hP rfl rfl rfl rfl fun x84_19 T16 n16 h27 ρ its hS => ?_
       refine LV.bslice hS h27 rfl rfl Rnf.el30 rfl rfl rfl rfl fun x85_20 T17 n17 h28 ρ its hS hdr => ?_
       refine LV.call hS h28 (g65_ok _ _ _ _ _ _ _ _ ) hP rfl rfl rfl rfl fun x86_21 T18 n18 h29 ρ its hS => ?_
       refine as_ ?_
       refine dn ?_
       refine CV.ret ?_
       refine PV.blockR ?_
       refine PV.thenR ?_
       cases h29
       exact PV.ret (by simp) Tryz.results103 hS (RS.tmp rfl RS.nil) rfl
     ·
      clear h14 h15 h16 h17 h18
      subst e
      refine sr ?_
      refine mv ?_
      refine LV.bslice hS h19 rfl rfl Rnf.el46 rfl rfl rfl rfl fun x89_22 T19 n19 h30 ρ its hS hdr => ?_
      refine LV.call hS h30 (g99_ok _ _ _ _ _ ) hP rfl rfl rfl rfl fun x90_23 T20 n20 h31 ρ its hS => ?_
      refine as_ ?_
      refine dn ?_
      refine CV.cond h31 rfl (fun e h32 => ?_) (fun e h32 => ?_)
      ·
       clear h19 h30 h31
       subst e
       cases h32
      ·
       clear h19 h30 h31
       subst e
       refine CV.skip ?_
       refine PV.blockN ?_
       refine PV.thenN ?_
       refine sr ?_
       refine mv ?_
       refine mv ?_
       refine fl hS h32 Rnf.fo98_2 Rnf.one23 fun x125_24 h33 => ?_
       refine mv ?_
       refine vy (V.ia h33 rfl rfl Rnf.el23) fun x127_25 h34 => ?_
       refine vy (V.fa h34 rfl Rnf.fo32_2) fun x128_26 h35 => ?_
       refine vy (V.ld hS h35 rfl Rnf.one3) fun x129_27 h36 => ?_
       refine mv ?_
       refine LV.bslice hS h36 rfl rfl Rnf.el30 rfl rfl rfl rfl fun x131_28 T21 n21 h37 ρ its hS hdr => ?_
       refine LV.call hS h37 (g65_ok _ _ _ _ _ _ _ _ ) hP rfl rfl rfl rfl fun x132_29 T22 n22 h38 ρ its hS => ?_
       refine as_ ?_
       refine dn ?_
       refine CV.ret ?_
       cases h38
       exact PV.ret (by simp) Tryz.results103 hS (RS.tmp rfl RS.nil) rfl
noncomputable def g130 (ih : FuncId → List HT → List AV → HT → Nat → R) (ro : List HT) (a0 : AV) (T : HT) (nx : Nat) : R :=
 callK (ih 189 ro [a0] T nx) fun x8_1 T1 n1 =>
 bsK 1300006 T1 n1 1 9 1 [(0, (.lit (.string ⟨⟨[105, 102]⟩⟩)))] fun x10_2 T2 n2 =>
 callK (g99 ro a0 x10_2 T2 n2) fun x11_3 T3 n3 =>
 notK 1300008 x11_3 fun x12_4 =>
 condK 1300009 x12_4
 (
  .ok (.val x8_1) T3 n3
 )
 (
  callK (g177 ro a0 (.lit (.string ⟨⟨[105, 102]⟩⟩)) T3 n3) fun x15_5 T4 n4 =>
  callK (g176 ro a0 x15_5 T4 n4) fun x18_6 T5 n5 =>
  callK (ih 189 ro [a0] T5 n5) fun x20_7 T6 n6 =>
  callK (g177 ro a0 (.lit (.string ⟨⟨[101, 108, 115, 101]⟩⟩)) T6 n6) fun x22_8 T7 n7 =>
  callK (ih 130 ro [a0] T7 n7) fun x24_9 T8 n8 =>
  fldK 1300027 T8 ro a0 3 fun x28_10 =>
  subK Tryz.prog 3 (.tmp 28) (.const (.int .i64 (.ofNat 1))) 1300028 x28_10 (.lit (.int .i64 (.ofNat 1))) fun x29_11 =>
  faK 1300029 a0 3 fun x31_12 =>
  stK 1300030 T8 x31_12 x29_11 fun T9 =>
  bsK 1300036 T9 n8 3 3 1 [(0, x20_7), (1, x8_1), (2, x24_9)] fun x37_13 T10 n10 =>
  callK (g65 ro a0 (.lit (.int .i64 (.ofNat 20))) x15_5 (.lit (.string ⟨⟨[]⟩⟩)) x37_13 T10 n10) fun x38_14 T11 n11 =>
  .ok (.val x38_14) T11 n11
 )
theorem g130_ok (ih : FuncId → List HT → List AV → HT → Nat → R) (hI : ∀ f ro args T nx, GOk Tryz.prog envE f args ro T nx (ih f ro args T nx)) (ro : List HT) (a0 : AV) (T : HT) (nx : Nat) : GOk Tryz.prog envE 130 [a0] ro T nx (g130 ih ro a0 T nx) := by
 refine GOk.of_body Tryz.func130 rfl Tryz.ntmps130 (by kernel_rfl) rfl fun r T' n' h1 w0 base ρ0 its hS hP => ?_
 have X : CtxW envE ρ0 ro r T' n' := trivial
 unfold g130 at h1
 refine sr ?_
 refine as_ ?_
 refine dn ?_
 refine sr ?_
 refine mv ?_
 refine LV.call hS h1 (hI _ _ _ _ _) hP rfl rfl rfl rfl fun x8_1 T1 n1 h2 ρ its hS => ?_
 refine as_ ?_
 refine dn ?_
 refine CV.seq ?_
 refine sr ?_
 refine mv ?_
 refine LV.bslice hS h2 rfl rfl Rnf.el46 rfl rfl rfl rfl fun x10_2 T2 n2 h3 ρ its hS hdr => ?_
 refine LV.call hS h3 (g99_ok _ _ _ _ _ ) hP rfl rfl rfl rfl fun x11_3 T3 n3 h4 ρ its hS => ?_
 refine vy (V.not h4 rfl) fun x12_4 h5 => ?_
 refine dn ?_
 refine CV.cond h5 rfl (fun e h6 => ?_) (fun e h6 => ?_)
 ·
  clear h1 h2 h3 h4 h5
  subst e
  refine sr ?_
  refine mv ?_
  refine as_ ?_
  refine dn ?_
  refine CV.ret ?_
  refine PV.thenR ?_
  cases h6
  exact PV.ret (by simp) Tryz.results130 hS (RS.tmp rfl RS.nil) rfl
 ·
  clear h1 h2 h3 h4 h5
  subst e
  refine CV.skip ?_
  refine PV.thenN ?_
  refine sr ?_
  refine mv ?_
  refine LV.call hS h6 (g177_ok _ _ _ _ _ ) hP rfl rfl rfl rfl fun x15_5 T4 n4 h7 ρ its hS => ?_
  refine as_ ?_
  refine dn ?_
  refine sr ?_
  refine mv ?_
  refine mv ?_
  refine LV.call hS h7 (g176_ok _ _ _ _ _ ) hP rfl rfl rfl rfl fun x18_6 T5 n5 h8 ρ its hS => ?_
  refine dn ?_
  refine sr ?_
  refine mv ?_
  refine LV.call hS h8 (hI _ _ _ _ _) hP rfl rfl rfl rfl fun x20_7 T6 n6 h9 ρ its hS => ?_
  refine as_ ?_
  refine dn ?_
  refine sr ?_
  refine mv ?_
  refine LV.call hS h9 (g177_ok _ _ _ _ _ ) hP rfl rfl rfl rfl fun x22_8 T7 n7 h10 ρ its hS => ?_
  refine dn ?_
  refine sr ?_
  refine mv ?_
  refine LV.call hS h10 (hI _ _ _ _ _) hP rfl rfl rfl rfl fun x24_9 T8 n8 h11 ρ its hS => ?_
  refine as_ ?_
  refine dn ?_
  refine sr ?_
  refine mv ?_
  refine fl hS h11 Rnf.fo98_3 Rnf.one3 fun x28_10 h12 => ?_
  refine vy (V.sub h12 rfl rfl) fun x29_11 h13 => ?_
  refine fa2 h13 Rnf.fo98_3 fun x31_12 h14 => ?_
  refine LV.st hS h14 rfl rfl rfl Rnf.siz3 rfl rfl fun T9 its h15 hS => ?_
  refine dn ?_
  refine sr ?_
  refine mv ?_
  refine mv ?_
  refine mv ?_
  refine mv ?_
  refine mv ?_
  refine LV.bslice hS h15 rfl rfl Rnf.el30 rfl rfl rfl rfl fun x37_13 T10 n10 h16 ρ its hS hdr => ?_
  refine LV.call hS h16 (g65_ok _ _ _ _ _ _ _ _ ) hP rfl rfl rfl rfl fun x38_14 T11 n11 h17 ρ its hS => ?_
  refine as_ ?_
  refine dn ?_
  refine CV.ret ?_
  cases h17
  exact PV.ret (by simp) Tryz.results130 hS (RS.tmp rfl RS.nil) rfl
noncomputable def g175 (ih : FuncId → List HT → List AV → HT → Nat → R) (ro : List HT) (a0 : AV) (T : HT) (nx : Nat) : R :=
 callK (g177 ro a0 (.lit (.string ⟨⟨[58]⟩⟩)) T nx) fun x6_1 T1 n1 =>
 callK (g176 ro a0 x6_1 T1 n1) fun x7_2 T2 n2 =>
 callK (g50 ro a0 T2 n2) fun x9_3 T3 n3 =>
 eqK Tryz.prog 3 (.tmp 9) (.const (.int .i64 (.ofNat 5))) 1750009 x9_3 (.lit (.int .i64 (.ofNat 5))) fun x10_4 =>
 condK 1750010 x10_4
 (
  .bad 1750011
 )
 (
  callK (ih 103 ro [a0, (.lit (.bool false))] T3 n3) fun x41_5 T4 n4 =>
  bsK 1750014 T4 n4 1 3 1 [(0, x41_5)] fun x42_6 T5 n5 =>
  callK (g51 ro a0 (.lit (.int .i64 (.ofNat 5))) T5 n5) fun x44_7 T6 n6 =>
  fldK 1750019 T6 ro a0 3 fun x48_8 =>
  subK Tryz.prog 3 (.tmp 48) (.const (.int .i64 (.ofNat 1))) 1750020 x48_8 (.lit (.int .i64 (.ofNat 1))) fun x49_9 =>
  faK 1750021 a0 3 fun x51_10 =>
  stK 1750022 T6 x51_10 x49_9 fun T7 =>
  ncK 1750025 a0 fun x54_11 =>
  faK 1750026 x54_11 2 fun x55_12 =>
  ldK 1750027 T7 ro x55_12 fun x56_13 =>
  iaK 1750029 x42_6 (.lit (.int .i64 (.ofNat 0))) 1 fun x58_14 =>
  ldK 1750030 T7 ro x58_14 fun x59_15 =>
  iaK 1750031 x56_13 x59_15 5 fun x60_16 =>
  faK 1750032 x60_16 2 fun x61_17 =>
  ldK 1750033 T7 ro x61_17 fun x62_18 =>
  callK (g65 ro a0 (.lit (.int .i64 (.ofNat 47))) x62_18 (.lit (.string ⟨⟨[]⟩⟩)) x42_6 T7 n6) fun x64_19 T8 n8 =>
  .ok (.val x64_19) T8 n8
 )
theorem g175_ok (ih : FuncId → List HT → List AV → HT → Nat → R) (hI : ∀ f ro args T nx, GOk Tryz.prog envE f args ro T nx (ih f ro args T nx)) (ro : List HT) (a0 : AV) (T : HT) (nx : Nat) : GOk Tryz.prog envE 175 [a0] ro T nx (g175 ih ro a0 T nx) := by
 refine GOk.of_body Tryz.func175 rfl Tryz.ntmps175 (by kernel_rfl) rfl fun r T' n' h1 w0 base ρ0 its hS hP => ?_
 have X : CtxW envE ρ0 ro r T' n' := trivial
 unfold g175 at h1
 refine sr ?_
 refine as_ ?_
 refine dn ?_
 refine sr ?_
 refine mv ?_
 refine mv ?_
 refine LV.call hS h1 (g177_ok _ _ _ _ _ ) hP rfl rfl rfl rfl fun x6_1 T1 n1 h2 ρ its hS => ?_
 refine LV.call hS h2 (g176_ok _ _ _ _ _ ) hP rfl rfl rfl rfl fun x7_2 T2 n2 h3 ρ its hS => ?_
 refine dn ?_
 refine sr ?_
 refine as_ ?_
 refine dn ?_
 refine CV.seq ?_
 refine sr ?_
 refine mv ?_
 refine LV.call hS h3 (g50_ok _ _ _ _ ) hP rfl rfl rfl rfl fun x9_3 T3 n3 h4 ρ its hS => ?_
 refine vy (V.eq h4 rfl rfl) fun x10_4 h5 => ?_
 refine dn ?_
 refine CV.cond h5 rfl (fun e h6 => ?_) (fun e h6 => ?_)
 ·
  clear h1 h2 h3 h4 h5
  subst e
  cases h6
 ·
  clear h1 h2 h3 h4 h5
  subst e
  refine sr ?_
  refine mv ?_
  refine LV.call hS h6 (hI _ _ _ _ _) hP rfl rfl rfl rfl fun x41_5 T4 n4 h7 ρ its hS => ?_
  refine LV.bslice hS h7 rfl rfl Rnf.el30 rfl rfl rfl rfl fun x42_6 T5 n5 h8 ρ its hS hdr => ?_
  refine as_ ?_
  refine dn ?_
  refine CV.region ?_
  refine mv ?_
  refine LV.call hS h8 (g51_ok _ _ _ _ _ ) hP rfl rfl rfl rfl fun x44_7 T6 n6 h9 ρ its hS => ?_
  refine dn ?_
  refine sr ?_
  refine mv ?_
  refine fl hS h9 Rnf.fo98_3 Rnf.one3 fun x48_8 h10 => ?_
  refine vy (V.sub h10 rfl rfl) fun x49_9 h11 => ?_
  refine fa2 h11 Rnf.fo98_3 fun x51_10 h12 => ?_
  refine LV.st hS h12 rfl rfl rfl Rnf.siz3 rfl rfl fun T7 its h13 hS => ?_
  refine dn ?_
  refine CV.seq ?_
  refine CV.regionM [(0, .anywhere), (1, .anywhere), (2, .anywhere), (3, .anywhere), (4, .held), (5, .anywhere), (6, .anywhere), (7, .held), (8, .held), (9, .held), (10, .held), (11, .anywhere), (12, .alone), (13, .alone)] rfl (fun c a a' w hd hq => PanicOk.root (P := Tryz.prog) (fn := Tryz.f175) (w0 := w0) (base := base) (E := envE) (ro := ro) (r := r) (T' := T') (n' := n') (ρ0 := ρ0) c a a' w hd hq) (by kernel_rfl) ?_
  refine MV.step0 (i := 0) rfl (VAL.move rfl) rfl rfl rfl ?_
  refine MV.step0 (i := 1) rfl (VAL.move rfl) rfl rfl rfl ?_
  refine MV.lift0 (i := 2) rfl (V.nc h13 rfl) rfl rfl rfl fun x54_11 h14 => ?_
  refine MV.lift0 (i := 3) rfl (V.fa h14 rfl Rnf.fo98_2) rfl rfl rfl fun x55_12 h15 => ?_
  refine MV.lift1 (i := 4) rfl (fun _ z => z) (V.ld hS h15 rfl Rnf.one23) rfl rfl rfl [] (by kernel_rfl) fun x56_13 h16 => ?_
  refine MV.step0 (i := 5) rfl (VAL.move rfl) rfl rfl rfl ?_
  refine MV.lift0 (i := 6) rfl (V.ia h16 rfl rfl Rnf.el30) rfl rfl rfl fun x58_14 h17 => ?_
  refine MV.lift1 (i := 7) rfl (fun _ z => z) (V.ld hS h17 rfl Rnf.one3) rfl rfl rfl [4] (by kernel_rfl) fun x59_15 h18 => ?_
  refine MV.lift1 (i := 8) rfl (fun _ z => z) (V.ia h18 rfl rfl Rnf.el23) rfl rfl rfl [] (by kernel_rfl) fun x60_16 h19 => ?_
  refine MV.lift1 (i := 9) rfl (fun _ z => z) (V.fa h19 rfl Rnf.fo32_2) rfl rfl rfl [] (by kernel_rfl) fun x61_17 h20 => ?_
  refine MV.lift1 (i := 10) rfl (fun _ z => z) (V.ld hS h20 rfl Rnf.one3) rfl rfl rfl [] (by kernel_rfl) fun x62_18 h21 => ?_
  refine MV.step0 (i := 11) rfl (VAL.move rfl) rfl rfl rfl ?_
  refine MV.force (i := 12) rfl ?_
  refine LV.call hS h21 (g65_ok _ _ _ _ _ _ _ _ ) hP rfl rfl rfl rfl fun x64_19 T8 n8 h22 ρ its hS => ?_
  refine LV.nextM [] (by kernel_rfl) (fun z => absurd rfl z) ?_
  refine MV.force (i := 13) rfl ?_
  refine as_ ?_
  refine LV.nextM [] (by kernel_rfl) (fun z => absurd rfl z) ?_
  refine mdn ?_
  refine CV.ret ?_
  cases h22
  exact PV.ret (by simp) Tryz.results175 hS (RS.tmp rfl RS.nil) rfl
noncomputable def g180 (ih : FuncId → List HT → List AV → HT → Nat → R) (ro : List HT) (a0 : AV) (T : HT) (nx : Nat) : R :=
 fldK 1800003 T ro a0 4 fun x7_1 =>
 notK 1800004 x7_1 fun x8_2 =>
 condK 1800005 x8_2
 (
  .bad 1800006
 )
 (
  callK (g177 ro a0 (.lit (.string ⟨⟨[114, 101, 116, 117, 114, 110]⟩⟩)) T nx) fun x12_3 T1 n1 =>
  callK (g50 ro a0 T1 n1) fun x14_4 T2 n2 =>
  eqK Tryz.prog 3 (.tmp 14) (.const (.int .i64 (.ofNat 5))) 1800012 x14_4 (.lit (.int .i64 (.ofNat 5))) fun x15_5 =>
  condK 1800013 x15_5
  (
   .bad 1800014
  )
  (
   callK (ih 49 ro [a0] T2 n2) fun x22_6 T3 n3 =>
   bsK 1800019 T3 n3 1 3 1 [(0, x22_6)] fun x23_7 T4 n4 =>
   callK (g65 ro a0 (.lit (.int .i64 (.ofNat 41))) x12_3 (.lit (.string ⟨⟨[]⟩⟩)) x23_7 T4 n4) fun x24_8 T5 n5 =>
   .ok (.val x24_8) T5 n5
  )
 )
theorem g180_ok (ih : FuncId → List HT → List AV → HT → Nat → R) (hI : ∀ f ro args T nx, GOk Tryz.prog envE f args ro T nx (ih f ro args T nx)) (ro : List HT) (a0 : AV) (T : HT) (nx : Nat) : GOk Tryz.prog envE 180 [a0] ro T nx (g180 ih ro a0 T nx) := by
 refine GOk.of_body Tryz.func180 rfl Tryz.ntmps180 (by kernel_rfl) rfl fun r T' n' h1 w0 base ρ0 its hS hP => ?_
 have X : CtxW envE ρ0 ro r T' n' := trivial
 unfold g180 at h1
 refine sr ?_
 refine as_ ?_
 refine dn ?_
 refine CV.seq ?_
 refine sr ?_
 refine mv ?_
 refine fl hS h1 Rnf.fo98_4 Rnf.one4 fun x7_1 h2 => ?_
 refine vy (V.not h2 rfl) fun x8_2 h3 => ?_
 refine dn ?_
 refine CV.cond h3 rfl (fun e h4 => ?_) (fun e h4 => ?_)
 ·
  clear h1 h2 h3
  subst e
  cases h4
 ·
  clear h1 h2 h3
  subst e
  refine CV.skip ?_
  refine PV.thenN ?_
  refine sr ?_
  refine mv ?_
  refine LV.call hS h4 (g177_ok _ _ _ _ _ ) hP rfl rfl rfl rfl fun x12_3 T1 n1 h5 ρ its hS => ?_
  refine as_ ?_
  refine dn ?_
  refine CV.seq ?_
  refine sr ?_
  refine mv ?_
  refine LV.call hS h5 (g50_ok _ _ _ _ ) hP rfl rfl rfl rfl fun x14_4 T2 n2 h6 ρ its hS => ?_
  refine vy (V.eq h6 rfl rfl) fun x15_5 h7 => ?_
  refine dn ?_
  refine CV.cond h7 rfl (fun e h8 => ?_) (fun e h8 => ?_)
  ·
   clear h4 h5 h6 h7
   subst e
   cases h8
  ·
   clear h4 h5 h6 h7
   subst e
   refine CV.skip ?_
   refine PV.thenN ?_
   refine sr ?_
   refine mv ?_
   refine mv ?_
   refine mv ?_
   refine LV.call hS h8 (hI _ _ _ _ _) hP rfl rfl rfl rfl fun x22_6 T3 n3 h9 ρ its hS => ?_
   refine LV.bslice hS h9 rfl rfl Rnf.el30 rfl rfl rfl rfl fun x23_7 T4 n4 h10 ρ its hS hdr => ?_
   refine LV.call hS h10 (g65_ok _ _ _ _ _ _ _ _ ) hP rfl rfl rfl rfl fun x24_8 T5 n5 h11 ρ its hS => ?_
   refine as_ ?_
   refine dn ?_
   refine CV.ret ?_
   cases h11
   exact PV.ret (by simp) Tryz.results180 hS (RS.tmp rfl RS.nil) rfl
noncomputable def g189 (ih : FuncId → List HT → List AV → HT → Nat → R) (ro : List HT) (a0 : AV) (T : HT) (nx : Nat) : R :=
 bsK 1890005 T nx 1 9 1 [(0, (.lit (.string ⟨⟨[111, 114]⟩⟩)))] fun x6_1 T1 n1 =>
 callK (ih 217 ro [a0, (.fn (.func 218) [a0] []), x6_1] T1 n1) fun x7_2 T2 n2 =>
 .ok (.val x7_2) T2 n2
theorem g189_ok (ih : FuncId → List HT → List AV → HT → Nat → R) (hI : ∀ f ro args T nx, GOk Tryz.prog envE f args ro T nx (ih f ro args T nx)) (ro : List HT) (a0 : AV) (T : HT) (nx : Nat) : GOk Tryz.prog envE 189 [a0] ro T nx (g189 ih ro a0 T nx) := by
 refine GOk.of_body Tryz.func189 rfl Tryz.ntmps189 (by kernel_rfl) rfl fun r T' n' h1 w0 base ρ0 its hS hP => ?_
 have X : CtxW envE ρ0 ro r T' n' := trivial
 unfold g189 at h1
 refine sr ?_
 refine as_ ?_
 refine dn ?_
 refine sr ?_
 refine mv ?_
 refine mv ?_
 refine pu ?_
 refine LV.bslice hS h1 rfl rfl Rnf.el46 rfl rfl rfl rfl fun x6_1 T1 n1 h2 ρ its hS hdr => ?_
 refine LV.call hS h2 (hI _ _ _ _ _) hP rfl rfl rfl rfl fun x7_2 T2 n2 h3 ρ its hS => ?_
 refine as_ ?_
 refine dn ?_
 refine CV.ret ?_
 cases h3
 exact PV.ret (by simp) Tryz.results189 hS (RS.tmp rfl RS.nil) rfl
noncomputable def g217_b1 (ih : FuncId → List HT → List AV → HT → Nat → R) (ro : List HT) (lp1 : AV → AV → AV → AV → AV → HT → Nat → R) (y0 y1 y2 y6 y7 : AV) (T2 : HT) (n2 : Nat) : R :=
 callK (g99 ro y0 y2 T2 n2) fun x13_2 T3 n3 =>
 condK 2170009 x13_2
 (
  ncK 2170011 y0 fun x15_3 =>
  faK 2170012 x15_3 0 fun x16_4 =>
  ldK 2170013 T3 ro x16_4 fun x17_5 =>
  ncK 2170015 y0 fun x19_6 =>
  faK 2170016 x19_6 1 fun x20_7 =>
  ldK 2170017 T3 ro x20_7 fun x21_8 =>
  iaK 2170018 x17_5 x21_8 3 fun x22_9 =>
  ldAK 2170019 T3 ro x22_9 3 fun x23_10 =>
  newK T3 n3 (.obj [.lit (.int .i64 0), .lit (.string ⟨#[]⟩), .lit (.int .i64 0)] 139) fun x8_11 T4 n4 =>
  stAK 2170021 T4 x8_11 x23_10 3 fun T5 =>
  fldK 2170023 T5 ro y0 1 fun x27_12 =>
  addK Tryz.prog 3 (.tmp 27) (.const (.int .i64 (.ofNat 1))) 2170024 x27_12 (.lit (.int .i64 (.ofNat 1))) fun x28_13 =>
  faK 2170025 y0 1 fun x30_14 =>
  stK 2170026 T5 x30_14 x28_13 fun T6 =>
  faK 2170028 x8_11 1 fun x32_15 =>
  ldQK 2170029 T6 ro [x8_11] x32_15 fun x33_16 =>
  faK 2170030 x8_11 2 fun x35_17 =>
  ldQK 2170031 T6 ro [x8_11] x35_17 fun x36_18 =>
  callK (g231 ro x33_16 T6 n4) fun x34_19 T7 n7 =>
  keepK 2170035 T6 T7 [x8_11] <|
  dynK 2170036 y1 fun f p q => callK (ih f ro (p ++ ([] ++ q)) T7 n7) fun x39_20 T8 n8 =>
  keepK 2170037 T6 T8 [x8_11] <|
  bsK 2170038 T8 n8 2 3 1 [(0, y7), (1, x39_20)] fun x40_21 T9 n9 =>
  keepK 2170039 T6 T9 [x8_11] <|
  callK (g65 ro y0 x34_19 x36_18 (.lit (.string ⟨⟨[]⟩⟩)) x40_21 T9 n9) fun x41_22 T10 n10 =>
  lp1 y0 y1 y2 y6 x41_22 T10 n10
 )
 (
  .ok (.val y7) T3 n3
 )
noncomputable def g217 (ih : FuncId → List HT → List AV → HT → Nat → R) (ro : List HT) (a0 a1 a2 : AV) (T : HT) (nx : Nat) : R :=
 dynK 2170003 a1 fun f p q => callK (ih f ro (p ++ ([] ++ q)) T nx) fun x10_1 T1 n1 =>
 lpf5 2170005 (g217_b1 ih ro) 100000 a0 a1 a2 (.lit (.int .i64 (.ofNat 0))) x10_1 T1 n1
theorem g217_ok (ih : FuncId → List HT → List AV → HT → Nat → R) (hI : ∀ f ro args T nx, GOk Tryz.prog envE f args ro T nx (ih f ro args T nx)) (ro : List HT) (a0 a1 a2 : AV) (T : HT) (nx : Nat) : GOk Tryz.prog envE 217 [a0, a1, a2] ro T nx (g217 ih ro a0 a1 a2 T nx) := by
 refine GOk.of_body Tryz.func217 rfl Tryz.ntmps217 (by kernel_rfl) rfl fun r T' n' h1 w0 base ρ0 its hS hP => ?_
 have X : CtxW envE ρ0 ro r T' n' := trivial
 unfold g217 at h1
 refine sr ?_
 refine as_ ?_
 refine dn ?_
 refine sr ?_
 refine mv ?_
 refine LV.callD (G := fun f gs => ih f ro gs T nx) (qs := []) hS h1 (fun f gs => hI _ _ _ _ _) hP rfl rfl rfl rfl rfl rfl rfl fun x10_1 T1 n1 h2 ρ its hS => ?_
 refine as_ ?_
 refine dn ?_
 refine CV.seq ?_
 refine CV.block ?_
 refine cl5 X 0 1 2 6 7 [] hS h2 ⟨rfl, rfl, rfl, rfl, rfl, trivial⟩ ?_
 intro f1 y0 y1 y2 y6 y7 T2 n2 ρ its hS h3
 unfold g217_b1 at h3
 clear h1 h2
 refine CV.seq ?_
 refine sr ?_
 refine mv ?_
 refine mv ?_
 refine LV.call hS h3 (g99_ok _ _ _ _ _ ) hP rfl rfl rfl rfl fun x13_2 T3 n3 h4 ρ its hS => ?_
 refine dn ?_
 refine CV.cond h4 rfl (fun e h5 => ?_) (fun e h5 => ?_)
 ·
  clear h3 h4
  subst e
  refine CV.skip ?_
  refine PV.thenN ?_
  refine CV.block ?_
  refine CV.seq ?_
  refine CV.regionM [(0, .anywhere), (1, .anywhere), (2, .anywhere), (3, .held), (4, .anywhere), (5, .anywhere), (6, .anywhere), (7, .held), (8, .held), (9, .held), (10, .alone), (11, .alone)] rfl (fun c a a' w hd hq => PanicOk.root (P := Tryz.prog) (fn := Tryz.f217) (w0 := w0) (base := base) (E := envE) (ro := ro) (r := r) (T' := T') (n' := n') (ρ0 := ρ0) c a a' w hd hq) (by kernel_rfl) ?_
  refine MV.step0 (i := 0) rfl (VAL.move rfl) rfl rfl rfl ?_
  refine MV.lift0 (i := 1) rfl (V.nc h5 rfl) rfl rfl rfl fun x15_3 h6 => ?_
  refine MV.lift0 (i := 2) rfl (V.fa h6 rfl Rnf.fo98_0) rfl rfl rfl fun x16_4 h7 => ?_
  refine MV.lift1 (i := 3) rfl (fun _ z => z) (V.ld hS h7 rfl Rnf.one96) rfl rfl rfl [] (by kernel_rfl) fun x17_5 h8 => ?_
  refine MV.step0 (i := 4) rfl (VAL.move rfl) rfl rfl rfl ?_
  refine MV.lift0 (i := 5) rfl (V.nc h8 rfl) rfl rfl rfl fun x19_6 h9 => ?_
  refine MV.lift0 (i := 6) rfl (V.fa h9 rfl Rnf.fo98_1) rfl rfl rfl fun x20_7 h10 => ?_
  refine MV.lift1 (i := 7) rfl (fun _ z => z) (V.ld hS h10 rfl Rnf.one3) rfl rfl rfl [3] (by kernel_rfl) fun x21_8 h11 => ?_
  refine MV.lift1 (i := 8) rfl (fun _ z => z) (V.ia h11 rfl rfl Rnf.el96) rfl rfl rfl [] (by kernel_rfl) fun x22_9 h12 => ?_
  refine MV.lift1 (i := 9) rfl (fun _ z => z) (V.ldA hS h12 rfl Rnf.agg139) rfl rfl rfl [] (by kernel_rfl) fun x23_10 h13 => ?_
  refine MV.force (i := 10) rfl ?_
  refine LV.alloc hS h13 rfl Rnf.zr139 rfl rfl rfl fun x8_11 T4 n4 h14 ρ its hS hdr => ?_
  refine LV.nextM [9] (by kernel_rfl) (fun _ => hdr) ?_
  refine MV.force (i := 11) rfl ?_
  refine LV.stA hS h14 rfl rfl rfl Rnf.agg139 rfl rfl rfl fun T5 its h15 hS => ?_
  refine LV.nextM [] (by kernel_rfl) (fun z => absurd rfl z) ?_
  refine mdn ?_
  refine sr ?_
  refine mv ?_
  refine fl hS h15 Rnf.fo98_1 Rnf.one3 fun x27_12 h16 => ?_
  refine vy (V.add h16 rfl rfl) fun x28_13 h17 => ?_
  refine fa2 h17 Rnf.fo98_1 fun x30_14 h18 => ?_
  refine LV.st hS h18 rfl rfl rfl Rnf.siz3 rfl rfl fun T6 its h19 hS => ?_
  refine dn ?_
  refine CV.regionMS hS [x8_11] [(0, .anywhere), (1, .anywhere), (2, .held), (4, .anywhere), (5, .held), (6, .anywhere), (7, .anywhere), (3, .alone), (8, .alone), (9, .alone), (10, .alone), (11, .alone)] rfl (fun c a a' w hd hq => PanicOk.root (P := Tryz.prog) (fn := Tryz.f217) (w0 := w0) (base := base) (E := envE) (ro := ro) (r := r) (T' := T') (n' := n') (ρ0 := ρ0) c a a' w hd hq) (by kernel_rfl) ?_
  have hK := KeepS.start [x8_11] hS
  have hR := hS
  have hP0 := hP
  replace hP := PK.up hR hP
  replace hS := hR.root
  refine MV.step0 (i := 0) rfl (VAL.move rfl) rfl rfl rfl ?_
  refine MV.lift0 (i := 1) rfl (V.fa h19 rfl Rnf.fo139_1) rfl rfl rfl fun x32_15 h20 => ?_
  refine MV.lift1 (i := 2) rfl hK (V.ldQ hS h20 rfl Rnf.one9) rfl rfl rfl [] (by kernel_rfl) fun x33_16 h21 => ?_
  refine MV.lift0 (i := 4) rfl (V.fa h21 rfl Rnf.fo139_2) rfl rfl rfl fun x35_17 h22 => ?_
  refine MV.lift1 (i := 5) rfl hK (V.ldQ hS h22 rfl Rnf.one3) rfl rfl rfl [2] (by kernel_rfl) fun x36_18 h23 => ?_
  refine MV.step0 (i := 6) rfl (VAL.move rfl) rfl rfl rfl ?_
  refine MV.step0 (i := 7) rfl (VAL.move rfl) rfl rfl rfl ?_
  refine MV.force (i := 3) rfl ?_
  refine LV.call hS h23 (g231_ok _ _ _ _ ) hP rfl rfl rfl rfl fun x34_19 T7 n7 h24 ρ its hS => ?_
  obtain ⟨hK, h25⟩ := KeepS.step hR hS h24
  refine LV.nextM [5] (by kernel_rfl) (fun _ => hK) ?_
  refine MV.force (i := 8) rfl ?_
  refine LV.callD (G := fun f gs => ih f ro gs T7 n7) (qs := []) hS h25 (fun f gs => hI _ _ _ _ _) hP rfl rfl rfl rfl rfl rfl rfl fun x39_20 T8 n8 h26 ρ its hS => ?_
  obtain ⟨hK, h27⟩ := KeepS.step hR hS h26
  refine LV.nextM [5] (by kernel_rfl) (fun _ => hK) ?_
  refine MV.force (i := 9) rfl ?_
  refine LV.bslice hS h27 rfl rfl Rnf.el30 rfl rfl rfl rfl fun x40_21 T9 n9 h28 ρ its hS hdr => ?_
  obtain ⟨hK, h29⟩ := KeepS.step hR hS h28
  refine LV.nextM [5] (by kernel_rfl) (fun _ => hK) ?_
  refine MV.force (i := 10) rfl ?_
  refine LV.call hS h29 (g65_ok _ _ _ _ _ _ _ _ ) hP rfl rfl rfl rfl fun x41_22 T10 n10 h30 ρ its hS => ?_
  refine LV.nextM [] (by kernel_rfl) (fun z => absurd rfl z) ?_
  refine MV.force (i := 11) rfl ?_
  refine as_ ?_
  refine LV.nextM [] (by kernel_rfl) (fun z => absurd rfl z) ?_
  replace hS := hR.up hS
  replace hP := hP0
  refine MV.done ?_
  refine PV.blockN ?_
  exact pb5 hS h30 ⟨rfl, rfl, rfl, rfl, rfl, trivial⟩
 ·
  clear h3 h4
  subst e
  refine CV.exit ?_
  refine PV.thenE ?_
  refine PV.thenE ?_
  refine PV.blockE ?_
  refine PV.thenN ?_
  refine sr ?_
  refine mv ?_
  refine as_ ?_
  refine dn ?_
  refine CV.ret ?_
  cases h5
  exact PV.ret (by simp) Tryz.results217 hS (RS.tmp rfl RS.nil) rfl
noncomputable def g218 (ih : FuncId → List HT → List AV → HT → Nat → R) (ro : List HT) (a0 : AV) (T : HT) (nx : Nat) : R :=
 bsK 2180005 T nx 1 9 1 [(0, (.lit (.string ⟨⟨[97, 110, 100]⟩⟩)))] fun x6_1 T1 n1 =>
 callK (ih 217 ro [a0, (.fn (.func 232) [a0] []), x6_1] T1 n1) fun x7_2 T2 n2 =>
 .ok (.val x7_2) T2 n2
theorem g218_ok (ih : FuncId → List HT → List AV → HT → Nat → R) (hI : ∀ f ro args T nx, GOk Tryz.prog envE f args ro T nx (ih f ro args T nx)) (ro : List HT) (a0 : AV) (T : HT) (nx : Nat) : GOk Tryz.prog envE 218 [a0] ro T nx (g218 ih ro a0 T nx) := by
 refine GOk.of_body Tryz.func218 rfl Tryz.ntmps218 (by kernel_rfl) rfl fun r T' n' h1 w0 base ρ0 its hS hP => ?_
 have X : CtxW envE ρ0 ro r T' n' := trivial
 unfold g218 at h1
 refine sr ?_
 refine as_ ?_
 refine dn ?_
 refine sr ?_
 refine mv ?_
 refine mv ?_
 refine pu ?_
 refine LV.bslice hS h1 rfl rfl Rnf.el46 rfl rfl rfl rfl fun x6_1 T1 n1 h2 ρ its hS hdr => ?_
 refine LV.call hS h2 (hI _ _ _ _ _) hP rfl rfl rfl rfl fun x7_2 T2 n2 h3 ρ its hS => ?_
 refine as_ ?_
 refine dn ?_
 refine CV.ret ?_
 cases h3
 exact PV.ret (by simp) Tryz.results218 hS (RS.tmp rfl RS.nil) rfl
noncomputable def g232 (ih : FuncId → List HT → List AV → HT → Nat → R) (ro : List HT) (a0 : AV) (T : HT) (nx : Nat) : R :=
 bsK 2320003 T nx 1 9 1 [(0, (.lit (.string ⟨⟨[110, 111, 116]⟩⟩)))] fun x6_1 T1 n1 =>
 callK (g99 ro a0 x6_1 T1 n1) fun x7_2 T2 n2 =>
 notK 2320005 x7_2 fun x8_3 =>
 condK 2320006 x8_3
 (
  callK (ih 237 ro [a0] T2 n2) fun x10_4 T3 n3 =>
  .ok (.val x10_4) T3 n3
 )
 (
  callK (g177 ro a0 (.lit (.string ⟨⟨[110, 111, 116]⟩⟩)) T2 n2) fun x12_5 T4 n4 =>
  callK (g176 ro a0 x12_5 T4 n4) fun x15_6 T5 n5 =>
  callK (ih 232 ro [a0] T5 n5) fun x17_7 T6 n6 =>
  fldK 2320020 T6 ro a0 3 fun x21_8 =>
  subK Tryz.prog 3 (.tmp 21) (.const (.int .i64 (.ofNat 1))) 2320021 x21_8 (.lit (.int .i64 (.ofNat 1))) fun x22_9 =>
  faK 2320022 a0 3 fun x24_10 =>
  stK 2320023 T6 x24_10 x22_9 fun T7 =>
  bsK 2320027 T7 n6 1 3 1 [(0, x17_7)] fun x28_11 T8 n8 =>
  callK (g65 ro a0 (.lit (.int .i64 (.ofNat 17))) x12_5 (.lit (.string ⟨⟨[]⟩⟩)) x28_11 T8 n8) fun x29_12 T9 n9 =>
  .ok (.val x29_12) T9 n9
 )
theorem g232_ok (ih : FuncId → List HT → List AV → HT → Nat → R) (hI : ∀ f ro args T nx, GOk Tryz.prog envE f args ro T nx (ih f ro args T nx)) (ro : List HT) (a0 : AV) (T : HT) (nx : Nat) : GOk Tryz.prog envE 232 [a0] ro T nx (g232 ih ro a0 T nx) := by
 refine GOk.of_body Tryz.func232 rfl Tryz.ntmps232 (by kernel_rfl) rfl fun r T' n' h1 w0 base ρ0 its hS hP => ?_
 have X : CtxW envE ρ0 ro r T' n' := trivial
 unfold g232 at h1
 refine sr ?_
 refine as_ ?_
 refine dn ?_
 refine CV.seq ?_
 refine sr ?_
 refine mv ?_
 refine LV.bslice hS h1 rfl rfl Rnf.el46 rfl rfl rfl rfl fun x6_1 T1 n1 h2 ρ its hS hdr => ?_
 refine LV.call hS h2 (g99_ok _ _ _ _ _ ) hP rfl rfl rfl rfl fun x7_2 T2 n2 h3 ρ its hS => ?_
 refine vy (V.not h3 rfl) fun x8_3 h4 => ?_
 refine dn ?_
 refine CV.cond h4 rfl (fun e h5 => ?_) (fun e h5 => ?_)
 ·
  clear h1 h2 h3 h4
  subst e
  refine sr ?_
  refine mv ?_
  refine LV.call hS h5 (hI _ _ _ _ _) hP rfl rfl rfl rfl fun x10_4 T3 n3 h6 ρ its hS => ?_
  refine as_ ?_
  refine dn ?_
  refine CV.ret ?_
  refine PV.thenR ?_
  cases h6
  exact PV.ret (by simp) Tryz.results232 hS (RS.tmp rfl RS.nil) rfl
 ·
  clear h1 h2 h3 h4
  subst e
  refine CV.skip ?_
  refine PV.thenN ?_
  refine sr ?_
  refine mv ?_
  refine LV.call hS h5 (g177_ok _ _ _ _ _ ) hP rfl rfl rfl rfl fun x12_5 T4 n4 h7 ρ its hS => ?_
  refine as_ ?_
  refine dn ?_
  refine sr ?_
  refine mv ?_
  refine mv ?_
  refine LV.call hS h7 (g176_ok _ _ _ _ _ ) hP rfl rfl rfl rfl fun x15_6 T5 n5 h8 ρ its hS => ?_
  refine dn ?_
  refine sr ?_
  refine mv ?_
  refine LV.call hS h8 (hI _ _ _ _ _) hP rfl rfl rfl rfl fun x17_7 T6 n6 h9 ρ its hS => ?_
  refine as_ ?_
  refine dn ?_
  refine sr ?_
  refine mv ?_
  refine fl hS h9 Rnf.fo98_3 Rnf.one3 fun x21_8 h10 => ?_
  refine vy (V.sub h10 rfl rfl) fun x22_9 h11 => ?_
  refine fa2 h11 Rnf.fo98_3 fun x24_10 h12 => ?_
  refine LV.st hS h12 rfl rfl rfl Rnf.siz3 rfl rfl fun T7 its h13 hS => ?_
  refine dn ?_
  refine sr ?_
  refine mv ?_
  refine mv ?_
  refine mv ?_
  refine LV.bslice hS h13 rfl rfl Rnf.el30 rfl rfl rfl rfl fun x28_11 T8 n8 h14 ρ its hS hdr => ?_
  refine LV.call hS h14 (g65_ok _ _ _ _ _ _ _ _ ) hP rfl rfl rfl rfl fun x29_12 T9 n9 h15 ρ its hS => ?_
  refine as_ ?_
  refine dn ?_
  refine CV.ret ?_
  cases h15
  exact PV.ret (by simp) Tryz.results232 hS (RS.tmp rfl RS.nil) rfl
noncomputable def g237 (ih : FuncId → List HT → List AV → HT → Nat → R) (ro : List HT) (a0 : AV) (T : HT) (nx : Nat) : R :=
 callK (ih 241 ro [a0] T nx) fun x7_1 T1 n1 =>
 callK (g129 ro a0 T1 n1) fun x9_2 T2 n2 =>
 bsK 2370009 T2 n2 1 9 1 [(0, (.lit (.string ⟨⟨[110, 111, 116]⟩⟩)))] fun x12_3 T3 n3 =>
 callK (g99 ro a0 x12_3 T3 n3) fun x13_4 T4 n4 =>
 condK 2370012 x13_4
 (
  .bad 2370013
 )
 (
  bsK 2370015 T4 n4 7 9 1 [(0, (.lit (.string ⟨⟨[61, 61]⟩⟩))), (1, (.lit (.string ⟨⟨[33, 61]⟩⟩))), (2, (.lit (.string ⟨⟨[60]⟩⟩))), (3, (.lit (.string ⟨⟨[60, 61]⟩⟩))), (4, (.lit (.string ⟨⟨[62]⟩⟩))), (5, (.lit (.string ⟨⟨[62, 61]⟩⟩))), (6, (.lit (.string ⟨⟨[105, 110]⟩⟩)))] fun x32_5 T5 n5 =>
  callK (g99 ro a0 x32_5 T5 n5) fun x33_6 T6 n6 =>
  condK 2370018 x33_6
  (
   .bad 2370019
  )
  (
   .ok (.val x7_1) T6 n6
  )
 )
theorem g237_ok (ih : FuncId → List HT → List AV → HT → Nat → R) (hI : ∀ f ro args T nx, GOk Tryz.prog envE f args ro T nx (ih f ro args T nx)) (ro : List HT) (a0 : AV) (T : HT) (nx : Nat) : GOk Tryz.prog envE 237 [a0] ro T nx (g237 ih ro a0 T nx) := by
 refine GOk.of_body Tryz.func237 rfl Tryz.ntmps237 (by kernel_rfl) rfl fun r T' n' h1 w0 base ρ0 its hS hP => ?_
 have X : CtxW envE ρ0 ro r T' n' := trivial
 unfold g237 at h1
 refine sr ?_
 refine as_ ?_
 refine dn ?_
 refine sr ?_
 refine mv ?_
 refine LV.call hS h1 (hI _ _ _ _ _) hP rfl rfl rfl rfl fun x7_1 T1 n1 h2 ρ its hS => ?_
 refine as_ ?_
 refine dn ?_
 refine sr ?_
 refine mv ?_
 refine LV.call hS h2 (g129_ok _ _ _ _ ) hP rfl rfl rfl rfl fun x9_2 T2 n2 h3 ρ its hS => ?_
 refine as_ ?_
 refine dn ?_
 refine CV.seq ?_
 refine CV.block ?_
 refine sr ?_
 refine mv ?_
 refine LV.bslice hS h3 rfl rfl Rnf.el46 rfl rfl rfl rfl fun x12_3 T3 n3 h4 ρ its hS hdr => ?_
 refine LV.call hS h4 (g99_ok _ _ _ _ _ ) hP rfl rfl rfl rfl fun x13_4 T4 n4 h5 ρ its hS => ?_
 refine as_ ?_
 refine dn ?_
 refine CV.cond h5 rfl (fun e h6 => ?_) (fun e h6 => ?_)
 ·
  clear h1 h2 h3 h4 h5
  subst e
  cases h6
 ·
  clear h1 h2 h3 h4 h5
  subst e
  refine sr ?_
  refine mv ?_
  refine LV.bslice hS h6 rfl rfl Rnf.el46 rfl rfl rfl rfl fun x32_5 T5 n5 h7 ρ its hS hdr => ?_
  refine LV.call hS h7 (g99_ok _ _ _ _ _ ) hP rfl rfl rfl rfl fun x33_6 T6 n6 h8 ρ its hS => ?_
  refine as_ ?_
  refine dn ?_
  refine CV.cond h8 rfl (fun e h9 => ?_) (fun e h9 => ?_)
  ·
   clear h6 h7 h8
   subst e
   cases h9
  ·
   clear h6 h7 h8
   subst e
   refine CV.skip ?_
   refine PV.blockN ?_
   refine PV.thenN ?_
   refine sr ?_
   refine mv ?_
   refine as_ ?_
   refine dn ?_
   refine CV.ret ?_
   cases h9
   exact PV.ret (by simp) Tryz.results237 hS (RS.tmp rfl RS.nil) rfl
noncomputable def g241 (ih : FuncId → List HT → List AV → HT → Nat → R) (ro : List HT) (a0 : AV) (T : HT) (nx : Nat) : R :=
 bsK 2410005 T nx 2 9 1 [(0, (.lit (.string ⟨⟨[43]⟩⟩))), (1, (.lit (.string ⟨⟨[45]⟩⟩)))] fun x6_1 T1 n1 =>
 callK (ih 217 ro [a0, (.fn (.func 245) [a0] []), x6_1] T1 n1) fun x7_2 T2 n2 =>
 .ok (.val x7_2) T2 n2
theorem g241_ok (ih : FuncId → List HT → List AV → HT → Nat → R) (hI : ∀ f ro args T nx, GOk Tryz.prog envE f args ro T nx (ih f ro args T nx)) (ro : List HT) (a0 : AV) (T : HT) (nx : Nat) : GOk Tryz.prog envE 241 [a0] ro T nx (g241 ih ro a0 T nx) := by
 refine GOk.of_body Tryz.func241 rfl Tryz.ntmps241 (by kernel_rfl) rfl fun r T' n' h1 w0 base ρ0 its hS hP => ?_
 have X : CtxW envE ρ0 ro r T' n' := trivial
 unfold g241 at h1
 refine sr ?_
 refine as_ ?_
 refine dn ?_
 refine sr ?_
 refine mv ?_
 refine mv ?_
 refine pu ?_
 refine LV.bslice hS h1 rfl rfl Rnf.el46 rfl rfl rfl rfl fun x6_1 T1 n1 h2 ρ its hS hdr => ?_
 refine LV.call hS h2 (hI _ _ _ _ _) hP rfl rfl rfl rfl fun x7_2 T2 n2 h3 ρ its hS => ?_
 refine as_ ?_
 refine dn ?_
 refine CV.ret ?_
 cases h3
 exact PV.ret (by simp) Tryz.results241 hS (RS.tmp rfl RS.nil) rfl
noncomputable def g245 (ih : FuncId → List HT → List AV → HT → Nat → R) (ro : List HT) (a0 : AV) (T : HT) (nx : Nat) : R :=
 bsK 2450005 T nx 3 9 1 [(0, (.lit (.string ⟨⟨[42]⟩⟩))), (1, (.lit (.string ⟨⟨[47, 47]⟩⟩))), (2, (.lit (.string ⟨⟨[37]⟩⟩)))] fun x6_1 T1 n1 =>
 callK (ih 217 ro [a0, (.fn (.func 247) [a0] []), x6_1] T1 n1) fun x7_2 T2 n2 =>
 .ok (.val x7_2) T2 n2
theorem g245_ok (ih : FuncId → List HT → List AV → HT → Nat → R) (hI : ∀ f ro args T nx, GOk Tryz.prog envE f args ro T nx (ih f ro args T nx)) (ro : List HT) (a0 : AV) (T : HT) (nx : Nat) : GOk Tryz.prog envE 245 [a0] ro T nx (g245 ih ro a0 T nx) := by
 refine GOk.of_body Tryz.func245 rfl Tryz.ntmps245 (by kernel_rfl) rfl fun r T' n' h1 w0 base ρ0 its hS hP => ?_
 have X : CtxW envE ρ0 ro r T' n' := trivial
 unfold g245 at h1
 refine sr ?_
 refine as_ ?_
 refine dn ?_
 refine sr ?_
 refine mv ?_
 refine mv ?_
 refine pu ?_
 refine LV.bslice hS h1 rfl rfl Rnf.el46 rfl rfl rfl rfl fun x6_1 T1 n1 h2 ρ its hS hdr => ?_
 refine LV.call hS h2 (hI _ _ _ _ _) hP rfl rfl rfl rfl fun x7_2 T2 n2 h3 ρ its hS => ?_
 refine as_ ?_
 refine dn ?_
 refine CV.ret ?_
 cases h3
 exact PV.ret (by simp) Tryz.results245 hS (RS.tmp rfl RS.nil) rfl
noncomputable def ap3 (ih : FuncId → List HT → List AV → HT → Nat → R) (f : FuncId) (ro : List HT) (args : List AV) (T : HT) (nx : Nat) : R :=
  Bool.rec (motive := fun _ => R) (Bool.rec (motive := fun _ => R) (Bool.rec (motive := fun _ => R) (Bool.rec (motive := fun _ => R) (Bool.rec (motive := fun _ => R) (Bool.rec (motive := fun _ => R) (.bad 2) (List.rec (motive := fun _ => R) (.bad 1) (fun a0 l0 _ => List.rec (motive := fun _ => R) (scc2 4000 247 ro [a0] T nx) (fun _ _ _ => .bad 1) l0) args) (Nat.beq f 247)) (Bool.rec (motive := fun _ => R) (.bad 2) (List.rec (motive := fun _ => R) (.bad 1) (fun a0 l0 _ => List.rec (motive := fun _ => R) (g245 ih ro a0 T nx) (fun _ _ _ => .bad 1) l0) args) (Nat.beq f 245)) (Nat.ble f 245)) (Bool.rec (motive := fun _ => R) (.bad 2) (List.rec (motive := fun _ => R) (.bad 1) (fun a0 l0 _ => List.rec (motive := fun _ => R) (g241 ih ro a0 T nx) (fun _ _ _ => .bad 1) l0) args) (Nat.beq f 241)) (Nat.ble f 241)) (Bool.rec (motive := fun _ => R) (Bool.rec (motive := fun _ => R) (Bool.rec (motive := fun _ => R) (.bad 2) (List.rec (motive := fun _ => R) (.bad 1) (fun a0 l0 _ => List.rec (motive := fun _ => R) (g237 ih ro a0 T nx) (fun _ _ _ => .bad 1) l0) args) (Nat.beq f 237)) (Bool.rec (motive := fun _ => R) (.bad 2) (List.rec (motive := fun _ => R) (.bad 1) (fun a0 l0 _ => List.rec (motive := fun _ => R) (g232 ih ro a0 T nx) (fun _ _ _ => .bad 1) l0) args) (Nat.beq f 232)) (Nat.ble f 232)) (Bool.rec (motive := fun _ => R) (.bad 2) (List.rec (motive := fun _ => R) (.bad 1) (fun a0 l0 _ => List.rec (motive := fun _ => R) (g218 ih ro a0 T nx) (fun _ _ _ => .bad 1) l0) args) (Nat.beq f 218)) (Nat.ble f 218)) (Nat.ble f 237)) (Bool.rec (motive := fun _ => R) (Bool.rec (motive := fun _ => R) (Bool.rec (motive := fun _ => R) (Bool.rec (motive := fun _ => R) (.bad 2) (List.rec (motive := fun _ => R) (.bad 1) (fun a0 l0 _ => List.rec (motive := fun _ => R) (.bad 1) (fun a1 l1 _ => List.rec (motive := fun _ => R) (.bad 1) (fun a2 l2 _ => List.rec (motive := fun _ => R) (g217 ih ro a0 a1 a2 T nx) (fun _ _ _ => .bad 1) l2) l1) l0) args) (Nat.beq f 217)) (Bool.rec (motive := fun _ => R) (.bad 2) (List.rec (motive := fun _ => R) (.bad 1) (fun a0 l0 _ => List.rec (motive := fun _ => R) (g189 ih ro a0 T nx) (fun _ _ _ => .bad 1) l0) args) (Nat.beq f 189)) (Nat.ble f 189)) (Bool.rec (motive := fun _ => R) (.bad 2) (List.rec (motive := fun _ => R) (.bad 1) (fun a0 l0 _ => List.rec (motive := fun _ => R) (g183 ro a0 T nx) (fun _ _ _ => .bad 1) l0) args) (Nat.beq f 183)) (Nat.ble f 183)) (Bool.rec (motive := fun _ => R) (Bool.rec (motive := fun _ => R) (Bool.rec (motive := fun _ => R) (.bad 2) (List.rec (motive := fun _ => R) (.bad 1) (fun a0 l0 _ => List.rec (motive := fun _ => R) (g180 ih ro a0 T nx) (fun _ _ _ => .bad 1) l0) args) (Nat.beq f 180)) (Bool.rec (motive := fun _ => R) (.bad 2) (List.rec (motive := fun _ => R) (.bad 1) (fun a0 l0 _ => List.rec (motive := fun _ => R) (g175 ih ro a0 T nx) (fun _ _ _ => .bad 1) l0) args) (Nat.beq f 175)) (Nat.ble f 175)) (Bool.rec (motive := fun _ => R) (.bad 2) (List.rec (motive := fun _ => R) (.bad 1) (fun a0 l0 _ => List.rec (motive := fun _ => R) (.bad 1) (fun a1 l1 _ => List.rec (motive := fun _ => R) (g152 ro a0 a1 T nx) (fun _ _ _ => .bad 1) l1) l0) args) (Nat.beq f 152)) (Nat.ble f 152)) (Nat.ble f 180)) (Nat.ble f 217)) (Bool.rec (motive := fun _ => R) (Bool.rec (motive := fun _ => R) (Bool.rec (motive := fun _ => R) (Bool.rec (motive := fun _ => R) (Bool.rec (motive := fun _ => R) (.bad 2) (List.rec (motive := fun _ => R) (.bad 1) (fun a0 l0 _ => List.rec (motive := fun _ => R) (g130 ih ro a0 T nx) (fun _ _ _ => .bad 1) l0) args) (Nat.beq f 130)) (Bool.rec (motive := fun _ => R) (.bad 2) (List.rec (motive := fun _ => R) (.bad 1) (fun a0 l0 _ => List.rec (motive := fun _ => R) (g116 ro a0 T nx) (fun _ _ _ => .bad 1) l0) args) (Nat.beq f 116)) (Nat.ble f 116)) (Bool.rec (motive := fun _ => R) (.bad 2) (List.rec (motive := fun _ => R) (.bad 1) (fun a0 l0 _ => List.rec (motive := fun _ => R) (g114 ro a0 T nx) (fun _ _ _ => .bad 1) l0) args) (Nat.beq f 114)) (Nat.ble f 114)) (Bool.rec (motive := fun _ => R) (Bool.rec (motive := fun _ => R) (Bool.rec (motive := fun _ => R) (.bad 2) (List.rec (motive := fun _ => R) (.bad 1) (fun a0 l0 _ => List.rec (motive := fun _ => R) (.bad 1) (fun a1 l1 _ => List.rec (motive := fun _ => R) (g103 ih ro a0 a1 T nx) (fun _ _ _ => .bad 1) l1) l0) args) (Nat.beq f 103)) (Bool.rec (motive := fun _ => R) (.bad 2) (List.rec (motive := fun _ => R) (.bad 1) (fun a0 l0 _ => List.rec (motive := fun _ => R) (g102 ih ro a0 T nx) (fun _ _ _ => .bad 1) l0) args) (Nat.beq f 102)) (Nat.ble f 102)) (Bool.rec (motive := fun _ => R) (.bad 2) (List.rec (motive := fun _ => R) (.bad 1) (fun a0 l0 _ => List.rec (motive := fun _ => R) (.bad 1) (fun a1 l1 _ => List.rec (motive := fun _ => R) (g86 ro a0 a1 T nx) (fun _ _ _ => .bad 1) l1) l0) args) (Nat.beq f 86)) (Nat.ble f 86)) (Nat.ble f 103)) (Bool.rec (motive := fun _ => R) (Bool.rec (motive := fun _ => R) (Bool.rec (motive := fun _ => R) (Bool.rec (motive := fun _ => R) (.bad 2) (List.rec (motive := fun _ => R) (.bad 1) (fun a0 l0 _ => List.rec (motive := fun _ => R) (g77 ih ro a0 T nx) (fun _ _ _ => .bad 1) l0) args) (Nat.beq f 77)) (Bool.rec (motive := fun _ => R) (.bad 2) (List.rec (motive := fun _ => R) (.bad 1) (fun a0 l0 _ => List.rec (motive := fun _ => R) (.bad 1) (fun a1 l1 _ => List.rec (motive := fun _ => R) (g64 ih ro a0 a1 T nx) (fun _ _ _ => .bad 1) l1) l0) args) (Nat.beq f 64)) (Nat.ble f 64)) (Bool.rec (motive := fun _ => R) (.bad 2) (List.rec (motive := fun _ => R) (.bad 1) (fun a0 l0 _ => List.rec (motive := fun _ => R) (.bad 1) (fun a1 l1 _ => List.rec (motive := fun _ => R) (g60 ro a0 a1 T nx) (fun _ _ _ => .bad 1) l1) l0) args) (Nat.beq f 60)) (Nat.ble f 60)) (Bool.rec (motive := fun _ => R) (Bool.rec (motive := fun _ => R) (Bool.rec (motive := fun _ => R) (.bad 2) (List.rec (motive := fun _ => R) (.bad 1) (fun a0 l0 _ => List.rec (motive := fun _ => R) (g49 ih ro a0 T nx) (fun _ _ _ => .bad 1) l0) args) (Nat.beq f 49)) (Bool.rec (motive := fun _ => R) (.bad 2) (List.rec (motive := fun _ => R) (.bad 1) (fun a0 l0 _ => List.rec (motive := fun _ => R) (g35 ih ro a0 T nx) (fun _ _ _ => .bad 1) l0) args) (Nat.beq f 35)) (Nat.ble f 35)) (Bool.rec (motive := fun _ => R) (.bad 2) (List.rec (motive := fun _ => R) (.bad 1) (fun a0 l0 _ => List.rec (motive := fun _ => R) (g34 ih ro a0 T nx) (fun _ _ _ => .bad 1) l0) args) (Nat.beq f 34)) (Nat.ble f 34)) (Nat.ble f 49)) (Nat.ble f 77)) (Nat.ble f 130)
noncomputable def scc3 (fuel : Nat) : FuncId → List HT → List AV → HT → Nat → R :=
  Nat.rec (motive := fun _ => FuncId → List HT → List AV → HT → Nat → R) (fun _ _ _ _ _ => .bad 3) (fun _ ih => ap3 ih) fuel
theorem ap3_ok (ih : FuncId → List HT → List AV → HT → Nat → R) (hI : ∀ f ro args T nx, GOk Tryz.prog envE f args ro T nx (ih f ro args T nx)) (f : FuncId) (ro : List HT) (args : List AV) (T : HT) (nx : Nat) : GOk Tryz.prog envE f args ro T nx (ap3 ih f ro args T nx) := by
  unfold ap3
  refine recb_go (fun hb => ?_) (fun _ => ?_)
  · refine recb_go (fun hb => ?_) (fun _ => ?_)
    · refine recb_go (fun hb => ?_) (fun _ => ?_)
      · refine recb_go (fun hb => ?_) (fun _ => ?_)
        · refine recb_go (fun hb => ?_) (fun _ => ?_)
          · obtain rfl := beqT hb
            rcases args with _ | ⟨a0, l0⟩
            · exact GOk.bad
            rcases l0 with _ | ⟨_, _⟩
            · exact g34_ok _ hI _ _ _ _ 
            · exact GOk.bad
          · exact GOk.bad
        · refine recb_go (fun hb => ?_) (fun _ => ?_)
          · refine recb_go (fun hb => ?_) (fun _ => ?_)
            · obtain rfl := beqT hb
              rcases args with _ | ⟨a0, l0⟩
              · exact GOk.bad
              rcases l0 with _ | ⟨_, _⟩
              · exact g35_ok _ hI _ _ _ _ 
              · exact GOk.bad
            · exact GOk.bad
          · refine recb_go (fun hb => ?_) (fun _ => ?_)
            · obtain rfl := beqT hb
              rcases args with _ | ⟨a0, l0⟩
              · exact GOk.bad
              rcases l0 with _ | ⟨_, _⟩
              · exact g49_ok _ hI _ _ _ _ 
              · exact GOk.bad
            · exact GOk.bad
      · refine recb_go (fun hb => ?_) (fun _ => ?_)
        · refine recb_go (fun hb => ?_) (fun _ => ?_)
          · obtain rfl := beqT hb
            rcases args with _ | ⟨a0, l0⟩
            · exact GOk.bad
            rcases l0 with _ | ⟨a1, l1⟩
            · exact GOk.bad
            rcases l1 with _ | ⟨_, _⟩
            · exact g60_ok _ _ _ _ _ 
            · exact GOk.bad
          · exact GOk.bad
        · refine recb_go (fun hb => ?_) (fun _ => ?_)
          · refine recb_go (fun hb => ?_) (fun _ => ?_)
            · obtain rfl := beqT hb
              rcases args with _ | ⟨a0, l0⟩
              · exact GOk.bad
              rcases l0 with _ | ⟨a1, l1⟩
              · exact GOk.bad
              rcases l1 with _ | ⟨_, _⟩
              · exact g64_ok _ hI _ _ _ _ _ 
              · exact GOk.bad
            · exact GOk.bad
          · refine recb_go (fun hb => ?_) (fun _ => ?_)
            · obtain rfl := beqT hb
              rcases args with _ | ⟨a0, l0⟩
              · exact GOk.bad
              rcases l0 with _ | ⟨_, _⟩
              · exact g77_ok _ hI _ _ _ _ 
              · exact GOk.bad
            · exact GOk.bad
    · refine recb_go (fun hb => ?_) (fun _ => ?_)
      · refine recb_go (fun hb => ?_) (fun _ => ?_)
        · refine recb_go (fun hb => ?_) (fun _ => ?_)
          · obtain rfl := beqT hb
            rcases args with _ | ⟨a0, l0⟩
            · exact GOk.bad
            rcases l0 with _ | ⟨a1, l1⟩
            · exact GOk.bad
            rcases l1 with _ | ⟨_, _⟩
            · exact g86_ok _ _ _ _ _ 
            · exact GOk.bad
          · exact GOk.bad
        · refine recb_go (fun hb => ?_) (fun _ => ?_)
          · refine recb_go (fun hb => ?_) (fun _ => ?_)
            · obtain rfl := beqT hb
              rcases args with _ | ⟨a0, l0⟩
              · exact GOk.bad
              rcases l0 with _ | ⟨_, _⟩
              · exact g102_ok _ hI _ _ _ _ 
              · exact GOk.bad
            · exact GOk.bad
          · refine recb_go (fun hb => ?_) (fun _ => ?_)
            · obtain rfl := beqT hb
              rcases args with _ | ⟨a0, l0⟩
              · exact GOk.bad
              rcases l0 with _ | ⟨a1, l1⟩
              · exact GOk.bad
              rcases l1 with _ | ⟨_, _⟩
              · exact g103_ok _ hI _ _ _ _ _ 
              · exact GOk.bad
            · exact GOk.bad
      · refine recb_go (fun hb => ?_) (fun _ => ?_)
        · refine recb_go (fun hb => ?_) (fun _ => ?_)
          · obtain rfl := beqT hb
            rcases args with _ | ⟨a0, l0⟩
            · exact GOk.bad
            rcases l0 with _ | ⟨_, _⟩
            · exact g114_ok _ _ _ _ 
            · exact GOk.bad
          · exact GOk.bad
        · refine recb_go (fun hb => ?_) (fun _ => ?_)
          · refine recb_go (fun hb => ?_) (fun _ => ?_)
            · obtain rfl := beqT hb
              rcases args with _ | ⟨a0, l0⟩
              · exact GOk.bad
              rcases l0 with _ | ⟨_, _⟩
              · exact g116_ok _ _ _ _ 
              · exact GOk.bad
            · exact GOk.bad
          · refine recb_go (fun hb => ?_) (fun _ => ?_)
            · obtain rfl := beqT hb
              rcases args with _ | ⟨a0, l0⟩
              · exact GOk.bad
              rcases l0 with _ | ⟨_, _⟩
              · exact g130_ok _ hI _ _ _ _ 
              · exact GOk.bad
            · exact GOk.bad
  · refine recb_go (fun hb => ?_) (fun _ => ?_)
    · refine recb_go (fun hb => ?_) (fun _ => ?_)
      · refine recb_go (fun hb => ?_) (fun _ => ?_)
        · refine recb_go (fun hb => ?_) (fun _ => ?_)
          · obtain rfl := beqT hb
            rcases args with _ | ⟨a0, l0⟩
            · exact GOk.bad
            rcases l0 with _ | ⟨a1, l1⟩
            · exact GOk.bad
            rcases l1 with _ | ⟨_, _⟩
            · exact g152_ok _ _ _ _ _ 
            · exact GOk.bad
          · exact GOk.bad
        · refine recb_go (fun hb => ?_) (fun _ => ?_)
          · refine recb_go (fun hb => ?_) (fun _ => ?_)
            · obtain rfl := beqT hb
              rcases args with _ | ⟨a0, l0⟩
              · exact GOk.bad
              rcases l0 with _ | ⟨_, _⟩
              · exact g175_ok _ hI _ _ _ _ 
              · exact GOk.bad
            · exact GOk.bad
          · refine recb_go (fun hb => ?_) (fun _ => ?_)
            · obtain rfl := beqT hb
              rcases args with _ | ⟨a0, l0⟩
              · exact GOk.bad
              rcases l0 with _ | ⟨_, _⟩
              · exact g180_ok _ hI _ _ _ _ 
              · exact GOk.bad
            · exact GOk.bad
      · refine recb_go (fun hb => ?_) (fun _ => ?_)
        · refine recb_go (fun hb => ?_) (fun _ => ?_)
          · obtain rfl := beqT hb
            rcases args with _ | ⟨a0, l0⟩
            · exact GOk.bad
            rcases l0 with _ | ⟨_, _⟩
            · exact g183_ok _ _ _ _ 
            · exact GOk.bad
          · exact GOk.bad
        · refine recb_go (fun hb => ?_) (fun _ => ?_)
          · refine recb_go (fun hb => ?_) (fun _ => ?_)
            · obtain rfl := beqT hb
              rcases args with _ | ⟨a0, l0⟩
              · exact GOk.bad
              rcases l0 with _ | ⟨_, _⟩
              · exact g189_ok _ hI _ _ _ _ 
              · exact GOk.bad
            · exact GOk.bad
          · refine recb_go (fun hb => ?_) (fun _ => ?_)
            · obtain rfl := beqT hb
              rcases args with _ | ⟨a0, l0⟩
              · exact GOk.bad
              rcases l0 with _ | ⟨a1, l1⟩
              · exact GOk.bad
              rcases l1 with _ | ⟨a2, l2⟩
              · exact GOk.bad
              rcases l2 with _ | ⟨_, _⟩
              · exact g217_ok _ hI _ _ _ _ _ _ 
              · exact GOk.bad
            · exact GOk.bad
    · refine recb_go (fun hb => ?_) (fun _ => ?_)
      · refine recb_go (fun hb => ?_) (fun _ => ?_)
        · refine recb_go (fun hb => ?_) (fun _ => ?_)
          · obtain rfl := beqT hb
            rcases args with _ | ⟨a0, l0⟩
            · exact GOk.bad
            rcases l0 with _ | ⟨_, _⟩
            · exact g218_ok _ hI _ _ _ _ 
            · exact GOk.bad
          · exact GOk.bad
        · refine recb_go (fun hb => ?_) (fun _ => ?_)
          · refine recb_go (fun hb => ?_) (fun _ => ?_)
            · obtain rfl := beqT hb
              rcases args with _ | ⟨a0, l0⟩
              · exact GOk.bad
              rcases l0 with _ | ⟨_, _⟩
              · exact g232_ok _ hI _ _ _ _ 
              · exact GOk.bad
            · exact GOk.bad
          · refine recb_go (fun hb => ?_) (fun _ => ?_)
            · obtain rfl := beqT hb
              rcases args with _ | ⟨a0, l0⟩
              · exact GOk.bad
              rcases l0 with _ | ⟨_, _⟩
              · exact g237_ok _ hI _ _ _ _ 
              · exact GOk.bad
            · exact GOk.bad
      · refine recb_go (fun hb => ?_) (fun _ => ?_)
        · refine recb_go (fun hb => ?_) (fun _ => ?_)
          · obtain rfl := beqT hb
            rcases args with _ | ⟨a0, l0⟩
            · exact GOk.bad
            rcases l0 with _ | ⟨_, _⟩
            · exact g241_ok _ hI _ _ _ _ 
            · exact GOk.bad
          · exact GOk.bad
        · refine recb_go (fun hb => ?_) (fun _ => ?_)
          · refine recb_go (fun hb => ?_) (fun _ => ?_)
            · obtain rfl := beqT hb
              rcases args with _ | ⟨a0, l0⟩
              · exact GOk.bad
              rcases l0 with _ | ⟨_, _⟩
              · exact g245_ok _ hI _ _ _ _ 
              · exact GOk.bad
            · exact GOk.bad
          · refine recb_go (fun hb => ?_) (fun _ => ?_)
            · obtain rfl := beqT hb
              rcases args with _ | ⟨a0, l0⟩
              · exact GOk.bad
              rcases l0 with _ | ⟨_, _⟩
              · exact scc2_ok _ _ _ _ _ _
              · exact GOk.bad
            · exact GOk.bad
theorem scc3_ok : ∀ (fuel : Nat) (f : FuncId) (ro : List HT) (args : List AV) (T : HT) (nx : Nat), GOk Tryz.prog envE f args ro T nx (scc3 fuel f ro args T nx)
  | 0, _, _, _, _, _ => GOk.bad
  | fuel + 1, f, ro, args, T, nx => ap3_ok (scc3 fuel) (scc3_ok fuel) f ro args T nx
noncomputable def g98 (ro : List HT) (a0 a1 a2 a3 : AV) (T : HT) (nx : Nat) : R :=
 fldK 980003 T ro a0 2 fun x12_1 =>
 optK 980007 (bld139 [(0, a1), (1, a2), (2, a3)]) fun x16_2 =>
 bsK 980008 T nx 1 139 3 [(0, x16_2)] fun x17_3 T1 n1 =>
 shrK 980010 T1 x12_1 fun T2 =>
 appK 980009 T2 ro n1 139 3 32 x12_1 x17_3 fun x18_4 T3 n3 =>
 faK 980011 a0 2 fun x20_5 =>
 stK 980012 T3 x20_5 x18_4 fun T4 =>
 .ok (.val (.tup [])) T4 n3
theorem g98_ok (ro : List HT) (a0 a1 a2 a3 : AV) (T : HT) (nx : Nat) : GOk Tryz.prog envE 98 [a0, a1, a2, a3] ro T nx (g98 ro a0 a1 a2 a3 T nx) := by
 refine GOk.of_body Tryz.func98 rfl Tryz.ntmps98 (by kernel_rfl) rfl fun r T' n' h1 w0 base ρ0 its hS hP => ?_
 have X : CtxW envE ρ0 ro r T' n' := trivial
 unfold g98 at h1
 refine CV.region ?_
 refine mv ?_
 refine mv ?_
 refine fl hS h1 Rnf.fo168_2 Rnf.one96 fun x12_1 h2 => ?_
 refine mv ?_
 refine mv ?_
 refine mv ?_
 refine vy (V.bld h2 rfl) fun x16_2 h3 => ?_
 refine LV.bslice hS h3 rfl rfl Rnf.el96 rfl rfl rfl rfl fun x17_3 T1 n1 h4 ρ its hS hdr => ?_
 obtain ⟨T2, its1, h5, hS, hW⟩ := shrK_inv hS h4
 refine LV.world hW ?_
 refine LV.app hS h5 rfl rfl rfl rfl Rnf.el96 rfl rfl rfl fun x18_4 T3 n3 h6 ρ its hS => ?_
 refine fa2 h6 Rnf.fo168_2 fun x20_5 h7 => ?_
 refine LV.st hS h7 rfl rfl rfl Rnf.siz96 rfl rfl fun T4 its h8 hS => ?_
 refine LV.done ?_
 cases h8
 exact PV.ret (by simp) Tryz.results98 hS RS.nil rfl
noncomputable def g97_k1 (ro : List HT) (y0 : AV) (T1 : HT) (n1 : Nat) : R :=
 faK 970002 y0 5 fun x14_1 =>
 stK 970003 T1 x14_1 (.lit (.bool false)) fun T2 =>
 .ok (.val (.tup [])) T2 n1
noncomputable def g97 (ro : List HT) (a0 : AV) (T : HT) (nx : Nat) : R :=
 fldK 970005 T ro a0 5 fun x5_2 =>
 condK 970006 x5_2
 (
  fldK 970009 T ro a0 1 fun x10_3 =>
  callK (g98 ro a0 (.lit (.int .i64 (.ofNat 5))) (.lit (.string ⟨⟨[]⟩⟩)) x10_3 T nx) fun x11_4 T3 n3 =>
  g97_k1 ro a0 T3 n3
 )
 (
  g97_k1 ro a0 T nx
 )
theorem g97_ok (ro : List HT) (a0 : AV) (T : HT) (nx : Nat) : GOk Tryz.prog envE 97 [a0] ro T nx (g97 ro a0 T nx) := by
 refine GOk.of_body Tryz.func97 rfl Tryz.ntmps97 (by kernel_rfl) rfl fun r T' n' h1 w0 base ρ0 its hS hP => ?_
 have X : CtxW envE ρ0 ro r T' n' := trivial
 unfold g97 at h1
 refine cs1 X 0 [] (g97_k1 ro) ?_ ?_
 ·
  refine sr ?_
  refine mv ?_
  refine fl hS h1 Rnf.fo168_5 Rnf.one4 fun x5_2 h5 => ?_
  refine dn ?_
  refine CV.cond h5 rfl (fun e h6 => ?_) (fun e h6 => ?_)
  ·
   clear h1 h5
   subst e
   refine CV.region ?_
   refine mv ?_
   refine mv ?_
   refine fl hS h6 Rnf.fo168_1 Rnf.one3 fun x10_3 h7 => ?_
   refine LV.call hS h7 (g98_ok _ _ _ _ _ _ _ ) hP rfl rfl rfl rfl fun x11_4 T3 n3 h8 ρ its hS => ?_
   refine LV.done ?_
   exact pa1 hS h8 ⟨rfl, trivial⟩
  ·
   clear h1 h5
   subst e
   refine CV.skip ?_
   exact pa1 hS h6 ⟨rfl, trivial⟩
 ·
  intro y0 T1 n1 ρ its hS h2
  unfold g97_k1 at h2
  clear h1
  refine CV.region ?_
  refine mv ?_
  refine fa2 h2 Rnf.fo168_5 fun x14_1 h3 => ?_
  refine LV.st hS h3 rfl rfl rfl Rnf.siz4 rfl rfl fun T2 its h4 hS => ?_
  refine LV.done ?_
  cases h4
  exact PV.ret (by simp) Tryz.results97 hS RS.nil rfl
noncomputable def g104_k3 (ro : List HT) (y20 : AV) (T3 : HT) (n3 : Nat) : R :=
 .ok (.val y20) T3 n3
noncomputable def g104_k2 (ro : List HT) (y0 y16 : AV) (T2 : HT) (n2 : Nat) : R :=
 condK 1040008 y16
 (
  g104_k3 ro (.lit (.bool true)) T2 n2
 )
 (
  eqK Tryz.prog 5 (.tmp 18) (.const (.int .u8 (.ofNat 95))) 1040011 y0 (.lit (.int .u8 (.ofNat 95))) fun x19_2 =>
  g104_k3 ro x19_2 T2 n2
 )
noncomputable def g104_k4 (ro : List HT) (y0 y15 : AV) (T4 : HT) (n4 : Nat) : R :=
 g104_k2 ro y0 y15 T4 n4
noncomputable def g104_k1 (ro : List HT) (y0 y8 : AV) (T1 : HT) (n1 : Nat) : R :=
 condK 1040013 y8
 (
  g104_k2 ro y0 (.lit (.bool true)) T1 n1
 )
 (
  geK Tryz.prog 5 (.tmp 10) (.const (.int .u8 (.ofNat 65))) 1040016 y0 (.lit (.int .u8 (.ofNat 65))) fun x11_3 =>
  condK 1040019 x11_3
  (
   leK Tryz.prog 5 (.tmp 13) (.const (.int .u8 (.ofNat 90))) 1040021 y0 (.lit (.int .u8 (.ofNat 90))) fun x14_4 =>
   g104_k4 ro y0 x14_4 T1 n1
  )
  (
   g104_k4 ro y0 (.lit (.bool false)) T1 n1
  )
 )
noncomputable def g104 (ro : List HT) (a0 : AV) (T : HT) (nx : Nat) : R :=
 geK Tryz.prog 5 (.tmp 3) (.const (.int .u8 (.ofNat 97))) 1040003 a0 (.lit (.int .u8 (.ofNat 97))) fun x4_1 =>
 condK 1040024 x4_1
 (
  leK Tryz.prog 5 (.tmp 6) (.const (.int .u8 (.ofNat 122))) 1040026 a0 (.lit (.int .u8 (.ofNat 122))) fun x7_5 =>
  g104_k1 ro a0 x7_5 T nx
 )
 (
  g104_k1 ro a0 (.lit (.bool false)) T nx
 )
theorem g104_ok (ro : List HT) (a0 : AV) (T : HT) (nx : Nat) : GOk Tryz.prog envE 104 [a0] ro T nx (g104 ro a0 T nx) := by
 refine GOk.of_body Tryz.func104 rfl Tryz.ntmps104 (by kernel_rfl) rfl fun r T' n' h1 w0 base ρ0 its hS hP => ?_
 have X : CtxW envE ρ0 ro r T' n' := trivial
 unfold g104 at h1
 refine sr ?_
 refine as_ ?_
 refine dn ?_
 refine sr ?_
 refine mv ?_
 refine vy (V.ge h1 rfl rfl) fun x4_1 h2 => ?_
 refine mv ?_
 refine ls2 X 0 8 [(2, (.lit (.bool false)))] (g104_k1 ro) 3 ?_ ?_
 ·
  rcases condK_inv h2 with ⟨e, h13⟩ | ⟨e, h13⟩
  ·
   clear h1 h2
   subst e
   refine mv ?_
   refine vy (V.le h13 rfl rfl) fun x7_5 h14 => ?_
   refine pu ?_
   exact la2 hS h14 ⟨rfl, rfl, rfl, trivial⟩
  ·
   clear h1 h2
   subst e
   refine sk ?_
   refine sk ?_
   refine pu ?_
   exact la2 hS h13 ⟨rfl, rfl, rfl, trivial⟩
 ·
  intro y0 y8 T1 n1 ρ its hS h3
  unfold g104_k1 at h3
  clear h1 h2
  refine mv ?_
  refine ls2 X 0 16 [(2, (.lit (.bool false)))] (g104_k2 ro) 7 ?_ ?_
  ·
   rcases condK_inv h3 with ⟨e, h8⟩ | ⟨e, h8⟩
   ·
    clear h3
    subst e
    refine sk ?_
    refine sk ?_
    refine sk ?_
    refine sk ?_
    refine sk ?_
    refine sk ?_
    refine pu ?_
    exact la2 hS h8 ⟨rfl, rfl, rfl, trivial⟩
   ·
    clear h3
    subst e
    refine mv ?_
    refine vy (V.ge h8 rfl rfl) fun x11_3 h9 => ?_
    refine mv ?_
    refine ls2 X 0 15 [(2, (.lit (.bool false))), (9, (.lit (.bool false)))] (g104_k4 ro) 3 ?_ ?_
    ·
     rcases condK_inv h9 with ⟨e, h11⟩ | ⟨e, h11⟩
     ·
      clear h8 h9
      subst e
      refine mv ?_
      refine vy (V.le h11 rfl rfl) fun x14_4 h12 => ?_
      refine pu ?_
      exact la2 hS h12 ⟨rfl, rfl, rfl, rfl, trivial⟩
     ·
      clear h8 h9
      subst e
      refine sk ?_
      refine sk ?_
      refine pu ?_
      exact la2 hS h11 ⟨rfl, rfl, rfl, rfl, trivial⟩
    ·
     intro y0 y15 T4 n4 ρ its hS h10
     unfold g104_k4 at h10
     clear h8 h9
     refine pu ?_
     exact la2 hS h10 ⟨rfl, rfl, rfl, trivial⟩
  ·
   intro y0 y16 T2 n2 ρ its hS h4
   unfold g104_k2 at h4
   clear h3
   refine mv ?_
   refine ls1 X 20 [(2, (.lit (.bool false)))] (g104_k3 ro) 3 ?_ ?_
   ·
    rcases condK_inv h4 with ⟨e, h6⟩ | ⟨e, h6⟩
    ·
     clear h4
     subst e
     refine sk ?_
     refine sk ?_
     refine pu ?_
     exact la1 hS h6 ⟨rfl, rfl, trivial⟩
    ·
     clear h4
     subst e
     refine mv ?_
     refine vy (V.eq h6 rfl rfl) fun x19_2 h7 => ?_
     refine pu ?_
     exact la1 hS h7 ⟨rfl, rfl, trivial⟩
   ·
    intro y20 T3 n3 ρ its hS h5
    unfold g104_k3 at h5
    clear h4
    refine as_ ?_
    refine dn ?_
    refine CV.ret ?_
    cases h5
    exact PV.ret (by simp) Tryz.results104 hS (RS.tmp rfl RS.nil) rfl
noncomputable def g105_k1 (ro : List HT) (y8 : AV) (T1 : HT) (n1 : Nat) : R :=
 .ok (.val y8) T1 n1
noncomputable def g105 (ro : List HT) (a0 : AV) (T : HT) (nx : Nat) : R :=
 geK Tryz.prog 5 (.tmp 3) (.const (.int .u8 (.ofNat 48))) 1050003 a0 (.lit (.int .u8 (.ofNat 48))) fun x4_1 =>
 condK 1050006 x4_1
 (
  leK Tryz.prog 5 (.tmp 6) (.const (.int .u8 (.ofNat 57))) 1050008 a0 (.lit (.int .u8 (.ofNat 57))) fun x7_2 =>
  g105_k1 ro x7_2 T nx
 )
 (
  g105_k1 ro (.lit (.bool false)) T nx
 )
theorem g105_ok (ro : List HT) (a0 : AV) (T : HT) (nx : Nat) : GOk Tryz.prog envE 105 [a0] ro T nx (g105 ro a0 T nx) := by
 refine GOk.of_body Tryz.func105 rfl Tryz.ntmps105 (by kernel_rfl) rfl fun r T' n' h1 w0 base ρ0 its hS hP => ?_
 have X : CtxW envE ρ0 ro r T' n' := trivial
 unfold g105 at h1
 refine sr ?_
 refine as_ ?_
 refine dn ?_
 refine sr ?_
 refine mv ?_
 refine vy (V.ge h1 rfl rfl) fun x4_1 h2 => ?_
 refine mv ?_
 refine ls1 X 8 [(2, (.lit (.bool false)))] (g105_k1 ro) 3 ?_ ?_
 ·
  rcases condK_inv h2 with ⟨e, h4⟩ | ⟨e, h4⟩
  ·
   clear h1 h2
   subst e
   refine mv ?_
   refine vy (V.le h4 rfl rfl) fun x7_2 h5 => ?_
   refine pu ?_
   exact la1 hS h5 ⟨rfl, rfl, trivial⟩
  ·
   clear h1 h2
   subst e
   refine sk ?_
   refine sk ?_
   refine pu ?_
   exact la1 hS h4 ⟨rfl, rfl, trivial⟩
 ·
  intro y8 T1 n1 ρ its hS h3
  unfold g105_k1 at h3
  clear h1 h2
  refine as_ ?_
  refine dn ?_
  refine CV.ret ?_
  cases h3
  exact PV.ret (by simp) Tryz.results105 hS (RS.tmp rfl RS.nil) rfl
noncomputable def g207_k1 (ro : List HT) (y17 : AV) (T1 : HT) (n1 : Nat) : R :=
 .ok (.val y17) T1 n1
noncomputable def g207 (ro : List HT) (a0 a1 : AV) (T : HT) (nx : Nat) : R :=
 lenTK 2070003 a0 fun x6_1 =>
 lenTK 2070005 a1 fun x8_2 =>
 geK Tryz.prog 3 (.tmp 6) (.tmp 8) 2070006 x6_1 x8_2 fun x9_3 =>
 condK 2070009 x9_3
 (
  lenTK 2070012 a1 fun x13_4 =>
  sliceF 2070013 a0 none (some x13_4) fun x14_5 =>
  eqSK Tryz.prog 9 (.tmp 14) (.tmp 15) 2070015 x14_5 a1 fun x16_6 =>
  g207_k1 ro x16_6 T nx
 )
 (
  g207_k1 ro (.lit (.bool false)) T nx
 )
theorem g207_ok (ro : List HT) (a0 a1 : AV) (T : HT) (nx : Nat) : GOk Tryz.prog envE 207 [a0, a1] ro T nx (g207 ro a0 a1 T nx) := by
 refine GOk.of_body Tryz.func207 rfl Tryz.ntmps207 (by kernel_rfl) rfl fun r T' n' h1 w0 base ρ0 its hS hP => ?_
 have X : CtxW envE ρ0 ro r T' n' := trivial
 unfold g207 at h1
 refine sr ?_
 refine as_ ?_
 refine dn ?_
 refine sr ?_
 refine mv ?_
 refine vy (V.lenT h1 rfl Rnf.ls9) fun x6_1 h2 => ?_
 refine mv ?_
 refine vy (V.lenT h2 rfl Rnf.ls9) fun x8_2 h3 => ?_
 refine vy (V.ge h3 rfl rfl) fun x9_3 h4 => ?_
 refine mv ?_
 refine ls1 X 17 [(4, (.lit (.bool false)))] (g207_k1 ro) 7 ?_ ?_
 ·
  rcases condK_inv h4 with ⟨e, h6⟩ | ⟨e, h6⟩
  ·
   clear h1 h2 h3 h4
   subst e
   refine mv ?_
   refine mv ?_
   refine vy (V.lenT h6 rfl Rnf.ls9) fun x13_4 h7 => ?_
   refine vy (V.slHi (sliceF_ok h7) rfl rfl Rnf.st9) fun x14_5 h8 => ?_
   refine mv ?_
   refine vy (V.eqS h8 rfl rfl) fun x16_6 h9 => ?_
   refine pu ?_
   exact la1 hS h9 ⟨rfl, rfl, trivial⟩
  ·
   clear h1 h2 h3 h4
   subst e
   refine sk ?_
   refine sk ?_
   refine sk ?_
   refine sk ?_
   refine sk ?_
   refine sk ?_
   refine pu ?_
   exact la1 hS h6 ⟨rfl, rfl, trivial⟩
 ·
  intro y17 T1 n1 ρ its hS h5
  unfold g207_k1 at h5
  clear h1 h2 h3 h4
  refine as_ ?_
  refine dn ?_
  refine CV.ret ?_
  cases h5
  exact PV.ret (by simp) Tryz.results207 hS (RS.tmp rfl RS.nil) rfl
noncomputable def g164 (ro : List HT) (a0 a1 : AV) (T : HT) (nx : Nat) : R :=
 callK (g207 ro a0 a1 T nx) fun x7_1 T1 n1 =>
 .ok (.val x7_1) T1 n1
theorem g164_ok (ro : List HT) (a0 a1 : AV) (T : HT) (nx : Nat) : GOk Tryz.prog envE 164 [a0, a1] ro T nx (g164 ro a0 a1 T nx) := by
 refine GOk.of_body Tryz.func164 rfl Tryz.ntmps164 (by kernel_rfl) rfl fun r T' n' h1 w0 base ρ0 its hS hP => ?_
 have X : CtxW envE ρ0 ro r T' n' := trivial
 unfold g164 at h1
 refine sr ?_
 refine as_ ?_
 refine dn ?_
 refine sr ?_
 refine mv ?_
 refine mv ?_
 refine LV.call hS h1 (g207_ok _ _ _ _ _ ) hP rfl rfl rfl rfl fun x7_1 T1 n1 h2 ρ its hS => ?_
 refine as_ ?_
 refine dn ?_
 refine CV.ret ?_
 cases h2
 exact PV.ret (by simp) Tryz.results164 hS (RS.tmp rfl RS.nil) rfl
noncomputable def g228 (ro : List HT) (T : HT) (nx : Nat) : R :=
 bsK 2280002 T nx 22 9 1 [(0, (.lit (.string ⟨⟨[61, 61]⟩⟩))), (1, (.lit (.string ⟨⟨[33, 61]⟩⟩))), (2, (.lit (.string ⟨⟨[60, 61]⟩⟩))), (3, (.lit (.string ⟨⟨[62, 61]⟩⟩))), (4, (.lit (.string ⟨⟨[43, 61]⟩⟩))), (5, (.lit (.string ⟨⟨[47, 47]⟩⟩))), (6, (.lit (.string ⟨⟨[60]⟩⟩))), (7, (.lit (.string ⟨⟨[62]⟩⟩))), (8, (.lit (.string ⟨⟨[61]⟩⟩))), (9, (.lit (.string ⟨⟨[43]⟩⟩))), (10, (.lit (.string ⟨⟨[45]⟩⟩))), (11, (.lit (.string ⟨⟨[42]⟩⟩))), (12, (.lit (.string ⟨⟨[37]⟩⟩))), (13, (.lit (.string ⟨⟨[40]⟩⟩))), (14, (.lit (.string ⟨⟨[41]⟩⟩))), (15, (.lit (.string ⟨⟨[91]⟩⟩))), (16, (.lit (.string ⟨⟨[93]⟩⟩))), (17, (.lit (.string ⟨⟨[123]⟩⟩))), (18, (.lit (.string ⟨⟨[125]⟩⟩))), (19, (.lit (.string ⟨⟨[44]⟩⟩))), (20, (.lit (.string ⟨⟨[58]⟩⟩))), (21, (.lit (.string ⟨⟨[46]⟩⟩)))] fun x1_1 T1 n1 =>
 .ok (.val x1_1) T1 n1
theorem g228_ok (ro : List HT) (T : HT) (nx : Nat) : GOk Tryz.prog envE 228 [] ro T nx (g228 ro T nx) := by
 refine GOk.of_body Tryz.func228 rfl Tryz.ntmps228 (by kernel_rfl) rfl fun r T' n' h1 w0 base ρ0 its hS hP => ?_
 have X : CtxW envE ρ0 ro r T' n' := trivial
 unfold g228 at h1
 refine sr ?_
 refine as_ ?_
 refine dn ?_
 refine sr ?_
 refine LV.bslice hS h1 rfl rfl Rnf.el46 rfl rfl rfl rfl fun x1_1 T1 n1 h2 ρ its hS hdr => ?_
 refine as_ ?_
 refine dn ?_
 refine CV.ret ?_
 cases h2
 exact PV.ret (by simp) Tryz.results228 hS (RS.tmp rfl RS.nil) rfl
noncomputable def g213_b1 (ro : List HT) (lp1 : AV → AV → AV → AV → AV → HT → Nat → R) (y0 y2 y5 y6 y7 : AV) (T2 : HT) (n2 : Nat) : R :=
 ltK Tryz.prog 3 (.tmp 7) (.tmp 6) 2130006 y7 y6 fun x8_3 =>
 condK 2130007 x8_3
 (
  iaK 2130008 y5 y7 1 fun x9_4 =>
  ldK 2130009 T2 ro x9_4 fun x10_5 =>
  ncK 2130012 y0 fun x12_6 =>
  faK 2130013 x12_6 0 fun x13_7 =>
  ldK 2130014 T2 ro x13_7 fun x14_8 =>
  ncK 2130016 y0 fun x16_9 =>
  faK 2130017 x16_9 1 fun x17_10 =>
  ldK 2130018 T2 ro x17_10 fun x18_11 =>
  sliceF 2130019 x14_8 (some x18_11) none fun x19_12 =>
  callK (g164 ro x19_12 x10_5 T2 n2) fun x21_13 T3 n3 =>
  condK 2130022 x21_13
  (
   .ok (.val x10_5) T3 n3
  )
  (
   addK Tryz.prog 3 (.tmp 7) (.const (.int .i64 (.ofNat 1))) 2130025 y7 (.lit (.int .i64 (.ofNat 1))) fun x23_14 =>
   lp1 y0 y2 y5 y6 x23_14 T3 n3
  )
 )
 (
  .ok (.val (.lit (.string ⟨⟨[]⟩⟩))) T2 n2
 )
noncomputable def g213 (ro : List HT) (a0 : AV) (T : HT) (nx : Nat) : R :=
 callK (g228 ro T nx) fun x5_1 T1 n1 =>
 lenSK 2130003 x5_1 fun x6_2 =>
 lpf5 2130005 (g213_b1 ro) 100000 a0 (.lit (.string ⟨⟨[]⟩⟩)) x5_1 x6_2 (.lit (.int .i64 (.ofNat 0))) T1 n1
theorem g213_ok (ro : List HT) (a0 : AV) (T : HT) (nx : Nat) : GOk Tryz.prog envE 213 [a0] ro T nx (g213 ro a0 T nx) := by
 refine GOk.of_body Tryz.func213 rfl Tryz.ntmps213 (by kernel_rfl) rfl fun r T' n' h1 w0 base ρ0 its hS hP => ?_
 have X : CtxW envE ρ0 ro r T' n' := trivial
 unfold g213 at h1
 refine sr ?_
 refine as_ ?_
 refine dn ?_
 refine CV.seq ?_
 refine sr ?_
 refine LV.call hS h1 (g228_ok _ _ _ ) hP rfl rfl rfl rfl fun x5_1 T1 n1 h2 ρ its hS => ?_
 refine vy (V.lenS h2 rfl Rnf.ls46) fun x6_2 h3 => ?_
 refine mv ?_
 refine dn ?_
 refine CV.block ?_
 refine cl5 X 0 2 5 6 7 [] hS h3 ⟨rfl, rfl, rfl, rfl, rfl, trivial⟩ ?_
 intro f1 y0 y2 y5 y6 y7 T2 n2 ρ its hS h4
 unfold g213_b1 at h4
 clear h1 h2 h3
 refine sr ?_
 refine vy (V.lt h4 rfl rfl) fun x8_3 h5 => ?_
 refine dn ?_
 refine CV.seq ?_
 refine CV.cond h5 rfl (fun e h6 => ?_) (fun e h6 => ?_)
 ·
  clear h4 h5
  subst e
  refine CV.skip ?_
  refine PV.thenN ?_
  refine CV.seq ?_
  refine CV.block ?_
  refine sr ?_
  refine vy (V.ia h6 rfl rfl Rnf.el46) fun x9_4 h7 => ?_
  refine vy (V.ld hS h7 rfl Rnf.one9) fun x10_5 h8 => ?_
  refine as_ ?_
  refine dn ?_
  refine CV.seq ?_
  refine CV.regionM [(0, .anywhere), (1, .anywhere), (2, .anywhere), (3, .held), (4, .anywhere), (5, .anywhere), (6, .anywhere), (7, .held), (8, .held), (9, .anywhere), (10, .alone)] rfl (fun c a a' w hd hq => PanicOk.root (P := Tryz.prog) (fn := Tryz.f213) (w0 := w0) (base := base) (E := envE) (ro := ro) (r := r) (T' := T') (n' := n') (ρ0 := ρ0) c a a' w hd hq) (by kernel_rfl) ?_
  refine MV.step0 (i := 0) rfl (VAL.move rfl) rfl rfl rfl ?_
  refine MV.lift0 (i := 1) rfl (V.nc h8 rfl) rfl rfl rfl fun x12_6 h9 => ?_
  refine MV.lift0 (i := 2) rfl (V.fa h9 rfl Rnf.fo168_0) rfl rfl rfl fun x13_7 h10 => ?_
  refine MV.lift1 (i := 3) rfl (fun _ z => z) (V.ld hS h10 rfl Rnf.one9) rfl rfl rfl [] (by kernel_rfl) fun x14_8 h11 => ?_
  refine MV.step0 (i := 4) rfl (VAL.move rfl) rfl rfl rfl ?_
  refine MV.lift0 (i := 5) rfl (V.nc h11 rfl) rfl rfl rfl fun x16_9 h12 => ?_
  refine MV.lift0 (i := 6) rfl (V.fa h12 rfl Rnf.fo168_1) rfl rfl rfl fun x17_10 h13 => ?_
  refine MV.lift1 (i := 7) rfl (fun _ z => z) (V.ld hS h13 rfl Rnf.one3) rfl rfl rfl [3] (by kernel_rfl) fun x18_11 h14 => ?_
  refine MV.lift1 (i := 8) rfl (fun _ z => z) (V.slLo (sliceF_ok h14) rfl rfl Rnf.st9) rfl rfl rfl [] (by kernel_rfl) fun x19_12 h15 => ?_
  refine MV.step0 (i := 9) rfl (VAL.move rfl) rfl rfl rfl ?_
  refine MV.force (i := 10) rfl ?_
  refine LV.call hS h15 (g164_ok _ _ _ _ _ ) hP rfl rfl rfl rfl fun x21_13 T3 n3 h16 ρ its hS => ?_
  refine LV.nextM [] (by kernel_rfl) (fun z => absurd rfl z) ?_
  refine mdn ?_
  refine CV.cond h16 rfl (fun e h17 => ?_) (fun e h17 => ?_)
  ·
   clear h6 h7 h8 h9 h10 h11 h12 h13 h14 h15 h16
   subst e
   refine sr ?_
   refine mv ?_
   refine as_ ?_
   refine dn ?_
   refine CV.ret ?_
   refine PV.blockR ?_
   refine PV.thenR ?_
   refine PV.thenR ?_
   refine PV.blockR ?_
   refine PV.thenR ?_
   cases h17
   exact PV.ret (by simp) Tryz.results213 hS (RS.tmp rfl RS.nil) rfl
  ·
   clear h6 h7 h8 h9 h10 h11 h12 h13 h14 h15 h16
   subst e
   refine CV.skip ?_
   refine PV.blockN ?_
   refine PV.thenN ?_
   refine CV.region ?_
   refine vy (V.add h17 rfl rfl) fun x23_14 h18 => ?_
   refine mv ?_
   refine LV.done ?_
   exact pb5 hS h18 ⟨rfl, rfl, rfl, rfl, rfl, trivial⟩
 ·
  clear h4 h5
  subst e
  refine CV.exit ?_
  refine PV.thenE ?_
  refine PV.thenE ?_
  refine PV.blockE ?_
  refine PV.thenN ?_
  refine sr ?_
  refine as_ ?_
  refine dn ?_
  refine CV.ret ?_
  cases h6
  exact PV.ret (by simp) Tryz.results213 hS (RS.tmp rfl RS.nil) rfl
noncomputable def g209_k3 (ro : List HT) (y0 y26 : AV) (T4 : HT) (n4 : Nat) : R :=
 condK 2090017 y26
 (
  .ok (.val (.lit (.bool true))) T4 n4
 )
 (
  callK (g213 ro y0 T4 n4) fun x28_9 T5 n5 =>
  neSK Tryz.prog 9 (.tmp 28) (.const (.string ⟨⟨[]⟩⟩)) 2090021 x28_9 (.lit (.string ⟨⟨[]⟩⟩)) fun x29_10 =>
  .ok (.val x29_10) T5 n5
 )
noncomputable def g209_k2 (ro : List HT) (y0 y3 y22 : AV) (T3 : HT) (n3 : Nat) : R :=
 condK 2090023 y22
 (
  g209_k3 ro y0 (.lit (.bool true)) T3 n3
 )
 (
  eqK Tryz.prog 5 (.tmp 24) (.const (.int .u8 (.ofNat 39))) 2090026 y3 (.lit (.int .u8 (.ofNat 39))) fun x25_11 =>
  g209_k3 ro y0 x25_11 T3 n3
 )
noncomputable def g209_k1 (ro : List HT) (y0 y3 y18 : AV) (T2 : HT) (n2 : Nat) : R :=
 condK 2090028 y18
 (
  g209_k2 ro y0 y3 (.lit (.bool true)) T2 n2
 )
 (
  eqK Tryz.prog 5 (.tmp 20) (.const (.int .u8 (.ofNat 34))) 2090031 y3 (.lit (.int .u8 (.ofNat 34))) fun x21_12 =>
  g209_k2 ro y0 y3 x21_12 T2 n2
 )
noncomputable def g209 (ro : List HT) (a0 : AV) (T : HT) (nx : Nat) : R :=
 ncK 2090003 a0 fun x5_1 =>
 faK 2090004 x5_1 0 fun x6_2 =>
 ldK 2090005 T ro x6_2 fun x7_3 =>
 ncK 2090007 a0 fun x9_4 =>
 faK 2090008 x9_4 1 fun x10_5 =>
 ldK 2090009 T ro x10_5 fun x11_6 =>
 ixK 2090010 x7_3 x11_6 fun x12_7 =>
 callK (g104 ro x12_7 T nx) fun x14_8 T1 n1 =>
 condK 2090033 x14_8
 (
  g209_k1 ro a0 x12_7 (.lit (.bool true)) T1 n1
 )
 (
  callK (g105 ro x12_7 T1 n1) fun x17_13 T6 n6 =>
  g209_k1 ro a0 x12_7 x17_13 T6 n6
 )
theorem g209_ok (ro : List HT) (a0 : AV) (T : HT) (nx : Nat) : GOk Tryz.prog envE 209 [a0] ro T nx (g209 ro a0 T nx) := by
 refine GOk.of_body Tryz.func209 rfl Tryz.ntmps209 (by kernel_rfl) rfl fun r T' n' h1 w0 base ρ0 its hS hP => ?_
 have X : CtxW envE ρ0 ro r T' n' := trivial
 unfold g209 at h1
 refine sr ?_
 refine as_ ?_
 refine dn ?_
 refine CV.seq ?_
 refine CV.regionM [(0, .anywhere), (1, .anywhere), (2, .anywhere), (3, .held), (4, .anywhere), (5, .anywhere), (6, .anywhere), (7, .held), (8, .held), (9, .held)] rfl (fun c a a' w hd hq => PanicOk.root (P := Tryz.prog) (fn := Tryz.f209) (w0 := w0) (base := base) (E := envE) (ro := ro) (r := r) (T' := T') (n' := n') (ρ0 := ρ0) c a a' w hd hq) (by kernel_rfl) ?_
 refine MV.step0 (i := 0) rfl (VAL.move rfl) rfl rfl rfl ?_
 refine MV.lift0 (i := 1) rfl (V.nc h1 rfl) rfl rfl rfl fun x5_1 h2 => ?_
 refine MV.lift0 (i := 2) rfl (V.fa h2 rfl Rnf.fo168_0) rfl rfl rfl fun x6_2 h3 => ?_
 refine MV.lift1 (i := 3) rfl (fun _ z => z) (V.ld hS h3 rfl Rnf.one9) rfl rfl rfl [] (by kernel_rfl) fun x7_3 h4 => ?_
 refine MV.step0 (i := 4) rfl (VAL.move rfl) rfl rfl rfl ?_
 refine MV.lift0 (i := 5) rfl (V.nc h4 rfl) rfl rfl rfl fun x9_4 h5 => ?_
 refine MV.lift0 (i := 6) rfl (V.fa h5 rfl Rnf.fo168_1) rfl rfl rfl fun x10_5 h6 => ?_
 refine MV.lift1 (i := 7) rfl (fun _ z => z) (V.ld hS h6 rfl Rnf.one3) rfl rfl rfl [3] (by kernel_rfl) fun x11_6 h7 => ?_
 refine MV.lift1 (i := 8) rfl (fun _ z => z) (V.ix h7 rfl rfl Rnf.st9) rfl rfl rfl [] (by kernel_rfl) fun x12_7 h8 => ?_
 refine MV.step1 (i := 9) rfl (fun _ z => z) (VAL.assign rfl) rfl rfl rfl [] (by kernel_rfl) ?_
 refine mdn ?_
 refine CV.seq ?_
 refine sr ?_
 refine mv ?_
 refine LV.call hS h8 (g104_ok _ _ _ _ ) hP rfl rfl rfl rfl fun x14_8 T1 n1 h9 ρ its hS => ?_
 refine mv ?_
 refine ls3 X 0 3 18 [(2, (.lit (.bool false)))] (g209_k1 ro) 3 ?_ ?_
 ·
  rcases condK_inv h9 with ⟨e, h20⟩ | ⟨e, h20⟩
  ·
   clear h1 h2 h3 h4 h5 h6 h7 h8 h9
   subst e
   refine sk ?_
   refine sk ?_
   refine pu ?_
   exact la3 hS h20 ⟨rfl, rfl, rfl, rfl, trivial⟩
  ·
   clear h1 h2 h3 h4 h5 h6 h7 h8 h9
   subst e
   refine mv ?_
   refine LV.call hS h20 (g105_ok _ _ _ _ ) hP rfl rfl rfl rfl fun x17_13 T6 n6 h21 ρ its hS => ?_
   refine pu ?_
   exact la3 hS h21 ⟨rfl, rfl, rfl, rfl, trivial⟩
 ·
  intro y0 y3 y18 T2 n2 ρ its hS h10
  unfold g209_k1 at h10
  clear h1 h2 h3 h4 h5 h6 h7 h8 h9
  refine mv ?_
  refine ls3 X 0 3 22 [(2, (.lit (.bool false)))] (g209_k2 ro) 3 ?_ ?_
  ·
   rcases condK_inv h10 with ⟨e, h18⟩ | ⟨e, h18⟩
   ·
    clear h10
    subst e
    refine sk ?_
    refine sk ?_
    refine pu ?_
    exact la3 hS h18 ⟨rfl, rfl, rfl, rfl, trivial⟩
   ·
    clear h10
    subst e
    refine mv ?_
    refine vy (V.eq h18 rfl rfl) fun x21_12 h19 => ?_
    refine pu ?_
    exact la3 hS h19 ⟨rfl, rfl, rfl, rfl, trivial⟩
  ·
   intro y0 y3 y22 T3 n3 ρ its hS h11
   unfold g209_k2 at h11
   clear h10
   refine mv ?_
   refine ls2 X 0 26 [(2, (.lit (.bool false)))] (g209_k3 ro) 3 ?_ ?_
   ·
    rcases condK_inv h11 with ⟨e, h16⟩ | ⟨e, h16⟩
    ·
     clear h11
     subst e
     refine sk ?_
     refine sk ?_
     refine pu ?_
     exact la2 hS h16 ⟨rfl, rfl, rfl, trivial⟩
    ·
     clear h11
     subst e
     refine mv ?_
     refine vy (V.eq h16 rfl rfl) fun x25_11 h17 => ?_
     refine pu ?_
     exact la2 hS h17 ⟨rfl, rfl, rfl, trivial⟩
   ·
    intro y0 y26 T4 n4 ρ its hS h12
    unfold g209_k3 at h12
    clear h11
    refine dn ?_
    refine CV.cond h12 rfl (fun e h13 => ?_) (fun e h13 => ?_)
    ·
     clear h12
     subst e
     refine sr ?_
     refine as_ ?_
     refine dn ?_
     refine CV.ret ?_
     refine PV.thenR ?_
     cases h13
     exact PV.ret (by simp) Tryz.results209 hS (RS.tmp rfl RS.nil) rfl
    ·
     clear h12
     subst e
     refine CV.skip ?_
     refine PV.thenN ?_
     refine sr ?_
     refine mv ?_
     refine LV.call hS h13 (g213_ok _ _ _ _ ) hP rfl rfl rfl rfl fun x28_9 T5 n5 h14 ρ its hS => ?_
     refine vy (V.neS h14 rfl rfl) fun x29_10 h15 => ?_
     refine as_ ?_
     refine dn ?_
     refine CV.ret ?_
     cases h15
     exact PV.ret (by simp) Tryz.results209 hS (RS.tmp rfl RS.nil) rfl
noncomputable def g226_b1 (ro : List HT) (lp1 : AV → AV → AV → AV → HT → Nat → R) (y0 y1 y4 y5 : AV) (T1 : HT) (n1 : Nat) : R :=
 geK Tryz.prog 3 (.tmp 9) (.const (.int .i64 (.ofNat 0))) 2260008 y5 (.lit (.int .i64 (.ofNat 0))) fun x10_3 =>
 condK 2260009 x10_3
 (
  ixK 2260012 y0 y5 fun x15_4 =>
  eqK Tryz.prog 5 (.tmp 15) (.tmp 16) 2260014 x15_4 y1 fun x17_5 =>
  condK 2260015 x17_5
  (
   .ok (.val y5) T1 n1
  )
  (
   subK Tryz.prog 3 (.tmp 11) (.const (.int .i64 (.ofNat 1))) 2260019 y5 (.lit (.int .i64 (.ofNat 1))) fun x12_6 =>
   lp1 y0 y1 y4 x12_6 T1 n1
  )
 )
 (
  .ok (.val (.lit (.int .i64 (.negSucc 0)))) T1 n1
 )
noncomputable def g226 (ro : List HT) (a0 a1 : AV) (T : HT) (nx : Nat) : R :=
 lenTK 2260003 a0 fun x7_1 =>
 subK Tryz.prog 3 (.tmp 7) (.const (.int .i64 (.ofNat 1))) 2260004 x7_1 (.lit (.int .i64 (.ofNat 1))) fun x8_2 =>
 lpf4 2260006 (g226_b1 ro) 100000 a0 a1 (.lit (.int .i64 (.ofNat 0))) x8_2 T nx
theorem g226_ok (ro : List HT) (a0 a1 : AV) (T : HT) (nx : Nat) : GOk Tryz.prog envE 226 [a0, a1] ro T nx (g226 ro a0 a1 T nx) := by
 refine GOk.of_body Tryz.func226 rfl Tryz.ntmps226 (by kernel_rfl) rfl fun r T' n' h1 w0 base ρ0 its hS hP => ?_
 have X : CtxW envE ρ0 ro r T' n' := trivial
 unfold g226 at h1
 refine sr ?_
 refine as_ ?_
 refine dn ?_
 refine CV.seq ?_
 refine sr ?_
 refine mv ?_
 refine vy (V.lenT h1 rfl Rnf.ls9) fun x7_1 h2 => ?_
 refine vy (V.sub h2 rfl rfl) fun x8_2 h3 => ?_
 refine as_ ?_
 refine dn ?_
 refine CV.block ?_
 refine cl4 X 0 1 4 5 [] hS h3 ⟨rfl, rfl, rfl, rfl, trivial⟩ ?_
 intro f1 y0 y1 y4 y5 T1 n1 ρ its hS h4
 unfold g226_b1 at h4
 clear h1 h2 h3
 refine CV.seq ?_
 refine sr ?_
 refine mv ?_
 refine vy (V.ge h4 rfl rfl) fun x10_3 h5 => ?_
 refine dn ?_
 refine CV.cond h5 rfl (fun e h6 => ?_) (fun e h6 => ?_)
 ·
  clear h4 h5
  subst e
  refine CV.skip ?_
  refine PV.thenN ?_
  refine CV.seq ?_
  refine CV.block ?_
  refine sr ?_
  refine mv ?_
  refine mv ?_
  refine vy (V.ix h6 rfl rfl Rnf.st9) fun x15_4 h7 => ?_
  refine mv ?_
  refine vy (V.eq h7 rfl rfl) fun x17_5 h8 => ?_
  refine dn ?_
  refine CV.cond h8 rfl (fun e h9 => ?_) (fun e h9 => ?_)
  ·
   clear h6 h7 h8
   subst e
   refine sr ?_
   refine mv ?_
   refine as_ ?_
   refine dn ?_
   refine CV.ret ?_
   refine PV.blockR ?_
   refine PV.thenR ?_
   refine PV.thenR ?_
   refine PV.blockR ?_
   refine PV.thenR ?_
   cases h9
   exact PV.ret (by simp) Tryz.results226 hS (RS.tmp rfl RS.nil) rfl
  ·
   clear h6 h7 h8
   subst e
   refine CV.skip ?_
   refine PV.blockN ?_
   refine PV.thenN ?_
   refine CV.region ?_
   refine mv ?_
   refine vy (V.sub h9 rfl rfl) fun x12_6 h10 => ?_
   refine as_ ?_
   refine LV.done ?_
   exact pb4 hS h10 ⟨rfl, rfl, rfl, rfl, trivial⟩
 ·
  clear h4 h5
  subst e
  refine CV.exit ?_
  refine PV.thenE ?_
  refine PV.thenE ?_
  refine PV.blockE ?_
  refine PV.thenN ?_
  refine sr ?_
  refine as_ ?_
  refine dn ?_
  refine CV.ret ?_
  cases h6
  exact PV.ret (by simp) Tryz.results226 hS (RS.tmp rfl RS.nil) rfl
noncomputable def g210 (ro : List HT) (a0 a1 : AV) (T : HT) (nx : Nat) : R :=
 callK (g226 ro a0 a1 T nx) fun x7_1 T1 n1 =>
 .ok (.val x7_1) T1 n1
theorem g210_ok (ro : List HT) (a0 a1 : AV) (T : HT) (nx : Nat) : GOk Tryz.prog envE 210 [a0, a1] ro T nx (g210 ro a0 a1 T nx) := by
 refine GOk.of_body Tryz.func210 rfl Tryz.ntmps210 (by kernel_rfl) rfl fun r T' n' h1 w0 base ρ0 its hS hP => ?_
 have X : CtxW envE ρ0 ro r T' n' := trivial
 unfold g210 at h1
 refine sr ?_
 refine as_ ?_
 refine dn ?_
 refine sr ?_
 refine mv ?_
 refine mv ?_
 refine LV.call hS h1 (g226_ok _ _ _ _ _ ) hP rfl rfl rfl rfl fun x7_1 T1 n1 h2 ρ its hS => ?_
 refine as_ ?_
 refine dn ?_
 refine CV.ret ?_
 cases h2
 exact PV.ret (by simp) Tryz.results210 hS (RS.tmp rfl RS.nil) rfl

end Go.Proofs.YtdepmlcnllofiaaGreatDoor.Rn
