/-
  Proved here: plain functions that do what the program's functions do, each with its proof.
-/
import Derived.Test.YtdepmlcnllofiaaGreatDoorRca
namespace Go.Proofs.YtdepmlcnllofiaaGreatDoor.Rc
open Go.EY Go.EX Go.SX Go.RowKit
noncomputable def g103 (ih : FuncId → List HT → List AV → HT → Nat → R) (ro : List HT) (a0 a1 : AV) (T : HT) (nx : Nat) : R :=
 callK (g129 ro a0 T nx) fun x10_1 T1 n1 =>
 callK (g131 ro a0 (.lit (.string ⟨⟨[112, 97, 115, 115]⟩⟩)) T1 n1) fun x13_2 T2 n2 =>
 condK 1030008 x13_2
 (
  .bad 1030009
 )
 (
  bsK 1030011 T2 n2 2 9 1 [(0, (.lit (.string ⟨⟨[98, 114, 101, 97, 107]⟩⟩))), (1, (.lit (.string ⟨⟨[99, 111, 110, 116, 105, 110, 117, 101]⟩⟩)))] fun x19_3 T3 n3 =>
  callK (g99 ro a0 x19_3 T3 n3) fun x20_4 T4 n4 =>
  condK 1030014 x20_4
  (
   .bad 1030015
  )
  (
   bsK 1030017 T4 n4 1 9 1 [(0, (.lit (.string ⟨⟨[114, 101, 116, 117, 114, 110]⟩⟩)))] fun x45_5 T5 n5 =>
   callK (g99 ro a0 x45_5 T5 n5) fun x46_6 T6 n6 =>
   condK 1030020 x46_6
   (
    callK (ih 180 ro [a0] T6 n6) fun x48_7 T7 n7 =>
    .ok (.val x48_7) T7 n7
   )
   (
    bsK 1030025 T6 n6 1 9 1 [(0, (.lit (.string ⟨⟨[108, 111, 97, 100]⟩⟩)))] fun x51_8 T8 n8 =>
    callK (g99 ro a0 x51_8 T8 n8) fun x52_9 T9 n9 =>
    condK 1030028 x52_9
    (
     .bad 1030029
    )
    (
     callK (ih 49 ro [a0] T9 n9) fun x60_10 T10 n10 =>
     callK (g129 ro a0 T10 n10) fun x62_11 T11 n11 =>
     bsK 1030037 T11 n11 1 9 1 [(0, (.lit (.string ⟨⟨[61]⟩⟩)))] fun x65_12 T12 n12 =>
     callK (g99 ro a0 x65_12 T12 n12) fun x66_13 T13 n13 =>
     condK 1030040 x66_13
     (
      callK (scc1 4000 182 ro [a0, x60_10] T13 n13) fun x69_14 T14 n14 =>
      notK 1030044 x69_14 fun x70_15 =>
      condK 1030045 x70_15
      (
       .bad 1030046
      )
      (
       fldK 1030048 T14 ro a0 1 fun x76_16 =>
       addK Tryz.prog 3 (.tmp 76) (.const (.int .i64 (.ofNat 1))) 1030049 x76_16 (.lit (.int .i64 (.ofNat 1))) fun x77_17 =>
       faK 1030050 a0 1 fun x79_18 =>
       stK 1030051 T14 x79_18 x77_17 fun T15 =>
       callK (ih 49 ro [a0] T15 n14) fun x84_19 T16 n16 =>
       bsK 1030057 T16 n16 2 3 1 [(0, x60_10), (1, x84_19)] fun x85_20 T17 n17 =>
       callK (g65 ro a0 (.lit (.int .i64 (.ofNat 36))) x62_11 (.lit (.string ⟨⟨[]⟩⟩)) x85_20 T17 n17) fun x86_21 T18 n18 =>
       .ok (.val x86_21) T18 n18
      )
     )
     (
      bsK 1030061 T13 n13 1 9 1 [(0, (.lit (.string ⟨⟨[43, 61]⟩⟩)))] fun x89_22 T19 n19 =>
      callK (g99 ro a0 x89_22 T19 n19) fun x90_23 T20 n20 =>
      condK 1030064 x90_23
      (
       .bad 1030065
      )
      (
       fldK 1030068 T20 ro a0 2 fun x125_24 =>
       iaK 1030070 x125_24 x60_10 5 fun x127_25 =>
       faK 1030071 x127_25 2 fun x128_26 =>
       ldK 1030072 T20 ro x128_26 fun x129_27 =>
       bsK 1030074 T20 n20 1 3 1 [(0, x60_10)] fun x131_28 T21 n21 =>
       callK (g65 ro a0 (.lit (.int .i64 (.ofNat 35))) x129_27 (.lit (.string ⟨⟨[]⟩⟩)) x131_28 T21 n21) fun x132_29 T22 n22 =>
       .ok (.val x132_29) T22 n22
      )
     )
    )
   )
  )
 )
theorem g103_ok (ih : FuncId → List HT → List AV → HT → Nat → R) (hI : ∀ f ro args T nx, GOk Tryz.prog envE f args ro T nx (ih f ro args T nx)) (ro : List HT) (a0 a1 : AV) (T : HT) (nx : Nat) : GOk Tryz.prog envE 103 [a0, a1] ro T nx (g103 ih ro a0 a1 T nx) := by
 refine GOk.of_body Tryz.func103 rfl Tryz.ntmps103 (by kernel_rfl) rfl fun r T' n' h1 w0 base ρ0 its hS hP => ?_
 have X : CtxW envE ρ0 ro r T' n' := trivial
 unfold g103 at h1
 refine sr ?_
 refine as_ ?_
 refine dn ?_
 refine sr ?_
 refine mv ?_
 refine LV.call hS h1 (g129_ok _ _ _ _ ) hP rfl rfl rfl rfl fun x10_1 T1 n1 h2 ρ its hS => ?_
 refine as_ ?_
 refine dn ?_
 refine CV.seq ?_
 refine CV.block ?_
 refine sr ?_
 refine mv ?_
 refine LV.call hS h2 (g131_ok _ _ _ _ _ ) hP rfl rfl rfl rfl fun x13_2 T2 n2 h3 ρ its hS => ?_
 refine as_ ?_
 refine dn ?_
 refine CV.cond h3 rfl (fun e h4 => ?_) (fun e h4 => ?_)
 ·
  clear h1 h2 h3
  subst e
  cases h4
 ·
  clear h1 h2 h3
  subst e
  refine sr ?_
  refine mv ?_
  refine LV.bslice hS h4 rfl rfl Rcf.el46 rfl rfl rfl rfl fun x19_3 T3 n3 h5 ρ its hS hdr => ?_
  refine LV.call hS h5 (g99_ok _ _ _ _ _ ) hP rfl rfl rfl rfl fun x20_4 T4 n4 h6 ρ its hS => ?_
  refine as_ ?_
  refine dn ?_
  refine CV.cond h6 rfl (fun e h7 => ?_) (fun e h7 => ?_)
  ·
   clear h4 h5 h6
   subst e
   cases h7
  ·
   clear h4 h5 h6
   subst e
   refine sr ?_
   refine mv ?_
   refine LV.bslice hS h7 rfl rfl Rcf.el46 rfl rfl rfl rfl fun x45_5 T5 n5 h8 ρ its hS hdr => ?_
   refine LV.call hS h8 (g99_ok _ _ _ _ _ ) hP rfl rfl rfl rfl fun x46_6 T6 n6 h9 ρ its hS => ?_
   refine as_ ?_
   refine dn ?_
   refine CV.cond h9 rfl (fun e h10 => ?_) (fun e h10 => ?_)
   ·
    clear h7 h8 h9
    subst e
    refine sr ?_
    refine mv ?_
    refine LV.call hS h10 (hI _ _ _ _ _) hP rfl rfl rfl rfl fun x48_7 T7 n7 h11 ρ its hS => ?_
    refine as_ ?_
    refine dn ?_
    refine CV.ret ?_
    refine PV.blockR ?_
    refine PV.thenR ?_
    cases h11
    exact PV.ret (by simp) Tryz.results103 hS (RS.tmp rfl RS.nil) rfl
   ·
    clear h7 h8 h9
    subst e
    refine sr ?_
    refine mv ?_
    refine LV.bslice hS h10 rfl rfl Rcf.el46 rfl rfl rfl rfl fun x51_8 T8 n8 h12 ρ its hS hdr => ?_
    refine LV.call hS h12 (g99_ok _ _ _ _ _ ) hP rfl rfl rfl rfl fun x52_9 T9 n9 h13 ρ its hS => ?_
    refine as_ ?_
    refine dn ?_
    refine CV.cond h13 rfl (fun e h14 => ?_) (fun e h14 => ?_)
    ·
     clear h10 h12 h13
     subst e
     cases h14
    ·
     clear h10 h12 h13
     subst e
     refine CV.skip ?_
     refine PV.blockN ?_
     refine PV.thenN ?_
     refine sr ?_
     refine mv ?_
     refine LV.call hS h14 (hI _ _ _ _ _) hP rfl rfl rfl rfl fun x60_10 T10 n10 h15 ρ its hS => ?_
     refine as_ ?_
     refine dn ?_
     refine sr ?_
     refine mv ?_
     refine LV.call hS h15 (g129_ok _ _ _ _ ) hP rfl rfl rfl rfl fun x62_11 T11 n11 h16 ρ its hS => ?_
     refine as_ ?_
     refine dn ?_
     refine CV.seq ?_
     refine CV.block ?_
     refine sr ?_
     refine mv ?_
     refine LV.bslice hS h16 rfl rfl Rcf.el46 rfl rfl rfl rfl fun x65_12 T12 n12 h17 ρ its hS hdr => ?_
     refine LV.call hS h17 (g99_ok _ _ _ _ _ ) hP rfl rfl rfl rfl fun x66_13 T13 n13 h18 ρ its hS => ?_
     refine as_ ?_
     refine dn ?_
     refine CV.cond h18 rfl (fun e h19 => ?_) (fun e h19 => ?_)
     ·
      clear h14 h15 h16 h17 h18
      subst e
      refine CV.seq ?_
      refine sr ?_
      refine mv ?_
      refine mv ?_
      refine LV.call hS h19 (scc1_ok _ _ _ _ _ _) hP rfl rfl rfl rfl fun x69_14 T14 n14 h20 ρ its hS => ?_
      refine vy (V.not h20 rfl) fun x70_15 h21 => ?_
      refine dn ?_
      refine CV.cond h21 rfl (fun e h22 => ?_) (fun e h22 => ?_)
      ·
       clear h19 h20 h21
       subst e
       cases h22
      ·
       clear h19 h20 h21
       subst e
       refine CV.skip ?_
       refine PV.thenN ?_
       refine sr ?_
       refine mv ?_
       refine fl hS h22 Rcf.fo98_1 Rcf.one3 fun x76_16 h23 => ?_
       refine vy (V.add h23 rfl rfl) fun x77_17 h24 => ?_
       refine fa2 h24 Rcf.fo98_1 fun x79_18 h25 => ?_
       refine LV.st hS h25 rfl rfl rfl Rcf.siz3 rfl rfl fun T15 its h26 hS => ?_
       refine dn ?_
       refine sr ?_
       refine mv ?_
       refine mv ?_
       refine mv ?_
       refine mv ?_
       refine LV.call hS h26 (hI _ _ _ _ _) hP rfl rfl rfl rfl fun x84_19 T16 n16 h27 ρ its hS => ?_
       refine LV.bslice hS h27 rfl rfl Rcf.el30 rfl rfl rfl rfl fun x85_20 T17 n17 h28 ρ its hS hdr => ?_
       refine LV.call hS h28 (g65_ok _ _ _ _ _ _ _ _ ) hP rfl rfl rfl rfl fun x86_21 T18 n18 h29 ρ its hS => ?_
       refine as_ ?_
       refine dn ?_
       refine CV.ret ?_
       refine PV.blockR ?_
       refine PV.thenR ?_
       cases h29
       exact PV.ret (by simp) Tryz.results103 hS (RS.tmp rfl RS.nil) rfl
     ·
      clear h14 h15 h16 h17 h18
      subst e
      refine sr ?_
      refine mv ?_
      refine LV.bslice hS h19 rfl rfl Rcf.el46 rfl rfl rfl rfl fun x89_22 T19 n19 h30 ρ its hS hdr => ?_
      refine LV.call hS h30 (g99_ok _ _ _ _ _ ) hP rfl rfl rfl rfl fun x90_23 T20 n20 h31 ρ its hS => ?_
      refine as_ ?_
      refine dn ?_
      refine CV.cond h31 rfl (fun e h32 => ?_) (fun e h32 => ?_)
      ·
       clear h19 h30 h31
       subst e
       cases h32
      ·
       clear h19 h30 h31
       subst e
       refine CV.skip ?_
       refine PV.blockN ?_
       refine PV.thenN ?_
       refine sr ?_
       refine mv ?_
       refine mv ?_
       refine fl hS h32 Rcf.fo98_2 Rcf.one23 fun x125_24 h33 => ?_
       refine mv ?_
       refine vy (V.ia h33 rfl rfl Rcf.el23) fun x127_25 h34 => ?_
       refine vy (V.fa h34 rfl Rcf.fo32_2) fun x128_26 h35 => ?_
       refine vy (V.ld hS h35 rfl Rcf.one3) fun x129_27 h36 => ?_
       refine mv ?_
       refine LV.bslice hS h36 rfl rfl Rcf.el30 rfl rfl rfl rfl fun x131_28 T21 n21 h37 ρ its hS hdr => ?_
       refine LV.call hS h37 (g65_ok _ _ _ _ _ _ _ _ ) hP rfl rfl rfl rfl fun x132_29 T22 n22 h38 ρ its hS => ?_
       refine as_ ?_
       refine dn ?_
       refine CV.ret ?_
       cases h38
       exact PV.ret (by simp) Tryz.results103 hS (RS.tmp rfl RS.nil) rfl
noncomputable def g130 (ih : FuncId → List HT → List AV → HT → Nat → R) (ro : List HT) (a0 : AV) (T : HT) (nx : Nat) : R :=
 callK (ih 189 ro [a0] T nx) fun x8_1 T1 n1 =>
 bsK 1300006 T1 n1 1 9 1 [(0, (.lit (.string ⟨⟨[105, 102]⟩⟩)))] fun x10_2 T2 n2 =>
 callK (g99 ro a0 x10_2 T2 n2) fun x11_3 T3 n3 =>
 notK 1300008 x11_3 fun x12_4 =>
 condK 1300009 x12_4
 (
  .ok (.val x8_1) T3 n3
 )
 (
  callK (g177 ro a0 (.lit (.string ⟨⟨[105, 102]⟩⟩)) T3 n3) fun x15_5 T4 n4 =>
  callK (g176 ro a0 x15_5 T4 n4) fun x18_6 T5 n5 =>
  callK (ih 189 ro [a0] T5 n5) fun x20_7 T6 n6 =>
  callK (g177 ro a0 (.lit (.string ⟨⟨[101, 108, 115, 101]⟩⟩)) T6 n6) fun x22_8 T7 n7 =>
  callK (ih 130 ro [a0] T7 n7) fun x24_9 T8 n8 =>
  fldK 1300027 T8 ro a0 3 fun x28_10 =>
  subK Tryz.prog 3 (.tmp 28) (.const (.int .i64 (.ofNat 1))) 1300028 x28_10 (.lit (.int .i64 (.ofNat 1))) fun x29_11 =>
  faK 1300029 a0 3 fun x31_12 =>
  stK 1300030 T8 x31_12 x29_11 fun T9 =>
  bsK 1300036 T9 n8 3 3 1 [(0, x20_7), (1, x8_1), (2, x24_9)] fun x37_13 T10 n10 =>
  callK (g65 ro a0 (.lit (.int .i64 (.ofNat 20))) x15_5 (.lit (.string ⟨⟨[]⟩⟩)) x37_13 T10 n10) fun x38_14 T11 n11 =>
  .ok (.val x38_14) T11 n11
 )
theorem g130_ok (ih : FuncId → List HT → List AV → HT → Nat → R) (hI : ∀ f ro args T nx, GOk Tryz.prog envE f args ro T nx (ih f ro args T nx)) (ro : List HT) (a0 : AV) (T : HT) (nx : Nat) : GOk Tryz.prog envE 130 [a0] ro T nx (g130 ih ro a0 T nx) := by
 refine GOk.of_body Tryz.func130 rfl Tryz.ntmps130 (by kernel_rfl) rfl fun r T' n' h1 w0 base ρ0 its hS hP => ?_
 have X : CtxW envE ρ0 ro r T' n' := trivial
 unfold g130 at h1
 refine sr ?_
 refine as_ ?_
 refine dn ?_
 refine sr ?_
 refine mv ?_
 refine LV.call hS h1 (hI _ _ _ _ _) hP rfl rfl rfl rfl fun x8_1 T1 n1 h2 ρ its hS => ?_
 refine as_ ?_
 refine dn ?_
 refine CV.seq ?_
 refine sr ?_
 refine mv ?_
 refine LV.bslice hS h2 rfl rfl Rcf.el46 rfl rfl rfl rfl fun x10_2 T2 n2 h3 ρ its hS hdr => ?_
 refine LV.call hS h3 (g99_ok _ _ _ _ _ ) hP rfl rfl rfl rfl fun x11_3 T3 n3 h4 ρ its hS => ?_
 refine vy (V.not h4 rfl) fun x12_4 h5 => ?_
 refine dn ?_
 refine CV.cond h5 rfl (fun e h6 => ?_) (fun e h6 => ?_)
 ·
  clear h1 h2 h3 h4 h5
  subst e
  refine sr ?_
  refine mv ?_
  refine as_ ?_
  refine dn ?_
  refine CV.ret ?_
  refine PV.thenR ?_
  cases h6
  exact PV.ret (by simp) Tryz.results130 hS (RS.tmp rfl RS.nil) rfl
 ·
  clear h1 h2 h3 h4 h5
  subst e
  refine CV.skip ?_
  refine PV.thenN ?_
  refine sr ?_
  refine mv ?_
  refine LV.call hS h6 (g177_ok _ _ _ _ _ ) hP rfl rfl rfl rfl fun x15_5 T4 n4 h7 ρ its hS => ?_
  refine as_ ?_
  refine dn ?_
  refine sr ?_
  refine mv ?_
  refine mv ?_
  refine LV.call hS h7 (g176_ok _ _ _ _ _ ) hP rfl rfl rfl rfl fun x18_6 T5 n5 h8 ρ its hS => ?_
  refine dn ?_
  refine sr ?_
  refine mv ?_
  refine LV.call hS h8 (hI _ _ _ _ _) hP rfl rfl rfl rfl fun x20_7 T6 n6 h9 ρ its hS => ?_
  refine as_ ?_
  refine dn ?_
  refine sr ?_
  refine mv ?_
  refine LV.call hS h9 (g177_ok _ _ _ _ _ ) hP rfl rfl rfl rfl fun x22_8 T7 n7 h10 ρ its hS => ?_
  refine dn ?_
  refine sr ?_
  refine mv ?_
  refine LV.call hS h10 (hI _ _ _ _ _) hP rfl rfl rfl rfl fun x24_9 T8 n8 h11 ρ its hS => ?_
  refine as_ ?_
  refine dn ?_
  refine sr ?_
  refine mv ?_
  refine fl hS h11 Rcf.fo98_3 Rcf.one3 fun x28_10 h12 => ?_
  refine vy (V.sub h12 rfl rfl) fun x29_11 h13 => ?_
  refine fa2 h13 Rcf.fo98_3 fun x31_12 h14 => ?_
  refine LV.st hS h14 rfl rfl rfl Rcf.siz3 rfl rfl fun T9 its h15 hS => ?_
  refine dn ?_
  refine sr ?_
  refine mv ?_
  refine mv ?_
  refine mv ?_
  refine mv ?_
  refine mv ?_
  refine LV.bslice hS h15 rfl rfl Rcf.el30 rfl rfl rfl rfl fun x37_13 T10 n10 h16 ρ its hS hdr => ?_
  refine LV.call hS h16 (g65_ok _ _ _ _ _ _ _ _ ) hP rfl rfl rfl rfl fun x38_14 T11 n11 h17 ρ its hS => ?_
  refine as_ ?_
  refine dn ?_
  refine CV.ret ?_
  cases h17
  exact PV.ret (by simp) Tryz.results130 hS (RS.tmp rfl RS.nil) rfl
noncomputable def g175 (ih : FuncId → List HT → List AV → HT → Nat → R) (ro : List HT) (a0 : AV) (T : HT) (nx : Nat) : R :=
 callK (g177 ro a0 (.lit (.string ⟨⟨[58]⟩⟩)) T nx) fun x6_1 T1 n1 =>
 callK (g176 ro a0 x6_1 T1 n1) fun x7_2 T2 n2 =>
 callK (g50 ro a0 T2 n2) fun x9_3 T3 n3 =>
 eqK Tryz.prog 3 (.tmp 9) (.const (.int .i64 (.ofNat 5))) 1750009 x9_3 (.lit (.int .i64 (.ofNat 5))) fun x10_4 =>
 condK 1750010 x10_4
 (
  .bad 1750011
 )
 (
  callK (ih 103 ro [a0, (.lit (.bool false))] T3 n3) fun x41_5 T4 n4 =>
  bsK 1750014 T4 n4 1 3 1 [(0, x41_5)] fun x42_6 T5 n5 =>
  callK (g51 ro a0 (.lit (.int .i64 (.ofNat 5))) T5 n5) fun x44_7 T6 n6 =>
  fldK 1750019 T6 ro a0 3 fun x48_8 =>
  subK Tryz.prog 3 (.tmp 48) (.const (.int .i64 (.ofNat 1))) 1750020 x48_8 (.lit (.int .i64 (.ofNat 1))) fun x49_9 =>
  faK 1750021 a0 3 fun x51_10 =>
  stK 1750022 T6 x51_10 x49_9 fun T7 =>
  ncK 1750025 a0 fun x54_11 =>
  faK 1750026 x54_11 2 fun x55_12 =>
  ldK 1750027 T7 ro x55_12 fun x56_13 =>
  iaK 1750029 x42_6 (.lit (.int .i64 (.ofNat 0))) 1 fun x58_14 =>
  ldK 1750030 T7 ro x58_14 fun x59_15 =>
  iaK 1750031 x56_13 x59_15 5 fun x60_16 =>
  faK 1750032 x60_16 2 fun x61_17 =>
  ldK 1750033 T7 ro x61_17 fun x62_18 =>
  callK (g65 ro a0 (.lit (.int .i64 (.ofNat 47))) x62_18 (.lit (.string ⟨⟨[]⟩⟩)) x42_6 T7 n6) fun x64_19 T8 n8 =>
  .ok (.val x64_19) T8 n8
 )
theorem g175_ok (ih : FuncId → List HT → List AV → HT → Nat → R) (hI : ∀ f ro args T nx, GOk Tryz.prog envE f args ro T nx (ih f ro args T nx)) (ro : List HT) (a0 : AV) (T : HT) (nx : Nat) : GOk Tryz.prog envE 175 [a0] ro T nx (g175 ih ro a0 T nx) := by
 refine GOk.of_body Tryz.func175 rfl Tryz.ntmps175 (by kernel_rfl) rfl fun r T' n' h1 w0 base ρ0 its hS hP => ?_
 have X : CtxW envE ρ0 ro r T' n' := trivial
 unfold g175 at h1
 refine sr ?_
 refine as_ ?_
 refine dn ?_
 refine sr ?_
 refine mv ?_
 refine mv ?_
 refine LV.call hS h1 (g177_ok _ _ _ _ _ ) hP rfl rfl rfl rfl fun x6_1 T1 n1 h2 ρ its hS => ?_
 refine LV.call hS h2 (g176_ok _ _ _ _ _ ) hP rfl rfl rfl rfl fun x7_2 T2 n2 h3 ρ its hS => ?_
 refine dn ?_
 refine sr ?_
 refine as_ ?_
 refine dn ?_
 refine CV.seq ?_
 refine sr ?_
 refine mv ?_
 refine LV.call hS h3 (g50_ok _ _ _ _ ) hP rfl rfl rfl rfl fun x9_3 T3 n3 h4 ρ its hS => ?_
 refine vy (V.eq h4 rfl rfl) fun x10_4 h5 => ?_
 refine dn ?_
 refine CV.cond h5 rfl (fun e h6 => ?_) (fun e h6 => ?_)
 ·
  clear h1 h2 h3 h4 h5
  subst e
  cases h6
 ·
  clear h1 h2 h3 h4 h5
  subst e
  refine sr ?_
  refine mv ?_
  refine LV.call hS h6 (hI _ _ _ _ _) hP rfl rfl rfl rfl fun x41_5 T4 n4 h7 ρ its hS => ?_
  refine LV.bslice hS h7 rfl rfl Rcf.el30 rfl rfl rfl rfl fun x42_6 T5 n5 h8 ρ its hS hdr => ?_
  refine as_ ?_
  refine dn ?_
  refine CV.region ?_
  refine mv ?_
  refine LV.call hS h8 (g51_ok _ _ _ _ _ ) hP rfl rfl rfl rfl fun x44_7 T6 n6 h9 ρ its hS => ?_
  refine dn ?_
  refine sr ?_
  refine mv ?_
  refine fl hS h9 Rcf.fo98_3 Rcf.one3 fun x48_8 h10 => ?_
  refine vy (V.sub h10 rfl rfl) fun x49_9 h11 => ?_
  refine fa2 h11 Rcf.fo98_3 fun x51_10 h12 => ?_
  refine LV.st hS h12 rfl rfl rfl Rcf.siz3 rfl rfl fun T7 its h13 hS => ?_
  refine dn ?_
  refine CV.seq ?_
  refine CV.regionM [(0, .anywhere), (1, .anywhere), (2, .anywhere), (3, .anywhere), (4, .held), (5, .anywhere), (6, .anywhere), (7, .held), (8, .held), (9, .held), (10, .held), (11, .anywhere), (12, .alone), (13, .alone)] rfl (fun c a a' w hd hq => PanicOk.root (P := Tryz.prog) (fn := Tryz.f175) (w0 := w0) (base := base) (E := envE) (ro := ro) (r := r) (T' := T') (n' := n') (ρ0 := ρ0) c a a' w hd hq) (by kernel_rfl) ?_
  refine MV.step0 (i := 0) rfl (VAL.move rfl) rfl rfl rfl ?_
  refine MV.step0 (i := 1) rfl (VAL.move rfl) rfl rfl rfl ?_
  refine MV.lift0 (i := 2) rfl (V.nc h13 rfl) rfl rfl rfl fun x54_11 h14 => ?_
  refine MV.lift0 (i := 3) rfl (V.fa h14 rfl Rcf.fo98_2) rfl rfl rfl fun x55_12 h15 => ?_
  refine MV.lift1 (i := 4) rfl (fun _ z => z) (V.ld hS h15 rfl Rcf.one23) rfl rfl rfl [] (by kernel_rfl) fun x56_13 h16 => ?_
  refine MV.step0 (i := 5) rfl (VAL.move rfl) rfl rfl rfl ?_
  refine MV.lift0 (i := 6) rfl (V.ia h16 rfl rfl Rcf.el30) rfl rfl rfl fun x58_14 h17 => ?_
  refine MV.lift1 (i := 7) rfl (fun _ z => z) (V.ld hS h17 rfl Rcf.one3) rfl rfl rfl [4] (by kernel_rfl) fun x59_15 h18 => ?_
  refine MV.lift1 (i := 8) rfl (fun _ z => z) (V.ia h18 rfl rfl Rcf.el23) rfl rfl rfl [] (by kernel_rfl) fun x60_16 h19 => ?_
  refine MV.lift1 (i := 9) rfl (fun _ z => z) (V.fa h19 rfl Rcf.fo32_2) rfl rfl rfl [] (by kernel_rfl) fun x61_17 h20 => ?_
  refine MV.lift1 (i := 10) rfl (fun _ z => z) (V.ld hS h20 rfl Rcf.one3) rfl rfl rfl [] (by kernel_rfl) fun x62_18 h21 => ?_
  refine MV.step0 (i := 11) rfl (VAL.move rfl) rfl rfl rfl ?_
  refine MV.force (i := 12) rfl ?_
  refine LV.call hS h21 (g65_ok _ _ _ _ _ _ _ _ ) hP rfl rfl rfl rfl fun x64_19 T8 n8 h22 ρ its hS => ?_
  refine LV.nextM [] (by kernel_rfl) (fun z => absurd rfl z) ?_
  refine MV.force (i := 13) rfl ?_
  refine as_ ?_
  refine LV.nextM [] (by kernel_rfl) (fun z => absurd rfl z) ?_
  refine mdn ?_
  refine CV.ret ?_
  cases h22
  exact PV.ret (by simp) Tryz.results175 hS (RS.tmp rfl RS.nil) rfl
noncomputable def g178 (ih : FuncId → List HT → List AV → HT → Nat → R) (ro : List HT) (a0 a1 : AV) (T : HT) (nx : Nat) : R :=
 callK (ih 215 ro [a0, a1] T nx) fun x10_1 T1 n1 =>
 exK 1780006 x10_1 0 fun x11_2 =>
 exK 1780007 x10_1 1 fun x12_3 =>
 .ok (.val x11_2) T1 n1
theorem g178_ok (ih : FuncId → List HT → List AV → HT → Nat → R) (hI : ∀ f ro args T nx, GOk Tryz.prog envE f args ro T nx (ih f ro args T nx)) (ro : List HT) (a0 a1 : AV) (T : HT) (nx : Nat) : GOk Tryz.prog envE 178 [a0, a1] ro T nx (g178 ih ro a0 a1 T nx) := by
 refine GOk.of_body Tryz.func178 rfl Tryz.ntmps178 (by kernel_rfl) rfl fun r T' n' h1 w0 base ρ0 its hS hP => ?_
 have X : CtxW envE ρ0 ro r T' n' := trivial
 unfold g178 at h1
 refine sr ?_
 refine as_ ?_
 refine dn ?_
 refine sr ?_
 refine mv ?_
 refine mv ?_
 refine LV.call hS h1 (hI _ _ _ _ _) hP rfl rfl rfl rfl fun x10_1 T1 n1 h2 ρ its hS => ?_
 refine mv ?_
 refine vy (V.ex h2 rfl) fun x11_2 h3 => ?_
 refine vy (V.ex h3 rfl) fun x12_3 h4 => ?_
 refine as_ ?_
 refine as_ ?_
 refine dn ?_
 refine sr ?_
 refine mv ?_
 refine as_ ?_
 refine dn ?_
 refine CV.ret ?_
 cases h4
 exact PV.ret (by simp) Tryz.results178 hS (RS.tmp rfl RS.nil) rfl
noncomputable def g180 (ih : FuncId → List HT → List AV → HT → Nat → R) (ro : List HT) (a0 : AV) (T : HT) (nx : Nat) : R :=
 fldK 1800003 T ro a0 4 fun x7_1 =>
 notK 1800004 x7_1 fun x8_2 =>
 condK 1800005 x8_2
 (
  .bad 1800006
 )
 (
  callK (g177 ro a0 (.lit (.string ⟨⟨[114, 101, 116, 117, 114, 110]⟩⟩)) T nx) fun x12_3 T1 n1 =>
  callK (g50 ro a0 T1 n1) fun x14_4 T2 n2 =>
  eqK Tryz.prog 3 (.tmp 14) (.const (.int .i64 (.ofNat 5))) 1800012 x14_4 (.lit (.int .i64 (.ofNat 5))) fun x15_5 =>
  condK 1800013 x15_5
  (
   .bad 1800014
  )
  (
   callK (ih 49 ro [a0] T2 n2) fun x22_6 T3 n3 =>
   bsK 1800019 T3 n3 1 3 1 [(0, x22_6)] fun x23_7 T4 n4 =>
   callK (g65 ro a0 (.lit (.int .i64 (.ofNat 41))) x12_3 (.lit (.string ⟨⟨[]⟩⟩)) x23_7 T4 n4) fun x24_8 T5 n5 =>
   .ok (.val x24_8) T5 n5
  )
 )
theorem g180_ok (ih : FuncId → List HT → List AV → HT → Nat → R) (hI : ∀ f ro args T nx, GOk Tryz.prog envE f args ro T nx (ih f ro args T nx)) (ro : List HT) (a0 : AV) (T : HT) (nx : Nat) : GOk Tryz.prog envE 180 [a0] ro T nx (g180 ih ro a0 T nx) := by
 refine GOk.of_body Tryz.func180 rfl Tryz.ntmps180 (by kernel_rfl) rfl fun r T' n' h1 w0 base ρ0 its hS hP => ?_
 have X : CtxW envE ρ0 ro r T' n' := trivial
 unfold g180 at h1
 refine sr ?_
 refine as_ ?_
 refine dn ?_
 refine CV.seq ?_
 refine sr ?_
 refine mv ?_
 refine fl hS h1 Rcf.fo98_4 Rcf.one4 fun x7_1 h2 => ?_
 refine vy (V.not h2 rfl) fun x8_2 h3 => ?_
 refine dn ?_
 refine CV.cond h3 rfl (fun e h4 => ?_) (fun e h4 => ?_)
 ·
  clear h1 h2 h3
  subst e
  cases h4
 ·
  clear h1 h2 h3
  subst e
  refine CV.skip ?_
  refine PV.thenN ?_
  refine sr ?_
  refine mv ?_
  refine LV.call hS h4 (g177_ok _ _ _ _ _ ) hP rfl rfl rfl rfl fun x12_3 T1 n1 h5 ρ its hS => ?_
  refine as_ ?_
  refine dn ?_
  refine CV.seq ?_
  refine sr ?_
  refine mv ?_
  refine LV.call hS h5 (g50_ok _ _ _ _ ) hP rfl rfl rfl rfl fun x14_4 T2 n2 h6 ρ its hS => ?_
  refine vy (V.eq h6 rfl rfl) fun x15_5 h7 => ?_
  refine dn ?_
  refine CV.cond h7 rfl (fun e h8 => ?_) (fun e h8 => ?_)
  ·
   clear h4 h5 h6 h7
   subst e
   cases h8
  ·
   clear h4 h5 h6 h7
   subst e
   refine CV.skip ?_
   refine PV.thenN ?_
   refine sr ?_
   refine mv ?_
   refine mv ?_
   refine mv ?_
   refine LV.call hS h8 (hI _ _ _ _ _) hP rfl rfl rfl rfl fun x22_6 T3 n3 h9 ρ its hS => ?_
   refine LV.bslice hS h9 rfl rfl Rcf.el30 rfl rfl rfl rfl fun x23_7 T4 n4 h10 ρ its hS hdr => ?_
   refine LV.call hS h10 (g65_ok _ _ _ _ _ _ _ _ ) hP rfl rfl rfl rfl fun x24_8 T5 n5 h11 ρ its hS => ?_
   refine as_ ?_
   refine dn ?_
   refine CV.ret ?_
   cases h11
   exact PV.ret (by simp) Tryz.results180 hS (RS.tmp rfl RS.nil) rfl
noncomputable def g189 (ih : FuncId → List HT → List AV → HT → Nat → R) (ro : List HT) (a0 : AV) (T : HT) (nx : Nat) : R :=
 bsK 1890005 T nx 1 9 1 [(0, (.lit (.string ⟨⟨[111, 114]⟩⟩)))] fun x6_1 T1 n1 =>
 callK (ih 217 ro [a0, (.fn (.func 218) [a0] []), x6_1] T1 n1) fun x7_2 T2 n2 =>
 .ok (.val x7_2) T2 n2
theorem g189_ok (ih : FuncId → List HT → List AV → HT → Nat → R) (hI : ∀ f ro args T nx, GOk Tryz.prog envE f args ro T nx (ih f ro args T nx)) (ro : List HT) (a0 : AV) (T : HT) (nx : Nat) : GOk Tryz.prog envE 189 [a0] ro T nx (g189 ih ro a0 T nx) := by
 refine GOk.of_body Tryz.func189 rfl Tryz.ntmps189 (by kernel_rfl) rfl fun r T' n' h1 w0 base ρ0 its hS hP => ?_
 have X : CtxW envE ρ0 ro r T' n' := trivial
 unfold g189 at h1
 refine sr ?_
 refine as_ ?_
 refine dn ?_
 refine sr ?_
 refine mv ?_
 refine mv ?_
 refine pu ?_
 refine LV.bslice hS h1 rfl rfl Rcf.el46 rfl rfl rfl rfl fun x6_1 T1 n1 h2 ρ its hS hdr => ?_
 refine LV.call hS h2 (hI _ _ _ _ _) hP rfl rfl rfl rfl fun x7_2 T2 n2 h3 ρ its hS => ?_
 refine as_ ?_
 refine dn ?_
 refine CV.ret ?_
 cases h3
 exact PV.ret (by simp) Tryz.results189 hS (RS.tmp rfl RS.nil) rfl
noncomputable def g215_k1 (ih : FuncId → List HT → List AV → HT → Nat → R) (ro : List HT) (y0 y4 y5 y6 y7 y8 : AV) (T4 : HT) (n4 : Nat) : R :=
 notK 2150012 y8 fun x26_4 =>
 condK 2150013 x26_4
 (
  iaK 2150015 y7 (.lit (.int .i64 (.ofNat 0))) 1 fun x28_5 =>
  ldK 2150016 T4 ro x28_5 fun x29_6 =>
  .ok (.val (.tup [x29_6, (.lit (.bool false))])) T4 n4
 )
 (
  callK (g65 ro y0 (.lit (.int .i64 (.ofNat 8))) y6 (.lit (.string ⟨⟨[]⟩⟩)) y7 T4 n4) fun x33_7 T5 n5 =>
  .ok (.val (.tup [x33_7, (.lit (.bool true))])) T5 n5
 )
noncomputable def g215_b2 (ih : FuncId → List HT → List AV → HT → Nat → R) (ro : List HT) (lp2 : AV → AV → AV → AV → AV → AV → AV → HT → Nat → R) (y0 y1 y4 y5 y6 y7 y8 : AV) (T6 : HT) (n6 : Nat) : R :=
 callK (g131 ro y0 (.lit (.string ⟨⟨[44]⟩⟩)) T6 n6) fun x15_8 T7 n7 =>
 condK 2150028 x15_8
 (
  bsK 2150032 T7 n7 1 9 1 [(0, y1)] fun x18_9 T8 n8 =>
  callK (g99 ro y0 x18_9 T8 n8) fun x19_10 T9 n9 =>
  condK 2150034 x19_10
  (
   g215_k1 ih ro y0 y4 y5 y6 y7 (.lit (.bool true)) T9 n9
  )
  (
   callK (ih 230 ro [y0] T9 n9) fun x22_11 T10 n10 =>
   bsK 2150038 T10 n10 1 3 1 [(0, x22_11)] fun x23_12 T11 n11 =>
   shrK 2150040 T11 y7 fun T12 =>
   appK 2150039 T12 ro n11 3 1 8 y7 x23_12 fun x24_13 T13 n13 =>
   lp2 y0 y1 y4 y5 y6 x24_13 (.lit (.bool true)) T13 n13
  )
 )
 (
  g215_k1 ih ro y0 y4 y5 y6 y7 y8 T7 n7
 )
noncomputable def g215 (ih : FuncId → List HT → List AV → HT → Nat → R) (ro : List HT) (a0 a1 : AV) (T : HT) (nx : Nat) : R :=
 callK (g129 ro a0 T nx) fun x10_1 T1 n1 =>
 callK (ih 230 ro [a0] T1 n1) fun x12_2 T2 n2 =>
 bsK 2150008 T2 n2 1 3 1 [(0, x12_2)] fun x13_3 T3 n3 =>
 lpf7 2150025 (g215_b2 ih ro) 100000 a0 a1 (.lit (.int .i64 (.ofNat 0))) (.lit (.bool false)) x10_1 x13_3 (.lit (.bool false)) T3 n3
theorem g215_ok (ih : FuncId → List HT → List AV → HT → Nat → R) (hI : ∀ f ro args T nx, GOk Tryz.prog envE f args ro T nx (ih f ro args T nx)) (ro : List HT) (a0 a1 : AV) (T : HT) (nx : Nat) : GOk Tryz.prog envE 215 [a0, a1] ro T nx (g215 ih ro a0 a1 T nx) := by
 refine GOk.of_body Tryz.func215 rfl Tryz.ntmps215 (by kernel_rfl) rfl fun r T' n' h1 w0 base ρ0 its hS hP => ?_
 have X : CtxW envE ρ0 ro r T' n' := trivial
 unfold g215 at h1
 refine sr ?_
 refine as_ ?_
 refine as_ ?_
 refine dn ?_
 refine sr ?_
 refine mv ?_
 refine LV.call hS h1 (g129_ok _ _ _ _ ) hP rfl rfl rfl rfl fun x10_1 T1 n1 h2 ρ its hS => ?_
 refine as_ ?_
 refine dn ?_
 refine sr ?_
 refine mv ?_
 refine LV.call hS h2 (hI _ _ _ _ _) hP rfl rfl rfl rfl fun x12_2 T2 n2 h3 ρ its hS => ?_
 refine LV.bslice hS h3 rfl rfl Rcf.el30 rfl rfl rfl rfl fun x13_3 T3 n3 h4 ρ its hS hdr => ?_
 refine as_ ?_
 refine dn ?_
 refine sr ?_
 refine as_ ?_
 refine dn ?_
 refine cs6 X 0 4 5 6 7 8 [] (g215_k1 ih ro) ?_ ?_
 ·
  refine CV.block ?_
  refine cl7 X 0 1 4 5 6 7 8 [] hS h4 ⟨rfl, rfl, rfl, rfl, rfl, rfl, rfl, trivial⟩ ?_
  intro f2 y0 y1 y4 y5 y6 y7 y8 T6 n6 ρ its hS h11
  unfold g215_b2 at h11
  clear h1 h2 h3 h4
  refine CV.seq ?_
  refine sr ?_
  refine mv ?_
  refine LV.call hS h11 (g131_ok _ _ _ _ _ ) hP rfl rfl rfl rfl fun x15_8 T7 n7 h12 ρ its hS => ?_
  refine dn ?_
  refine CV.cond h12 rfl (fun e h13 => ?_) (fun e h13 => ?_)
  ·
   clear h11 h12
   subst e
   refine CV.skip ?_
   refine PV.thenN ?_
   refine CV.block ?_
   refine sr ?_
   refine as_ ?_
   refine dn ?_
   refine CV.seq ?_
   refine sr ?_
   refine mv ?_
   refine mv ?_
   refine LV.bslice hS h13 rfl rfl Rcf.el46 rfl rfl rfl rfl fun x18_9 T8 n8 h14 ρ its hS hdr => ?_
   refine LV.call hS h14 (g99_ok _ _ _ _ _ ) hP rfl rfl rfl rfl fun x19_10 T9 n9 h15 ρ its hS => ?_
   refine dn ?_
   refine CV.cond h15 rfl (fun e h16 => ?_) (fun e h16 => ?_)
   ·
    clear h13 h14 h15
    subst e
    refine CV.exit ?_
    refine PV.thenE ?_
    refine PV.blockO rfl ?_
    refine PV.thenE ?_
    refine PV.blockE ?_
    exact pa6 hS h16 ⟨rfl, rfl, rfl, rfl, rfl, rfl, trivial⟩
   ·
    clear h13 h14 h15
    subst e
    refine CV.skip ?_
    refine PV.thenN ?_
    refine CV.region ?_
    refine mv ?_
    refine mv ?_
    refine LV.call hS h16 (hI _ _ _ _ _) hP rfl rfl rfl rfl fun x22_11 T10 n10 h17 ρ its hS => ?_
    refine LV.bslice hS h17 rfl rfl Rcf.el30 rfl rfl rfl rfl fun x23_12 T11 n11 h18 ρ its hS hdr => ?_
    obtain ⟨T12, its1, h19, hS, hW⟩ := shrK_inv hS h18
    refine LV.world hW ?_
    refine LV.app hS h19 rfl rfl rfl rfl Rcf.el30 rfl rfl rfl fun x24_13 T13 n13 h20 ρ its hS => ?_
    refine as_ ?_
    refine LV.done ?_
    refine PV.blockN ?_
    exact pb7 hS h20 ⟨rfl, rfl, rfl, rfl, rfl, rfl, rfl, trivial⟩
  ·
   clear h11 h12
   subst e
   refine CV.exit ?_
   refine PV.thenE ?_
   refine PV.thenE ?_
   refine PV.blockE ?_
   exact pa6 hS h13 ⟨rfl, rfl, rfl, rfl, rfl, rfl, trivial⟩
 ·
  intro y0 y4 y5 y6 y7 y8 T4 n4 ρ its hS h5
  unfold g215_k1 at h5
  clear h1 h2 h3 h4
  refine CV.seq ?_
  refine sr ?_
  refine mv ?_
  refine vy (V.not h5 rfl) fun x26_4 h6 => ?_
  refine dn ?_
  refine CV.cond h6 rfl (fun e h7 => ?_) (fun e h7 => ?_)
  ·
   clear h5 h6
   subst e
   refine sr ?_
   refine mv ?_
   refine vy (V.ia h7 rfl rfl Rcf.el30) fun x28_5 h8 => ?_
   refine vy (V.ld hS h8 rfl Rcf.one3) fun x29_6 h9 => ?_
   refine as_ ?_
   refine as_ ?_
   refine dn ?_
   refine CV.ret ?_
   refine PV.thenR ?_
   cases h9
   exact PV.ret (by simp) Tryz.results215 hS (RS.tmp rfl (RS.tmp rfl RS.nil)) rfl
  ·
   clear h5 h6
   subst e
   refine CV.skip ?_
   refine PV.thenN ?_
   refine sr ?_
   refine mv ?_
   refine mv ?_
   refine mv ?_
   refine LV.call hS h7 (g65_ok _ _ _ _ _ _ _ _ ) hP rfl rfl rfl rfl fun x33_7 T5 n5 h10 ρ its hS => ?_
   refine as_ ?_
   refine as_ ?_
   refine dn ?_
   refine CV.ret ?_
   cases h10
   exact PV.ret (by simp) Tryz.results215 hS (RS.tmp rfl (RS.tmp rfl RS.nil)) rfl
noncomputable def g217_b1 (ih : FuncId → List HT → List AV → HT → Nat → R) (ro : List HT) (lp1 : AV → AV → AV → AV → AV → HT → Nat → R) (y0 y1 y2 y6 y7 : AV) (T2 : HT) (n2 : Nat) : R :=
 callK (g99 ro y0 y2 T2 n2) fun x13_2 T3 n3 =>
 condK 2170009 x13_2
 (
  ncK 2170011 y0 fun x15_3 =>
  faK 2170012 x15_3 0 fun x16_4 =>
  ldK 2170013 T3 ro x16_4 fun x17_5 =>
  ncK 2170015 y0 fun x19_6 =>
  faK 2170016 x19_6 1 fun x20_7 =>
  ldK 2170017 T3 ro x20_7 fun x21_8 =>
  iaK 2170018 x17_5 x21_8 3 fun x22_9 =>
  ldAK 2170019 T3 ro x22_9 3 fun x23_10 =>
  newK T3 n3 (.obj [.lit (.int .i64 0), .lit (.string ⟨#[]⟩), .lit (.int .i64 0)] 139) fun x8_11 T4 n4 =>
  stAK 2170021 T4 x8_11 x23_10 3 fun T5 =>
  fldK 2170023 T5 ro y0 1 fun x27_12 =>
  addK Tryz.prog 3 (.tmp 27) (.const (.int .i64 (.ofNat 1))) 2170024 x27_12 (.lit (.int .i64 (.ofNat 1))) fun x28_13 =>
  faK 2170025 y0 1 fun x30_14 =>
  stK 2170026 T5 x30_14 x28_13 fun T6 =>
  faK 2170028 x8_11 1 fun x32_15 =>
  ldQK 2170029 T6 ro [x8_11] x32_15 fun x33_16 =>
  faK 2170030 x8_11 2 fun x35_17 =>
  ldQK 2170031 T6 ro [x8_11] x35_17 fun x36_18 =>
  callK (g231 ro x33_16 T6 n4) fun x34_19 T7 n7 =>
  keepK 2170035 T6 T7 [x8_11] <|
  dynK 2170036 y1 fun f p q => callK (ih f ro (p ++ ([] ++ q)) T7 n7) fun x39_20 T8 n8 =>
  keepK 2170037 T6 T8 [x8_11] <|
  bsK 2170038 T8 n8 2 3 1 [(0, y7), (1, x39_20)] fun x40_21 T9 n9 =>
  keepK 2170039 T6 T9 [x8_11] <|
  callK (g65 ro y0 x34_19 x36_18 (.lit (.string ⟨⟨[]⟩⟩)) x40_21 T9 n9) fun x41_22 T10 n10 =>
  lp1 y0 y1 y2 y6 x41_22 T10 n10
 )
 (
  .ok (.val y7) T3 n3
 )
noncomputable def g217 (ih : FuncId → List HT → List AV → HT → Nat → R) (ro : List HT) (a0 a1 a2 : AV) (T : HT) (nx : Nat) : R :=
 dynK 2170003 a1 fun f p q => callK (ih f ro (p ++ ([] ++ q)) T nx) fun x10_1 T1 n1 =>
 lpf5 2170005 (g217_b1 ih ro) 100000 a0 a1 a2 (.lit (.int .i64 (.ofNat 0))) x10_1 T1 n1
theorem g217_ok (ih : FuncId → List HT → List AV → HT → Nat → R) (hI : ∀ f ro args T nx, GOk Tryz.prog envE f args ro T nx (ih f ro args T nx)) (ro : List HT) (a0 a1 a2 : AV) (T : HT) (nx : Nat) : GOk Tryz.prog envE 217 [a0, a1, a2] ro T nx (g217 ih ro a0 a1 a2 T nx) := by
 refine GOk.of_body Tryz.func217 rfl Tryz.ntmps217 (by kernel_rfl) rfl fun r T' n' h1 w0 base ρ0 its hS hP => ?_
 have X : CtxW envE ρ0 ro r T' n' := trivial
 unfold g217 at h1
 refine sr ?_
 refine as_ ?_
 refine dn ?_
 refine sr ?_
 refine mv ?_
 refine LV.callD (G := fun f gs => ih f ro gs T nx) (qs := []) hS h1 (fun f gs => hI _ _ _ _ _) hP rfl rfl rfl rfl rfl rfl rfl fun x10_1 T1 n1 h2 ρ its hS => ?_
 refine as_ ?_
 refine dn ?_
 refine CV.seq ?_
 refine CV.block ?_
 refine cl5 X 0 1 2 6 7 [] hS h2 ⟨rfl, rfl, rfl, rfl, rfl, trivial⟩ ?_
 intro f1 y0 y1 y2 y6 y7 T2 n2 ρ its hS h3
 unfold g217_b1 at h3
 clear h1 h2
 refine CV.seq ?_
 refine sr ?_
 refine mv ?_
 refine mv ?_
 refine LV.call hS h3 (g99_ok _ _ _ _ _ ) hP rfl rfl rfl rfl fun x13_2 T3 n3 h4 ρ its hS => ?_
 refine dn ?_
 refine CV.cond h4 rfl (fun e h5 => ?_) (fun e h5 => ?_)
 ·
  clear h3 h4
  subst e
  refine CV.skip ?_
  refine PV.thenN ?_
  refine CV.block ?_
  refine CV.seq ?_
  refine CV.regionM [(0, .anywhere), (1, .anywhere), (2, .anywhere), (3, .held), (4, .anywhere), (5, .anywhere), (6, .anywhere), (7, .held), (8, .held), (9, .held), (10, .alone), (11, .alone)] rfl (fun c a a' w hd hq => PanicOk.root (P := Tryz.prog) (fn := Tryz.f217) (w0 := w0) (base := base) (E := envE) (ro := ro) (r := r) (T' := T') (n' := n') (ρ0 := ρ0) c a a' w hd hq) (by kernel_rfl) ?_
  refine MV.step0 (i := 0) rfl (VAL.move rfl) rfl rfl rfl ?_
  refine MV.lift0 (i := 1) rfl (V.nc h5 rfl) rfl rfl rfl fun x15_3 h6 => ?_
  refine MV.lift0 (i := 2) rfl (V.fa h6 rfl Rcf.fo98_0) rfl rfl rfl fun x16_4 h7 => ?_
  refine MV.lift1 (i := 3) rfl (fun _ z => z) (V.ld hS h7 rfl Rcf.one96) rfl rfl rfl [] (by kernel_rfl) fun x17_5 h8 => ?_
  refine MV.step0 (i := 4) rfl (VAL.move rfl) rfl rfl rfl ?_
  refine MV.lift0 (i := 5) rfl (V.nc h8 rfl) rfl rfl rfl fun x19_6 h9 => ?_
  refine MV.lift0 (i := 6) rfl (V.fa h9 rfl Rcf.fo98_1) rfl rfl rfl fun x20_7 h10 => ?_
  refine MV.lift1 (i := 7) rfl (fun _ z => z) (V.ld hS h10 rfl Rcf.one3) rfl rfl rfl [3] (by kernel_rfl) fun x21_8 h11 => ?_
  refine MV.lift1 (i := 8) rfl (fun _ z => z) (V.ia h11 rfl rfl Rcf.el96) rfl rfl rfl [] (by kernel_rfl) fun x22_9 h12 => ?_
  refine MV.lift1 (i := 9) rfl (fun _ z => z) (V.ldA hS h12 rfl Rcf.agg139) rfl rfl rfl [] (by kernel_rfl) fun x23_10 h13 => ?_
  refine MV.force (i := 10) rfl ?_
  refine LV.alloc hS h13 rfl Rcf.zr139 rfl rfl rfl fun x8_11 T4 n4 h14 ρ its hS hdr => ?_
  refine LV.nextM [9] (by kernel_rfl) (fun _ => hdr) ?_
  refine MV.force (i := 11) rfl ?_
  refine LV.stA hS h14 rfl rfl rfl Rcf.agg139 rfl rfl rfl fun T5 its h15 hS => ?_
  refine LV.nextM [] (by kernel_rfl) (fun z => absurd rfl z) ?_
  refine mdn ?_
  refine sr ?_
  refine mv ?_
  refine fl hS h15 Rcf.fo98_1 Rcf.one3 fun x27_12 h16 => ?_
  refine vy (V.add h16 rfl rfl) fun x28_13 h17 => ?_
  refine fa2 h17 Rcf.fo98_1 fun x30_14 h18 => ?_
  refine LV.st hS h18 rfl rfl rfl Rcf.siz3 rfl rfl fun T6 its h19 hS => ?_
  refine dn ?_
  refine CV.regionMS hS [x8_11] [(0, .anywhere), (1, .anywhere), (2, .held), (4, .anywhere), (5, .held), (6, .anywhere), (7, .anywhere), (3, .alone), (8, .alone), (9, .alone), (10, .alone), (11, .alone)] rfl (fun c a a' w hd hq => PanicOk.root (P := Tryz.prog) (fn := Tryz.f217) (w0 := w0) (base := base) (E := envE) (ro := ro) (r := r) (T' := T') (n' := n') (ρ0 := ρ0) c a a' w hd hq) (by kernel_rfl) ?_
  have hK := KeepS.start [x8_11] hS
  have hR := hS
  have hP0 := hP
  replace hP := PK.up hR hP
  replace hS := hR.root
  refine MV.step0 (i := 0) rfl (VAL.move rfl) rfl rfl rfl ?_
  refine MV.lift0 (i := 1) rfl (V.fa h19 rfl Rcf.fo139_1) rfl rfl rfl fun x32_15 h20 => ?_
  refine MV.lift1 (i := 2) rfl hK (V.ldQ hS h20 rfl Rcf.one9) rfl rfl rfl [] (by kernel_rfl) fun x33_16 h21 => ?_
  refine MV.lift0 (i := 4) rfl (V.fa h21 rfl Rcf.fo139_2) rfl rfl rfl fun x35_17 h22 => ?_
  refine MV.lift1 (i := 5) rfl hK (V.ldQ hS h22 rfl Rcf.one3) rfl rfl rfl [2] (by kernel_rfl) fun x36_18 h23 => ?_
  refine MV.step0 (i := 6) rfl (VAL.move rfl) rfl rfl rfl ?_
  refine MV.step0 (i := 7) rfl (VAL.move rfl) rfl rfl rfl ?_
  refine MV.force (i := 3) rfl ?_
  refine LV.call hS h23 (g231_ok _ _ _ _ ) hP rfl rfl rfl rfl fun x34_19 T7 n7 h24 ρ its hS => ?_
  obtain ⟨hK, h25⟩ := KeepS.step hR hS h24
  refine LV.nextM [5] (by kernel_rfl) (fun _ => hK) ?_
  refine MV.force (i := 8) rfl ?_
  refine LV.callD (G := fun f gs => ih f ro gs T7 n7) (qs := []) hS h25 (fun f gs => hI _ _ _ _ _) hP rfl rfl rfl rfl rfl rfl rfl fun x39_20 T8 n8 h26 ρ its hS => ?_
  obtain ⟨hK, h27⟩ := KeepS.step hR hS h26
  refine LV.nextM [5] (by kernel_rfl) (fun _ => hK) ?_
  refine MV.force (i := 9) rfl ?_
  refine LV.bslice hS h27 rfl rfl Rcf.el30 rfl rfl rfl rfl fun x40_21 T9 n9 h28 ρ its hS hdr => ?_
  obtain ⟨hK, h29⟩ := KeepS.step hR hS h28
  refine LV.nextM [5] (by kernel_rfl) (fun _ => hK) ?_
  refine MV.force (i := 10) rfl ?_
  refine LV.call hS h29 (g65_ok _ _ _ _ _ _ _ _ ) hP rfl rfl rfl rfl fun x41_22 T10 n10 h30 ρ its hS => ?_
  refine LV.nextM [] (by kernel_rfl) (fun z => absurd rfl z) ?_
  refine MV.force (i := 11) rfl ?_
  refine as_ ?_
  refine LV.nextM [] (by kernel_rfl) (fun z => absurd rfl z) ?_
  replace hS := hR.up hS
  replace hP := hP0
  refine MV.done ?_
  refine PV.blockN ?_
  exact pb5 hS h30 ⟨rfl, rfl, rfl, rfl, rfl, trivial⟩
 ·
  clear h3 h4
  subst e
  refine CV.exit ?_
  refine PV.thenE ?_
  refine PV.thenE ?_
  refine PV.blockE ?_
  refine PV.thenN ?_
  refine sr ?_
  refine mv ?_
  refine as_ ?_
  refine dn ?_
  refine CV.ret ?_
  cases h5
  exact PV.ret (by simp) Tryz.results217 hS (RS.tmp rfl RS.nil) rfl
noncomputable def g218 (ih : FuncId → List HT → List AV → HT → Nat → R) (ro : List HT) (a0 : AV) (T : HT) (nx : Nat) : R :=
 bsK 2180005 T nx 1 9 1 [(0, (.lit (.string ⟨⟨[97, 110, 100]⟩⟩)))] fun x6_1 T1 n1 =>
 callK (ih 217 ro [a0, (.fn (.func 232) [a0] []), x6_1] T1 n1) fun x7_2 T2 n2 =>
 .ok (.val x7_2) T2 n2
theorem g218_ok (ih : FuncId → List HT → List AV → HT → Nat → R) (hI : ∀ f ro args T nx, GOk Tryz.prog envE f args ro T nx (ih f ro args T nx)) (ro : List HT) (a0 : AV) (T : HT) (nx : Nat) : GOk Tryz.prog envE 218 [a0] ro T nx (g218 ih ro a0 T nx) := by
 refine GOk.of_body Tryz.func218 rfl Tryz.ntmps218 (by kernel_rfl) rfl fun r T' n' h1 w0 base ρ0 its hS hP => ?_
 have X : CtxW envE ρ0 ro r T' n' := trivial
 unfold g218 at h1
 refine sr ?_
 refine as_ ?_
 refine dn ?_
 refine sr ?_
 refine mv ?_
 refine mv ?_
 refine pu ?_
 refine LV.bslice hS h1 rfl rfl Rcf.el46 rfl rfl rfl rfl fun x6_1 T1 n1 h2 ρ its hS hdr => ?_
 refine LV.call hS h2 (hI _ _ _ _ _) hP rfl rfl rfl rfl fun x7_2 T2 n2 h3 ρ its hS => ?_
 refine as_ ?_
 refine dn ?_
 refine CV.ret ?_
 cases h3
 exact PV.ret (by simp) Tryz.results218 hS (RS.tmp rfl RS.nil) rfl
noncomputable def g230_k1 (ih : FuncId → List HT → List AV → HT → Nat → R) (ro : List HT) (y6 y61 : AV) (T6 : HT) (n6 : Nat) : R :=
 condK 2300028 y61
 (
  .bad 2300029
 )
 (
  .ok (.val y6) T6 n6
 )
noncomputable def g230 (ih : FuncId → List HT → List AV → HT → Nat → R) (ro : List HT) (a0 : AV) (T : HT) (nx : Nat) : R :=
 callK (g129 ro a0 T nx) fun x9_1 T1 n1 =>
 bsK 2300006 T1 n1 1 9 1 [(0, (.lit (.string ⟨⟨[40]⟩⟩)))] fun x11_2 T2 n2 =>
 callK (g99 ro a0 x11_2 T2 n2) fun x12_3 T3 n3 =>
 condK 2300008 x12_3
 (
  .bad 2300009
 )
 (
  callK (g50 ro a0 T3 n3) fun x42_4 T4 n4 =>
  neK Tryz.prog 3 (.tmp 42) (.const (.int .i64 (.ofNat 1))) 2300012 x42_4 (.lit (.int .i64 (.ofNat 1))) fun x43_5 =>
  condK 2300013 x43_5
  (
   .bad 2300014
  )
  (
   callK (ih 235 ro [a0] T4 n4) fun x47_6 T5 n5 =>
   fldK 2300019 T5 ro a0 2 fun x51_7 =>
   iaK 2300021 x51_7 x47_6 5 fun x53_8 =>
   faK 2300022 x53_8 0 fun x54_9 =>
   ldK 2300023 T5 ro x54_9 fun x55_10 =>
   neK Tryz.prog 3 (.tmp 56) (.const (.int .i64 (.ofNat 6))) 2300026 x55_10 (.lit (.int .i64 (.ofNat 6))) fun x57_11 =>
   condK 2300032 x57_11
   (
    neK Tryz.prog 3 (.tmp 59) (.const (.int .i64 (.ofNat 13))) 2300034 x55_10 (.lit (.int .i64 (.ofNat 13))) fun x60_12 =>
    g230_k1 ih ro x47_6 x60_12 T5 n5
   )
   (
    g230_k1 ih ro x47_6 (.lit (.bool false)) T5 n5
   )
  )
 )
theorem g230_ok (ih : FuncId → List HT → List AV → HT → Nat → R) (hI : ∀ f ro args T nx, GOk Tryz.prog envE f args ro T nx (ih f ro args T nx)) (ro : List HT) (a0 : AV) (T : HT) (nx : Nat) : GOk Tryz.prog envE 230 [a0] ro T nx (g230 ih ro a0 T nx) := by
 refine GOk.of_body Tryz.func230 rfl Tryz.ntmps230 (by kernel_rfl) rfl fun r T' n' h1 w0 base ρ0 its hS hP => ?_
 have X : CtxW envE ρ0 ro r T' n' := trivial
 unfold g230 at h1
 refine sr ?_
 refine as_ ?_
 refine dn ?_
 refine sr ?_
 refine mv ?_
 refine LV.call hS h1 (g129_ok _ _ _ _ ) hP rfl rfl rfl rfl fun x9_1 T1 n1 h2 ρ its hS => ?_
 refine as_ ?_
 refine dn ?_
 refine CV.seq ?_
 refine sr ?_
 refine mv ?_
 refine LV.bslice hS h2 rfl rfl Rcf.el46 rfl rfl rfl rfl fun x11_2 T2 n2 h3 ρ its hS hdr => ?_
 refine LV.call hS h3 (g99_ok _ _ _ _ _ ) hP rfl rfl rfl rfl fun x12_3 T3 n3 h4 ρ its hS => ?_
 refine dn ?_
 refine CV.cond h4 rfl (fun e h5 => ?_) (fun e h5 => ?_)
 ·
  clear h1 h2 h3 h4
  subst e
  cases h5
 ·
  clear h1 h2 h3 h4
  subst e
  refine CV.skip ?_
  refine PV.thenN ?_
  refine CV.seq ?_
  refine sr ?_
  refine mv ?_
  refine LV.call hS h5 (g50_ok _ _ _ _ ) hP rfl rfl rfl rfl fun x42_4 T4 n4 h6 ρ its hS => ?_
  refine vy (V.ne h6 rfl rfl) fun x43_5 h7 => ?_
  refine dn ?_
  refine CV.cond h7 rfl (fun e h8 => ?_) (fun e h8 => ?_)
  ·
   clear h5 h6 h7
   subst e
   cases h8
  ·
   clear h5 h6 h7
   subst e
   refine CV.skip ?_
   refine PV.thenN ?_
   refine sr ?_
   refine mv ?_
   refine LV.call hS h8 (hI _ _ _ _ _) hP rfl rfl rfl rfl fun x47_6 T5 n5 h9 ρ its hS => ?_
   refine as_ ?_
   refine dn ?_
   refine CV.seq ?_
   refine sr ?_
   refine mv ?_
   refine fl hS h9 Rcf.fo98_2 Rcf.one23 fun x51_7 h10 => ?_
   refine mv ?_
   refine vy (V.ia h10 rfl rfl Rcf.el23) fun x53_8 h11 => ?_
   refine vy (V.fa h11 rfl Rcf.fo32_0) fun x54_9 h12 => ?_
   refine vy (V.ld hS h12 rfl Rcf.one3) fun x55_10 h13 => ?_
   refine as_ ?_
   refine dn ?_
   refine sr ?_
   refine mv ?_
   refine vy (V.ne h13 rfl rfl) fun x57_11 h14 => ?_
   refine mv ?_
   refine ls2 X 6 61 [(2, (.lit (.int .i64 (.ofNat 0))))] (g230_k1 ih ro) 3 ?_ ?_
   ·
    rcases condK_inv h14 with ⟨e, h17⟩ | ⟨e, h17⟩
    ·
     clear h8 h9 h10 h11 h12 h13 h14
     subst e
     refine mv ?_
     refine vy (V.ne h17 rfl rfl) fun x60_12 h18 => ?_
     refine pu ?_
     exact la2 hS h18 ⟨rfl, rfl, rfl, trivial⟩
    ·
     clear h8 h9 h10 h11 h12 h13 h14
     subst e
     refine sk ?_
     refine sk ?_
     refine pu ?_
     exact la2 hS h17 ⟨rfl, rfl, rfl, trivial⟩
   ·
    intro y6 y61 T6 n6 ρ its hS h15
    unfold g230_k1 at h15
    clear h8 h9 h10 h11 h12 h13 h14
    refine dn ?_
    refine CV.cond h15 rfl (fun e h16 => ?_) (fun e h16 => ?_)
    ·
     clear h15
     subst e
     cases h16
    ·
     clear h15
     subst e
     refine CV.skip ?_
     refine PV.thenN ?_
     refine sr ?_
     refine mv ?_
     refine as_ ?_
     refine dn ?_
     refine CV.ret ?_
     cases h16
     exact PV.ret (by simp) Tryz.results230 hS (RS.tmp rfl RS.nil) rfl
noncomputable def g232 (ih : FuncId → List HT → List AV → HT → Nat → R) (ro : List HT) (a0 : AV) (T : HT) (nx : Nat) : R :=
 bsK 2320003 T nx 1 9 1 [(0, (.lit (.string ⟨⟨[110, 111, 116]⟩⟩)))] fun x6_1 T1 n1 =>
 callK (g99 ro a0 x6_1 T1 n1) fun x7_2 T2 n2 =>
 notK 2320005 x7_2 fun x8_3 =>
 condK 2320006 x8_3
 (
  callK (ih 237 ro [a0] T2 n2) fun x10_4 T3 n3 =>
  .ok (.val x10_4) T3 n3
 )
 (
  callK (g177 ro a0 (.lit (.string ⟨⟨[110, 111, 116]⟩⟩)) T2 n2) fun x12_5 T4 n4 =>
  callK (g176 ro a0 x12_5 T4 n4) fun x15_6 T5 n5 =>
  callK (ih 232 ro [a0] T5 n5) fun x17_7 T6 n6 =>
  fldK 2320020 T6 ro a0 3 fun x21_8 =>
  subK Tryz.prog 3 (.tmp 21) (.const (.int .i64 (.ofNat 1))) 2320021 x21_8 (.lit (.int .i64 (.ofNat 1))) fun x22_9 =>
  faK 2320022 a0 3 fun x24_10 =>
  stK 2320023 T6 x24_10 x22_9 fun T7 =>
  bsK 2320027 T7 n6 1 3 1 [(0, x17_7)] fun x28_11 T8 n8 =>
  callK (g65 ro a0 (.lit (.int .i64 (.ofNat 17))) x12_5 (.lit (.string ⟨⟨[]⟩⟩)) x28_11 T8 n8) fun x29_12 T9 n9 =>
  .ok (.val x29_12) T9 n9
 )
theorem g232_ok (ih : FuncId → List HT → List AV → HT → Nat → R) (hI : ∀ f ro args T nx, GOk Tryz.prog envE f args ro T nx (ih f ro args T nx)) (ro : List HT) (a0 : AV) (T : HT) (nx : Nat) : GOk Tryz.prog envE 232 [a0] ro T nx (g232 ih ro a0 T nx) := by
 refine GOk.of_body Tryz.func232 rfl Tryz.ntmps232 (by kernel_rfl) rfl fun r T' n' h1 w0 base ρ0 its hS hP => ?_
 have X : CtxW envE ρ0 ro r T' n' := trivial
 unfold g232 at h1
 refine sr ?_
 refine as_ ?_
 refine dn ?_
 refine CV.seq ?_
 refine sr ?_
 refine mv ?_
 refine LV.bslice hS h1 rfl rfl Rcf.el46 rfl rfl rfl rfl fun x6_1 T1 n1 h2 ρ its hS hdr => ?_
 refine LV.call hS h2 (g99_ok _ _ _ _ _ ) hP rfl rfl rfl rfl fun x7_2 T2 n2 h3 ρ its hS => ?_
 refine vy (V.not h3 rfl) fun x8_3 h4 => ?_
 refine dn ?_
 refine CV.cond h4 rfl (fun e h5 => ?_) (fun e h5 => ?_)
 ·
  clear h1 h2 h3 h4
  subst e
  refine sr ?_
  refine mv ?_
  refine LV.call hS h5 (hI _ _ _ _ _) hP rfl rfl rfl rfl fun x10_4 T3 n3 h6 ρ its hS => ?_
  refine as_ ?_
  refine dn ?_
  refine CV.ret ?_
  refine PV.thenR ?_
  cases h6
  exact PV.ret (by simp) Tryz.results232 hS (RS.tmp rfl RS.nil) rfl
 ·
  clear h1 h2 h3 h4
  subst e
  refine CV.skip ?_
  refine PV.thenN ?_
  refine sr ?_
  refine mv ?_
  refine LV.call hS h5 (g177_ok _ _ _ _ _ ) hP rfl rfl rfl rfl fun x12_5 T4 n4 h7 ρ its hS => ?_
  refine as_ ?_
  refine dn ?_
  refine sr ?_
  refine mv ?_
  refine mv ?_
  refine LV.call hS h7 (g176_ok _ _ _ _ _ ) hP rfl rfl rfl rfl fun x15_6 T5 n5 h8 ρ its hS => ?_
  refine dn ?_
  refine sr ?_
  refine mv ?_
  refine LV.call hS h8 (hI _ _ _ _ _) hP rfl rfl rfl rfl fun x17_7 T6 n6 h9 ρ its hS => ?_
  refine as_ ?_
  refine dn ?_
  refine sr ?_
  refine mv ?_
  refine fl hS h9 Rcf.fo98_3 Rcf.one3 fun x21_8 h10 => ?_
  refine vy (V.sub h10 rfl rfl) fun x22_9 h11 => ?_
  refine fa2 h11 Rcf.fo98_3 fun x24_10 h12 => ?_
  refine LV.st hS h12 rfl rfl rfl Rcf.siz3 rfl rfl fun T7 its h13 hS => ?_
  refine dn ?_
  refine sr ?_
  refine mv ?_
  refine mv ?_
  refine mv ?_
  refine LV.bslice hS h13 rfl rfl Rcf.el30 rfl rfl rfl rfl fun x28_11 T8 n8 h14 ρ its hS hdr => ?_
  refine LV.call hS h14 (g65_ok _ _ _ _ _ _ _ _ ) hP rfl rfl rfl rfl fun x29_12 T9 n9 h15 ρ its hS => ?_
  refine as_ ?_
  refine dn ?_
  refine CV.ret ?_
  cases h15
  exact PV.ret (by simp) Tryz.results232 hS (RS.tmp rfl RS.nil) rfl
noncomputable def g235_b1 (ih : FuncId → List HT → List AV → HT → Nat → R) (ro : List HT) (lp1 : AV → AV → AV → HT → Nat → R) (y0 y2 y3 : AV) (T2 : HT) (n2 : Nat) : R :=
 callK (g129 ro y0 T2 n2) fun x10_2 T3 n3 =>
 callK (g131 ro y0 (.lit (.string ⟨⟨[46]⟩⟩)) T3 n3) fun x14_3 T4 n4 =>
 condK 2350012 x14_3
 (
  .bad 2350013
 )
 (
  bsK 2350015 T4 n4 1 9 1 [(0, (.lit (.string ⟨⟨[40]⟩⟩)))] fun x28_4 T5 n5 =>
  callK (g99 ro y0 x28_4 T5 n5) fun x29_5 T6 n6 =>
  condK 2350018 x29_5
  (
   .bad 2350019
  )
  (
   bsK 2350021 T6 n6 1 9 1 [(0, (.lit (.string ⟨⟨[91]⟩⟩)))] fun x35_6 T7 n7 =>
   callK (g99 ro y0 x35_6 T7 n7) fun x36_7 T8 n8 =>
   condK 2350024 x36_7
   (
    .bad 2350025
   )
   (
    .ok (.val y3) T8 n8
   )
  )
 )
noncomputable def g235 (ih : FuncId → List HT → List AV → HT → Nat → R) (ro : List HT) (a0 : AV) (T : HT) (nx : Nat) : R :=
 callK (ih 238 ro [a0] T nx) fun x8_1 T1 n1 =>
 lpf3 2350005 (g235_b1 ih ro) 100000 a0 (.lit (.int .i64 (.ofNat 0))) x8_1 T1 n1
theorem g235_ok (ih : FuncId → List HT → List AV → HT → Nat → R) (hI : ∀ f ro args T nx, GOk Tryz.prog envE f args ro T nx (ih f ro args T nx)) (ro : List HT) (a0 : AV) (T : HT) (nx : Nat) : GOk Tryz.prog envE 235 [a0] ro T nx (g235 ih ro a0 T nx) := by
 refine GOk.of_body Tryz.func235 rfl Tryz.ntmps235 (by kernel_rfl) rfl fun r T' n' h1 w0 base ρ0 its hS hP => ?_
 have X : CtxW envE ρ0 ro r T' n' := trivial
 unfold g235 at h1
 refine sr ?_
 refine as_ ?_
 refine dn ?_
 refine sr ?_
 refine mv ?_
 refine LV.call hS h1 (hI _ _ _ _ _) hP rfl rfl rfl rfl fun x8_1 T1 n1 h2 ρ its hS => ?_
 refine as_ ?_
 refine dn ?_
 refine CV.block ?_
 refine cl3 X 0 2 3 [] hS h2 ⟨rfl, rfl, rfl, trivial⟩ ?_
 intro f1 y0 y2 y3 T2 n2 ρ its hS h3
 unfold g235_b1 at h3
 clear h1 h2
 refine CV.block ?_
 refine sr ?_
 refine mv ?_
 refine LV.call hS h3 (g129_ok _ _ _ _ ) hP rfl rfl rfl rfl fun x10_2 T3 n3 h4 ρ its hS => ?_
 refine as_ ?_
 refine dn ?_
 refine CV.block ?_
 refine sr ?_
 refine mv ?_
 refine LV.call hS h4 (g131_ok _ _ _ _ _ ) hP rfl rfl rfl rfl fun x14_3 T4 n4 h5 ρ its hS => ?_
 refine as_ ?_
 refine dn ?_
 refine CV.cond h5 rfl (fun e h6 => ?_) (fun e h6 => ?_)
 ·
  clear h3 h4 h5
  subst e
  cases h6
 ·
  clear h3 h4 h5
  subst e
  refine sr ?_
  refine mv ?_
  refine LV.bslice hS h6 rfl rfl Rcf.el46 rfl rfl rfl rfl fun x28_4 T5 n5 h7 ρ its hS hdr => ?_
  refine LV.call hS h7 (g99_ok _ _ _ _ _ ) hP rfl rfl rfl rfl fun x29_5 T6 n6 h8 ρ its hS => ?_
  refine as_ ?_
  refine dn ?_
  refine CV.cond h8 rfl (fun e h9 => ?_) (fun e h9 => ?_)
  ·
   clear h6 h7 h8
   subst e
   cases h9
  ·
   clear h6 h7 h8
   subst e
   refine sr ?_
   refine mv ?_
   refine LV.bslice hS h9 rfl rfl Rcf.el46 rfl rfl rfl rfl fun x35_6 T7 n7 h10 ρ its hS hdr => ?_
   refine LV.call hS h10 (g99_ok _ _ _ _ _ ) hP rfl rfl rfl rfl fun x36_7 T8 n8 h11 ρ its hS => ?_
   refine as_ ?_
   refine dn ?_
   refine CV.cond h11 rfl (fun e h12 => ?_) (fun e h12 => ?_)
   ·
    clear h9 h10 h11
    subst e
    cases h12
   ·
    clear h9 h10 h11
    subst e
    refine sr ?_
    refine mv ?_
    refine as_ ?_
    refine dn ?_
    refine CV.ret ?_
    refine PV.blockR ?_
    refine PV.blockR ?_
    refine PV.thenR ?_
    refine PV.blockR ?_
    cases h12
    exact PV.ret (by simp) Tryz.results235 hS (RS.tmp rfl RS.nil) rfl
noncomputable def g237 (ih : FuncId → List HT → List AV → HT → Nat → R) (ro : List HT) (a0 : AV) (T : HT) (nx : Nat) : R :=
 callK (ih 241 ro [a0] T nx) fun x7_1 T1 n1 =>
 callK (g129 ro a0 T1 n1) fun x9_2 T2 n2 =>
 bsK 2370009 T2 n2 1 9 1 [(0, (.lit (.string ⟨⟨[110, 111, 116]⟩⟩)))] fun x12_3 T3 n3 =>
 callK (g99 ro a0 x12_3 T3 n3) fun x13_4 T4 n4 =>
 condK 2370012 x13_4
 (
  .bad 2370013
 )
 (
  bsK 2370015 T4 n4 7 9 1 [(0, (.lit (.string ⟨⟨[61, 61]⟩⟩))), (1, (.lit (.string ⟨⟨[33, 61]⟩⟩))), (2, (.lit (.string ⟨⟨[60]⟩⟩))), (3, (.lit (.string ⟨⟨[60, 61]⟩⟩))), (4, (.lit (.string ⟨⟨[62]⟩⟩))), (5, (.lit (.string ⟨⟨[62, 61]⟩⟩))), (6, (.lit (.string ⟨⟨[105, 110]⟩⟩)))] fun x32_5 T5 n5 =>
  callK (g99 ro a0 x32_5 T5 n5) fun x33_6 T6 n6 =>
  condK 2370018 x33_6
  (
   .bad 2370019
  )
  (
   .ok (.val x7_1) T6 n6
  )
 )
theorem g237_ok (ih : FuncId → List HT → List AV → HT → Nat → R) (hI : ∀ f ro args T nx, GOk Tryz.prog envE f args ro T nx (ih f ro args T nx)) (ro : List HT) (a0 : AV) (T : HT) (nx : Nat) : GOk Tryz.prog envE 237 [a0] ro T nx (g237 ih ro a0 T nx) := by
 refine GOk.of_body Tryz.func237 rfl Tryz.ntmps237 (by kernel_rfl) rfl fun r T' n' h1 w0 base ρ0 its hS hP => ?_
 have X : CtxW envE ρ0 ro r T' n' := trivial
 unfold g237 at h1
 refine sr ?_
 refine as_ ?_
 refine dn ?_
 refine sr ?_
 refine mv ?_
 refine LV.call hS h1 (hI _ _ _ _ _) hP rfl rfl rfl rfl fun x7_1 T1 n1 h2 ρ its hS => ?_
 refine as_ ?_
 refine dn ?_
 refine sr ?_
 refine mv ?_
 refine LV.call hS h2 (g129_ok _ _ _ _ ) hP rfl rfl rfl rfl fun x9_2 T2 n2 h3 ρ its hS => ?_
 refine as_ ?_
 refine dn ?_
 refine CV.seq ?_
 refine CV.block ?_
 refine sr ?_
 refine mv ?_
 refine LV.bslice hS h3 rfl rfl Rcf.el46 rfl rfl rfl rfl fun x12_3 T3 n3 h4 ρ its hS hdr => ?_
 refine LV.call hS h4 (g99_ok _ _ _ _ _ ) hP rfl rfl rfl rfl fun x13_4 T4 n4 h5 ρ its hS => ?_
 refine as_ ?_
 refine dn ?_
 refine CV.cond h5 rfl (fun e h6 => ?_) (fun e h6 => ?_)
 ·
  clear h1 h2 h3 h4 h5
  subst e
  cases h6
 ·
  clear h1 h2 h3 h4 h5
  subst e
  refine sr ?_
  refine mv ?_
  refine LV.bslice hS h6 rfl rfl Rcf.el46 rfl rfl rfl rfl fun x32_5 T5 n5 h7 ρ its hS hdr => ?_
  refine LV.call hS h7 (g99_ok _ _ _ _ _ ) hP rfl rfl rfl rfl fun x33_6 T6 n6 h8 ρ its hS => ?_
  refine as_ ?_
  refine dn ?_
  refine CV.cond h8 rfl (fun e h9 => ?_) (fun e h9 => ?_)
  ·
   clear h6 h7 h8
   subst e
   cases h9
  ·
   clear h6 h7 h8
   subst e
   refine CV.skip ?_
   refine PV.blockN ?_
   refine PV.thenN ?_
   refine sr ?_
   refine mv ?_
   refine as_ ?_
   refine dn ?_
   refine CV.ret ?_
   cases h9
   exact PV.ret (by simp) Tryz.results237 hS (RS.tmp rfl RS.nil) rfl
noncomputable def g238 (ih : FuncId → List HT → List AV → HT → Nat → R) (ro : List HT) (a0 : AV) (T : HT) (nx : Nat) : R :=
 ncK 2380003 a0 fun x6_1 =>
 faK 2380004 x6_1 0 fun x7_2 =>
 ldK 2380005 T ro x7_2 fun x8_3 =>
 ncK 2380007 a0 fun x10_4 =>
 faK 2380008 x10_4 1 fun x11_5 =>
 ldK 2380009 T ro x11_5 fun x12_6 =>
 iaK 2380010 x8_3 x12_6 3 fun x13_7 =>
 ldAK 2380011 T ro x13_7 3 fun x14_8 =>
 newK T nx (.obj [.lit (.int .i64 0), .lit (.string ⟨#[]⟩), .lit (.int .i64 0)] 139) fun x3_9 T1 n1 =>
 stAK 2380013 T1 x3_9 x14_8 3 fun T2 =>
 faK 2380014 x3_9 0 fun x16_10 =>
 ldK 2380015 T2 ro x16_10 fun x17_11 =>
 eqK Tryz.prog 3 (.tmp 17) (.const (.int .i64 (.ofNat 1))) 2380016 x17_11 (.lit (.int .i64 (.ofNat 1))) fun x18_12 =>
 condK 2380018 x18_12
 (
  fldK 2380020 T2 ro a0 1 fun x22_13 =>
  addK Tryz.prog 3 (.tmp 22) (.const (.int .i64 (.ofNat 1))) 2380021 x22_13 (.lit (.int .i64 (.ofNat 1))) fun x23_14 =>
  faK 2380022 a0 1 fun x25_15 =>
  stK 2380023 T2 x25_15 x23_14 fun T3 =>
  faK 2380025 x3_9 2 fun x27_16 =>
  ldK 2380026 T3 ro x27_16 fun x28_17 =>
  faK 2380027 x3_9 1 fun x29_18 =>
  ldK 2380028 T3 ro x29_18 fun x30_19 =>
  callK (g65 ro a0 (.lit (.int .i64 (.ofNat 6))) x28_17 x30_19 (.lit (.slice none 0 0)) T3 n1) fun x31_20 T4 n4 =>
  .ok (.val x31_20) T4 n4
 )
 (
  faK 2380031 x3_9 0 fun x33_21 =>
  ldK 2380032 T2 ro x33_21 fun x34_22 =>
  eqK Tryz.prog 3 (.tmp 34) (.const (.int .i64 (.ofNat 2))) 2380033 x34_22 (.lit (.int .i64 (.ofNat 2))) fun x35_23 =>
  condK 2380035 x35_23
  (
   fldK 2380037 T2 ro a0 1 fun x39_24 =>
   addK Tryz.prog 3 (.tmp 39) (.const (.int .i64 (.ofNat 1))) 2380038 x39_24 (.lit (.int .i64 (.ofNat 1))) fun x40_25 =>
   faK 2380039 a0 1 fun x42_26 =>
   stK 2380040 T2 x42_26 x40_25 fun T5 =>
   faK 2380042 x3_9 2 fun x44_27 =>
   ldK 2380043 T5 ro x44_27 fun x45_28 =>
   faK 2380044 x3_9 1 fun x46_29 =>
   ldK 2380045 T5 ro x46_29 fun x47_30 =>
   callK (g65 ro a0 (.lit (.int .i64 (.ofNat 4))) x45_28 x47_30 (.lit (.slice none 0 0)) T5 n1) fun x48_31 T6 n6 =>
   .ok (.val x48_31) T6 n6
  )
  (
   faK 2380048 x3_9 0 fun x50_32 =>
   ldK 2380049 T2 ro x50_32 fun x51_33 =>
   eqK Tryz.prog 3 (.tmp 51) (.const (.int .i64 (.ofNat 3))) 2380050 x51_33 (.lit (.int .i64 (.ofNat 3))) fun x52_34 =>
   condK 2380052 x52_34
   (
    .bad 2380053
   )
   (
    callK (g131 ro a0 (.lit (.string ⟨⟨[78, 111, 110, 101]⟩⟩)) T2 n1) fun x83_35 T7 n7 =>
    condK 2380057 x83_35
    (
     .bad 2380058
    )
    (
     callK (g131 ro a0 (.lit (.string ⟨⟨[84, 114, 117, 101]⟩⟩)) T7 n7) fun x90_36 T8 n8 =>
     condK 2380062 x90_36
     (
      .bad 2380063
     )
     (
      callK (g131 ro a0 (.lit (.string ⟨⟨[70, 97, 108, 115, 101]⟩⟩)) T8 n8) fun x97_37 T9 n9 =>
      condK 2380067 x97_37
      (
       .bad 2380068
      )
      (
       bsK 2380070 T9 n9 1 9 1 [(0, (.lit (.string ⟨⟨[40]⟩⟩)))] fun x104_38 T10 n10 =>
       callK (g99 ro a0 x104_38 T10 n10) fun x105_39 T11 n11 =>
       condK 2380073 x105_39
       (
        .bad 2380074
       )
       (
        bsK 2380076 T11 n11 1 9 1 [(0, (.lit (.string ⟨⟨[91]⟩⟩)))] fun x110_40 T12 n12 =>
        callK (g99 ro a0 x110_40 T12 n12) fun x111_41 T13 n13 =>
        condK 2380079 x111_41
        (
         callK (ih 243 ro [a0] T13 n13) fun x113_42 T14 n14 =>
         .ok (.val x113_42) T14 n14
        )
        (
         bsK 2380084 T13 n13 1 9 1 [(0, (.lit (.string ⟨⟨[123]⟩⟩)))] fun x116_43 T15 n15 =>
         callK (g99 ro a0 x116_43 T15 n15) fun x117_44 T16 n16 =>
         condK 2380087 x117_44
         (
          .bad 2380088
         )
         (
          callK (g78 ro a0 T16 n16) fun x121_45 T17 n17 =>
          .ok (.val (.lit (.int .i64 (.ofNat 0)))) T17 n17
         )
        )
       )
      )
     )
    )
   )
  )
 )
theorem g238_ok (ih : FuncId → List HT → List AV → HT → Nat → R) (hI : ∀ f ro args T nx, GOk Tryz.prog envE f args ro T nx (ih f ro args T nx)) (ro : List HT) (a0 : AV) (T : HT) (nx : Nat) : GOk Tryz.prog envE 238 [a0] ro T nx (g238 ih ro a0 T nx) := by
 refine GOk.of_body Tryz.func238 rfl Tryz.ntmps238 (by kernel_rfl) rfl fun r T' n' h1 w0 base ρ0 its hS hP => ?_
 have X : CtxW envE ρ0 ro r T' n' := trivial
 unfold g238 at h1
 refine sr ?_
 refine as_ ?_
 refine dn ?_
 refine CV.seq ?_
 refine CV.regionM [(0, .anywhere), (1, .anywhere), (2, .anywhere), (3, .held), (4, .anywhere), (5, .anywhere), (6, .anywhere), (7, .held), (8, .held), (9, .held), (10, .alone), (11, .alone)] rfl (fun c a a' w hd hq => PanicOk.root (P := Tryz.prog) (fn := Tryz.f238) (w0 := w0) (base := base) (E := envE) (ro := ro) (r := r) (T' := T') (n' := n') (ρ0 := ρ0) c a a' w hd hq) (by kernel_rfl) ?_
 refine MV.step0 (i := 0) rfl (VAL.move rfl) rfl rfl rfl ?_
 refine MV.lift0 (i := 1) rfl (V.nc h1 rfl) rfl rfl rfl fun x6_1 h2 => ?_
 refine MV.lift0 (i := 2) rfl (V.fa h2 rfl Rcf.fo98_0) rfl rfl rfl fun x7_2 h3 => ?_
 refine MV.lift1 (i := 3) rfl (fun _ z => z) (V.ld hS h3 rfl Rcf.one96) rfl rfl rfl [] (by kernel_rfl) fun x8_3 h4 => ?_
 refine MV.step0 (i := 4) rfl (VAL.move rfl) rfl rfl rfl ?_
 refine MV.lift0 (i := 5) rfl (V.nc h4 rfl) rfl rfl rfl fun x10_4 h5 => ?_
 refine MV.lift0 (i := 6) rfl (V.fa h5 rfl Rcf.fo98_1) rfl rfl rfl fun x11_5 h6 => ?_
 refine MV.lift1 (i := 7) rfl (fun _ z => z) (V.ld hS h6 rfl Rcf.one3) rfl rfl rfl [3] (by kernel_rfl) fun x12_6 h7 => ?_
 refine MV.lift1 (i := 8) rfl (fun _ z => z) (V.ia h7 rfl rfl Rcf.el96) rfl rfl rfl [] (by kernel_rfl) fun x13_7 h8 => ?_
 refine MV.lift1 (i := 9) rfl (fun _ z => z) (V.ldA hS h8 rfl Rcf.agg139) rfl rfl rfl [] (by kernel_rfl) fun x14_8 h9 => ?_
 refine MV.force (i := 10) rfl ?_
 refine LV.alloc hS h9 rfl Rcf.zr139 rfl rfl rfl fun x3_9 T1 n1 h10 ρ its hS hdr => ?_
 refine LV.nextM [9] (by kernel_rfl) (fun _ => hdr) ?_
 refine MV.force (i := 11) rfl ?_
 refine LV.stA hS h10 rfl rfl rfl Rcf.agg139 rfl rfl rfl fun T2 its h11 hS => ?_
 refine LV.nextM [] (by kernel_rfl) (fun z => absurd rfl z) ?_
 refine mdn ?_
 refine CV.seq ?_
 refine CV.block ?_
 refine sr ?_
 refine vy (V.fa h11 rfl Rcf.fo139_0) fun x16_10 h12 => ?_
 refine vy (V.ld hS h12 rfl Rcf.one3) fun x17_11 h13 => ?_
 refine vy (V.eq h13 rfl rfl) fun x18_12 h14 => ?_
 refine as_ ?_
 refine dn ?_
 refine CV.cond h14 rfl (fun e h15 => ?_) (fun e h15 => ?_)
 ·
  clear h1 h2 h3 h4 h5 h6 h7 h8 h9 h10 h11 h12 h13 h14
  subst e
  refine sr ?_
  refine mv ?_
  refine fl hS h15 Rcf.fo98_1 Rcf.one3 fun x22_13 h16 => ?_
  refine vy (V.add h16 rfl rfl) fun x23_14 h17 => ?_
  refine fa2 h17 Rcf.fo98_1 fun x25_15 h18 => ?_
  refine LV.st hS h18 rfl rfl rfl Rcf.siz3 rfl rfl fun T3 its h19 hS => ?_
  refine dn ?_
  refine sr ?_
  refine mv ?_
  refine vy (V.fa h19 rfl Rcf.fo139_2) fun x27_16 h20 => ?_
  refine vy (V.ld hS h20 rfl Rcf.one3) fun x28_17 h21 => ?_
  refine vy (V.fa h21 rfl Rcf.fo139_1) fun x29_18 h22 => ?_
  refine vy (V.ld hS h22 rfl Rcf.one9) fun x30_19 h23 => ?_
  refine LV.call hS h23 (g65_ok _ _ _ _ _ _ _ _ ) hP rfl rfl rfl rfl fun x31_20 T4 n4 h24 ρ its hS => ?_
  refine as_ ?_
  refine dn ?_
  refine CV.ret ?_
  refine PV.blockR ?_
  refine PV.thenR ?_
  cases h24
  exact PV.ret (by simp) Tryz.results238 hS (RS.tmp rfl RS.nil) rfl
 ·
  clear h1 h2 h3 h4 h5 h6 h7 h8 h9 h10 h11 h12 h13 h14
  subst e
  refine sr ?_
  refine vy (V.fa h15 rfl Rcf.fo139_0) fun x33_21 h25 => ?_
  refine vy (V.ld hS h25 rfl Rcf.one3) fun x34_22 h26 => ?_
  refine vy (V.eq h26 rfl rfl) fun x35_23 h27 => ?_
  refine as_ ?_
  refine dn ?_
  refine CV.cond h27 rfl (fun e h28 => ?_) (fun e h28 => ?_)
  ·
   clear h15 h25 h26 h27
   subst e
   refine sr ?_
   refine mv ?_
   refine fl hS h28 Rcf.fo98_1 Rcf.one3 fun x39_24 h29 => ?_
   refine vy (V.add h29 rfl rfl) fun x40_25 h30 => ?_
   refine fa2 h30 Rcf.fo98_1 fun x42_26 h31 => ?_
   refine LV.st hS h31 rfl rfl rfl Rcf.siz3 rfl rfl fun T5 its h32 hS => ?_
   refine dn ?_
   refine sr ?_
   refine mv ?_
   refine vy (V.fa h32 rfl Rcf.fo139_2) fun x44_27 h33 => ?_
   refine vy (V.ld hS h33 rfl Rcf.one3) fun x45_28 h34 => ?_
   refine vy (V.fa h34 rfl Rcf.fo139_1) fun x46_29 h35 => ?_
   refine vy (V.ld hS h35 rfl Rcf.one9) fun x47_30 h36 => ?_
   refine LV.call hS h36 (g65_ok _ _ _ _ _ _ _ _ ) hP rfl rfl rfl rfl fun x48_31 T6 n6 h37 ρ its hS => ?_
   refine as_ ?_
   refine dn ?_
   refine CV.ret ?_
   refine PV.blockR ?_
   refine PV.thenR ?_
   cases h37
   exact PV.ret (by simp) Tryz.results238 hS (RS.tmp rfl RS.nil) rfl
  ·
   clear h15 h25 h26 h27
   subst e
   refine sr ?_
   refine vy (V.fa h28 rfl Rcf.fo139_0) fun x50_32 h38 => ?_
   refine vy (V.ld hS h38 rfl Rcf.one3) fun x51_33 h39 => ?_
   refine vy (V.eq h39 rfl rfl) fun x52_34 h40 => ?_
   refine as_ ?_
   refine dn ?_
   refine CV.cond h40 rfl (fun e h41 => ?_) (fun e h41 => ?_)
   ·
    clear h28 h38 h39 h40
    subst e
    cases h41
   ·
    clear h28 h38 h39 h40
    subst e
    refine sr ?_
    refine mv ?_
    refine LV.call hS h41 (g131_ok _ _ _ _ _ ) hP rfl rfl rfl rfl fun x83_35 T7 n7 h42 ρ its hS => ?_
    refine as_ ?_
    refine dn ?_
    refine CV.cond h42 rfl (fun e h43 => ?_) (fun e h43 => ?_)
    ·
     clear h41 h42
     subst e
     cases h43
    ·
     clear h41 h42
     subst e
     refine sr ?_
     refine mv ?_
     refine LV.call hS h43 (g131_ok _ _ _ _ _ ) hP rfl rfl rfl rfl fun x90_36 T8 n8 h44 ρ its hS => ?_
     refine as_ ?_
     refine dn ?_
     refine CV.cond h44 rfl (fun e h45 => ?_) (fun e h45 => ?_)
     ·
      clear h43 h44
      subst e
      cases h45
     ·
      clear h43 h44
      subst e
      refine sr ?_
      refine mv ?_
      refine LV.call hS h45 (g131_ok _ _ _ _ _ ) hP rfl rfl rfl rfl fun x97_37 T9 n9 h46 ρ its hS => ?_
      refine as_ ?_
      refine dn ?_
      refine CV.cond h46 rfl (fun e h47 => ?_) (fun e h47 => ?_)
      ·
       clear h45 h46
       subst e
       cases h47
      ·
       clear h45 h46
       subst e
       refine sr ?_
       refine mv ?_
       refine LV.bslice hS h47 rfl rfl Rcf.el46 rfl rfl rfl rfl fun x104_38 T10 n10 h48 ρ its hS hdr => ?_
       refine LV.call hS h48 (g99_ok _ _ _ _ _ ) hP rfl rfl rfl rfl fun x105_39 T11 n11 h49 ρ its hS => ?_
       refine as_ ?_
       refine dn ?_
       refine CV.cond h49 rfl (fun e h50 => ?_) (fun e h50 => ?_)
       ·
        clear h47 h48 h49
        subst e
        cases h50
       ·
        clear h47 h48 h49
        subst e
        refine sr ?_
        refine mv ?_
        refine LV.bslice hS h50 rfl rfl Rcf.el46 rfl rfl rfl rfl fun x110_40 T12 n12 h51 ρ its hS hdr => ?_
        refine LV.call hS h51 (g99_ok _ _ _ _ _ ) hP rfl rfl rfl rfl fun x111_41 T13 n13 h52 ρ its hS => ?_
        refine as_ ?_
        refine dn ?_
        refine CV.cond h52 rfl (fun e h53 => ?_) (fun e h53 => ?_)
        ·
         clear h50 h51 h52
         subst e
         refine sr ?_
         refine mv ?_
         refine LV.call hS h53 (hI _ _ _ _ _) hP rfl rfl rfl rfl fun x113_42 T14 n14 h54 ρ its hS => ?_
         refine as_ ?_
         refine dn ?_
         refine CV.ret ?_
         refine PV.blockR ?_
         refine PV.thenR ?_
         cases h54
         exact PV.ret (by simp) Tryz.results238 hS (RS.tmp rfl RS.nil) rfl
        ·
         clear h50 h51 h52
         subst e
         refine sr ?_
         refine mv ?_
         refine LV.bslice hS h53 rfl rfl Rcf.el46 rfl rfl rfl rfl fun x116_43 T15 n15 h55 ρ its hS hdr => ?_
         refine LV.call hS h55 (g99_ok _ _ _ _ _ ) hP rfl rfl rfl rfl fun x117_44 T16 n16 h56 ρ its hS => ?_
         refine as_ ?_
         refine dn ?_
         refine CV.cond h56 rfl (fun e h57 => ?_) (fun e h57 => ?_)
         ·
          clear h53 h55 h56
          subst e
          cases h57
         ·
          clear h53 h55 h56
          subst e
          refine CV.skip ?_
          refine PV.blockN ?_
          refine PV.thenN ?_
          refine sr ?_
          refine mv ?_
          refine LV.call hS h57 (g78_ok _ _ _ _ ) hP rfl rfl rfl rfl fun x121_45 T17 n17 h58 ρ its hS => ?_
          refine dn ?_
          refine sr ?_
          refine as_ ?_
          refine dn ?_
          refine CV.ret ?_
          cases h58
          exact PV.ret (by simp) Tryz.results238 hS (RS.tmp rfl RS.nil) rfl
noncomputable def g241 (ih : FuncId → List HT → List AV → HT → Nat → R) (ro : List HT) (a0 : AV) (T : HT) (nx : Nat) : R :=
 bsK 2410005 T nx 2 9 1 [(0, (.lit (.string ⟨⟨[43]⟩⟩))), (1, (.lit (.string ⟨⟨[45]⟩⟩)))] fun x6_1 T1 n1 =>
 callK (ih 217 ro [a0, (.fn (.func 245) [a0] []), x6_1] T1 n1) fun x7_2 T2 n2 =>
 .ok (.val x7_2) T2 n2
theorem g241_ok (ih : FuncId → List HT → List AV → HT → Nat → R) (hI : ∀ f ro args T nx, GOk Tryz.prog envE f args ro T nx (ih f ro args T nx)) (ro : List HT) (a0 : AV) (T : HT) (nx : Nat) : GOk Tryz.prog envE 241 [a0] ro T nx (g241 ih ro a0 T nx) := by
 refine GOk.of_body Tryz.func241 rfl Tryz.ntmps241 (by kernel_rfl) rfl fun r T' n' h1 w0 base ρ0 its hS hP => ?_
 have X : CtxW envE ρ0 ro r T' n' := trivial
 unfold g241 at h1
 refine sr ?_
 refine as_ ?_
 refine dn ?_
 refine sr ?_
 refine mv ?_
 refine mv ?_
 refine pu ?_
 refine LV.bslice hS h1 rfl rfl Rcf.el46 rfl rfl rfl rfl fun x6_1 T1 n1 h2 ρ its hS hdr => ?_
 refine LV.call hS h2 (hI _ _ _ _ _) hP rfl rfl rfl rfl fun x7_2 T2 n2 h3 ρ its hS => ?_
 refine as_ ?_
 refine dn ?_
 refine CV.ret ?_
 cases h3
 exact PV.ret (by simp) Tryz.results241 hS (RS.tmp rfl RS.nil) rfl
noncomputable def g243_k1 (ih : FuncId → List HT → List AV → HT → Nat → R) (ro : List HT) (y0 y2 y3 y4 : AV) (T3 : HT) (n3 : Nat) : R :=
 callK (g177 ro y0 (.lit (.string ⟨⟨[93]⟩⟩)) T3 n3) fun x37_3 T4 n4 =>
 fldK 2430012 T4 ro y0 3 fun x41_4 =>
 subK Tryz.prog 3 (.tmp 41) (.const (.int .i64 (.ofNat 1))) 2430013 x41_4 (.lit (.int .i64 (.ofNat 1))) fun x42_5 =>
 faK 2430014 y0 3 fun x44_6 =>
 stK 2430015 T4 x44_6 x42_5 fun T5 =>
 callK (g65 ro y0 (.lit (.int .i64 (.ofNat 7))) y3 (.lit (.string ⟨⟨[]⟩⟩)) y4 T5 n4) fun x48_7 T6 n6 =>
 .ok (.val x48_7) T6 n6
noncomputable def g243_k3 (ih : FuncId → List HT → List AV → HT → Nat → R) (ro : List HT) (lp2 : AV → AV → AV → AV → HT → Nat → R) (y0 y2 y3 y4 y26 : AV) (T14 : HT) (n14 : Nat) : R :=
 condK 2430038 y26
 (
  iaK 2430042 y4 (.lit (.int .i64 (.ofNat 0))) 1 fun x30_16 =>
  ldK 2430043 T14 ro x30_16 fun x31_17 =>
  callK (ih 246 ro [y0, y3, x31_17] T14 n14) fun x32_18 T15 n15 =>
  .ok (.val x32_18) T15 n15
 )
 (
  callK (g131 ro y0 (.lit (.string ⟨⟨[44]⟩⟩)) T14 n14) fun x34_19 T16 n16 =>
  notK 2430048 x34_19 fun x35_20 =>
  condK 2430049 x35_20
  (
   g243_k1 ih ro y0 y2 y3 y4 T16 n16
  )
  (
   lp2 y0 y2 y3 y4 T16 n16
  )
 )
noncomputable def g243_b2 (ih : FuncId → List HT → List AV → HT → Nat → R) (ro : List HT) (lp2 : AV → AV → AV → AV → HT → Nat → R) (y0 y2 y3 y4 : AV) (T7 : HT) (n7 : Nat) : R :=
 bsK 2430023 T7 n7 1 9 1 [(0, (.lit (.string ⟨⟨[93]⟩⟩)))] fun x11_8 T8 n8 =>
 callK (g99 ro y0 x11_8 T8 n8) fun x12_9 T9 n9 =>
 notK 2430025 x12_9 fun x13_10 =>
 condK 2430026 x13_10
 (
  callK (ih 130 ro [y0] T9 n9) fun x16_11 T10 n10 =>
  bsK 2430030 T10 n10 1 3 1 [(0, x16_11)] fun x17_12 T11 n11 =>
  shrK 2430032 T11 y4 fun T12 =>
  appK 2430031 T12 ro n11 3 1 8 y4 x17_12 fun x18_13 T13 n13 =>
  lenSK 2430035 x18_13 fun x20_14 =>
  eqK Tryz.prog 3 (.tmp 20) (.const (.int .i64 (.ofNat 1))) 2430036 x20_14 (.lit (.int .i64 (.ofNat 1))) fun x21_15 =>
  condK 2430050 x21_15
  (
   bsK 2430052 T13 n13 1 9 1 [(0, (.lit (.string ⟨⟨[102, 111, 114]⟩⟩)))] fun x24_21 T17 n17 =>
   callK (g99 ro y0 x24_21 T17 n17) fun x25_22 T18 n18 =>
   g243_k3 ih ro lp2 y0 y2 y3 x18_13 x25_22 T18 n18
  )
  (
   g243_k3 ih ro lp2 y0 y2 y3 x18_13 (.lit (.bool false)) T13 n13
  )
 )
 (
  g243_k1 ih ro y0 y2 y3 y4 T9 n9
 )
noncomputable def g243 (ih : FuncId → List HT → List AV → HT → Nat → R) (ro : List HT) (a0 : AV) (T : HT) (nx : Nat) : R :=
 callK (g177 ro a0 (.lit (.string ⟨⟨[91]⟩⟩)) T nx) fun x6_1 T1 n1 =>
 callK (g176 ro a0 x6_1 T1 n1) fun x9_2 T2 n2 =>
 lpf4 2430021 (g243_b2 ih ro) 100000 a0 (.lit (.int .i64 (.ofNat 0))) x6_1 (.lit (.slice none 0 0)) T2 n2
theorem g243_ok (ih : FuncId → List HT → List AV → HT → Nat → R) (hI : ∀ f ro args T nx, GOk Tryz.prog envE f args ro T nx (ih f ro args T nx)) (ro : List HT) (a0 : AV) (T : HT) (nx : Nat) : GOk Tryz.prog envE 243 [a0] ro T nx (g243 ih ro a0 T nx) := by
 refine GOk.of_body Tryz.func243 rfl Tryz.ntmps243 (by kernel_rfl) rfl fun r T' n' h1 w0 base ρ0 its hS hP => ?_
 have X : CtxW envE ρ0 ro r T' n' := trivial
 unfold g243 at h1
 refine sr ?_
 refine as_ ?_
 refine dn ?_
 refine sr ?_
 refine mv ?_
 refine LV.call hS h1 (g177_ok _ _ _ _ _ ) hP rfl rfl rfl rfl fun x6_1 T1 n1 h2 ρ its hS => ?_
 refine as_ ?_
 refine dn ?_
 refine sr ?_
 refine mv ?_
 refine mv ?_
 refine LV.call hS h2 (g176_ok _ _ _ _ _ ) hP rfl rfl rfl rfl fun x9_2 T2 n2 h3 ρ its hS => ?_
 refine dn ?_
 refine sr ?_
 refine as_ ?_
 refine dn ?_
 refine cs4 X 0 2 3 4 [] (g243_k1 ih ro) ?_ ?_
 ·
  refine CV.block ?_
  refine cl4 X 0 2 3 4 [] hS h3 ⟨rfl, rfl, rfl, rfl, trivial⟩ ?_
  intro f2 y0 y2 y3 y4 T7 n7 ρ its hS h11
  unfold g243_b2 at h11
  clear h1 h2 h3
  refine CV.seq ?_
  refine sr ?_
  refine mv ?_
  refine LV.bslice hS h11 rfl rfl Rcf.el46 rfl rfl rfl rfl fun x11_8 T8 n8 h12 ρ its hS hdr => ?_
  refine LV.call hS h12 (g99_ok _ _ _ _ _ ) hP rfl rfl rfl rfl fun x12_9 T9 n9 h13 ρ its hS => ?_
  refine vy (V.not h13 rfl) fun x13_10 h14 => ?_
  refine dn ?_
  refine CV.cond h14 rfl (fun e h15 => ?_) (fun e h15 => ?_)
  ·
   clear h11 h12 h13 h14
   subst e
   refine CV.skip ?_
   refine PV.thenN ?_
   refine CV.block ?_
   refine sr ?_
   refine mv ?_
   refine mv ?_
   refine LV.call hS h15 (hI _ _ _ _ _) hP rfl rfl rfl rfl fun x16_11 T10 n10 h16 ρ its hS => ?_
   refine LV.bslice hS h16 rfl rfl Rcf.el30 rfl rfl rfl rfl fun x17_12 T11 n11 h17 ρ its hS hdr => ?_
   obtain ⟨T12, its1, h18, hS, hW⟩ := shrK_inv hS h17
   refine LV.world hW ?_
   refine LV.app hS h18 rfl rfl rfl rfl Rcf.el30 rfl rfl rfl fun x18_13 T13 n13 h19 ρ its hS => ?_
   refine as_ ?_
   refine dn ?_
   refine CV.seq ?_
   refine sr ?_
   refine mv ?_
   refine vy (V.lenS h19 rfl Rcf.ls30) fun x20_14 h20 => ?_
   refine vy (V.eq h20 rfl rfl) fun x21_15 h21 => ?_
   refine mv ?_
   refine ls5 X 0 2 3 4 26 [] (g243_k3 ih ro (lpf4 2430021 (g243_b2 ih ro) f2)) 4 ?_ ?_
   ·
    rcases condK_inv h21 with ⟨e, h30⟩ | ⟨e, h30⟩
    ·
     clear h15 h16 h17 h18 h19 h20 h21
     subst e
     refine mv ?_
     refine LV.bslice hS h30 rfl rfl Rcf.el46 rfl rfl rfl rfl fun x24_21 T17 n17 h31 ρ its hS hdr => ?_
     refine LV.call hS h31 (g99_ok _ _ _ _ _ ) hP rfl rfl rfl rfl fun x25_22 T18 n18 h32 ρ its hS => ?_
     refine pu ?_
     exact la5 hS h32 ⟨rfl, rfl, rfl, rfl, rfl, trivial⟩
    ·
     clear h15 h16 h17 h18 h19 h20 h21
     subst e
     refine sk ?_
     refine sk ?_
     refine sk ?_
     refine pu ?_
     exact la5 hS h30 ⟨rfl, rfl, rfl, rfl, rfl, trivial⟩
   ·
    intro y0 y2 y3 y4 y26 T14 n14 ρ its hS h22
    unfold g243_k3 at h22
    clear h15 h16 h17 h18 h19 h20 h21
    refine dn ?_
    refine CV.cond h22 rfl (fun e h23 => ?_) (fun e h23 => ?_)
    ·
     clear h22
     subst e
     refine sr ?_
     refine mv ?_
     refine mv ?_
     refine mv ?_
     refine vy (V.ia h23 rfl rfl Rcf.el30) fun x30_16 h24 => ?_
     refine vy (V.ld hS h24 rfl Rcf.one3) fun x31_17 h25 => ?_
     refine LV.call hS h25 (hI _ _ _ _ _) hP rfl rfl rfl rfl fun x32_18 T15 n15 h26 ρ its hS => ?_
     refine as_ ?_
     refine dn ?_
     refine CV.ret ?_
     refine PV.thenR ?_
     refine PV.blockR ?_
     refine PV.thenR ?_
     refine PV.blockR ?_
     refine PV.thenR ?_
     cases h26
     exact PV.ret (by simp) Tryz.results243 hS (RS.tmp rfl RS.nil) rfl
    ·
     clear h22
     subst e
     refine CV.skip ?_
     refine PV.thenN ?_
     refine sr ?_
     refine mv ?_
     refine LV.call hS h23 (g131_ok _ _ _ _ _ ) hP rfl rfl rfl rfl fun x34_19 T16 n16 h27 ρ its hS => ?_
     refine vy (V.not h27 rfl) fun x35_20 h28 => ?_
     refine dn ?_
     refine CV.cond h28 rfl (fun e h29 => ?_) (fun e h29 => ?_)
     ·
      clear h23 h27 h28
      subst e
      refine CV.exit ?_
      refine PV.blockO rfl ?_
      refine PV.thenE ?_
      refine PV.blockE ?_
      exact pa4 hS h29 ⟨rfl, rfl, rfl, rfl, trivial⟩
     ·
      clear h23 h27 h28
      subst e
      refine CV.skip ?_
      refine PV.blockN ?_
      exact pb4 hS h29 ⟨rfl, rfl, rfl, rfl, trivial⟩
  ·
   clear h11 h12 h13 h14
   subst e
   refine CV.exit ?_
   refine PV.thenE ?_
   refine PV.thenE ?_
   refine PV.blockE ?_
   exact pa4 hS h15 ⟨rfl, rfl, rfl, rfl, trivial⟩
 ·
  intro y0 y2 y3 y4 T3 n3 ρ its hS h4
  unfold g243_k1 at h4
  clear h1 h2 h3
  refine sr ?_
  refine mv ?_
  refine LV.call hS h4 (g177_ok _ _ _ _ _ ) hP rfl rfl rfl rfl fun x37_3 T4 n4 h5 ρ its hS => ?_
  refine dn ?_
  refine sr ?_
  refine mv ?_
  refine fl hS h5 Rcf.fo98_3 Rcf.one3 fun x41_4 h6 => ?_
  refine vy (V.sub h6 rfl rfl) fun x42_5 h7 => ?_
  refine fa2 h7 Rcf.fo98_3 fun x44_6 h8 => ?_
  refine LV.st hS h8 rfl rfl rfl Rcf.siz3 rfl rfl fun T5 its h9 hS => ?_
  refine dn ?_
  refine sr ?_
  refine mv ?_
  refine mv ?_
  refine mv ?_
  refine LV.call hS h9 (g65_ok _ _ _ _ _ _ _ _ ) hP rfl rfl rfl rfl fun x48_7 T6 n6 h10 ρ its hS => ?_
  refine as_ ?_
  refine dn ?_
  refine CV.ret ?_
  cases h10
  exact PV.ret (by simp) Tryz.results243 hS (RS.tmp rfl RS.nil) rfl
noncomputable def g245 (ih : FuncId → List HT → List AV → HT → Nat → R) (ro : List HT) (a0 : AV) (T : HT) (nx : Nat) : R :=
 bsK 2450005 T nx 3 9 1 [(0, (.lit (.string ⟨⟨[42]⟩⟩))), (1, (.lit (.string ⟨⟨[47, 47]⟩⟩))), (2, (.lit (.string ⟨⟨[37]⟩⟩)))] fun x6_1 T1 n1 =>
 callK (ih 217 ro [a0, (.fn (.func 247) [a0] []), x6_1] T1 n1) fun x7_2 T2 n2 =>
 .ok (.val x7_2) T2 n2
theorem g245_ok (ih : FuncId → List HT → List AV → HT → Nat → R) (hI : ∀ f ro args T nx, GOk Tryz.prog envE f args ro T nx (ih f ro args T nx)) (ro : List HT) (a0 : AV) (T : HT) (nx : Nat) : GOk Tryz.prog envE 245 [a0] ro T nx (g245 ih ro a0 T nx) := by
 refine GOk.of_body Tryz.func245 rfl Tryz.ntmps245 (by kernel_rfl) rfl fun r T' n' h1 w0 base ρ0 its hS hP => ?_
 have X : CtxW envE ρ0 ro r T' n' := trivial
 unfold g245 at h1
 refine sr ?_
 refine as_ ?_
 refine dn ?_
 refine sr ?_
 refine mv ?_
 refine mv ?_
 refine pu ?_
 refine LV.bslice hS h1 rfl rfl Rcf.el46 rfl rfl rfl rfl fun x6_1 T1 n1 h2 ρ its hS hdr => ?_
 refine LV.call hS h2 (hI _ _ _ _ _) hP rfl rfl rfl rfl fun x7_2 T2 n2 h3 ρ its hS => ?_
 refine as_ ?_
 refine dn ?_
 refine CV.ret ?_
 cases h3
 exact PV.ret (by simp) Tryz.results245 hS (RS.tmp rfl RS.nil) rfl
noncomputable def g246 (ih : FuncId → List HT → List AV → HT → Nat → R) (ro : List HT) (a0 a1 a2 : AV) (T : HT) (nx : Nat) : R :=
 callK (g177 ro a0 (.lit (.string ⟨⟨[102, 111, 114]⟩⟩)) T nx) fun x10_1 T1 n1 =>
 callK (ih 178 ro [a0, (.lit (.string ⟨⟨[105, 110]⟩⟩))] T1 n1) fun x12_2 T2 n2 =>
 callK (g177 ro a0 (.lit (.string ⟨⟨[105, 110]⟩⟩)) T2 n2) fun x14_3 T3 n3 =>
 callK (ih 189 ro [a0] T3 n3) fun x18_4 T4 n4 =>
 bsK 2460013 T4 n4 3 3 1 [(0, a2), (1, x12_2), (2, x18_4)] fun x19_5 T5 n5 =>
 callK (g131 ro a0 (.lit (.string ⟨⟨[105, 102]⟩⟩)) T5 n5) fun x21_6 T6 n6 =>
 condK 2460017 x21_6
 (
  .bad 2460018
 )
 (
  callK (g177 ro a0 (.lit (.string ⟨⟨[93]⟩⟩)) T6 n6) fun x28_7 T7 n7 =>
  fldK 2460022 T7 ro a0 3 fun x32_8 =>
  subK Tryz.prog 3 (.tmp 32) (.const (.int .i64 (.ofNat 1))) 2460023 x32_8 (.lit (.int .i64 (.ofNat 1))) fun x33_9 =>
  faK 2460024 a0 3 fun x35_10 =>
  stK 2460025 T7 x35_10 x33_9 fun T8 =>
  callK (g65 ro a0 (.lit (.int .i64 (.ofNat 34))) a1 (.lit (.string ⟨⟨[]⟩⟩)) x19_5 T8 n7) fun x39_11 T9 n9 =>
  .ok (.val x39_11) T9 n9
 )
theorem g246_ok (ih : FuncId → List HT → List AV → HT → Nat → R) (hI : ∀ f ro args T nx, GOk Tryz.prog envE f args ro T nx (ih f ro args T nx)) (ro : List HT) (a0 a1 a2 : AV) (T : HT) (nx : Nat) : GOk Tryz.prog envE 246 [a0, a1, a2] ro T nx (g246 ih ro a0 a1 a2 T nx) := by
 refine GOk.of_body Tryz.func246 rfl Tryz.ntmps246 (by kernel_rfl) rfl fun r T' n' h1 w0 base ρ0 its hS hP => ?_
 have X : CtxW envE ρ0 ro r T' n' := trivial
 unfold g246 at h1
 refine sr ?_
 refine as_ ?_
 refine dn ?_
 refine sr ?_
 refine mv ?_
 refine LV.call hS h1 (g177_ok _ _ _ _ _ ) hP rfl rfl rfl rfl fun x10_1 T1 n1 h2 ρ its hS => ?_
 refine dn ?_
 refine sr ?_
 refine mv ?_
 refine LV.call hS h2 (hI _ _ _ _ _) hP rfl rfl rfl rfl fun x12_2 T2 n2 h3 ρ its hS => ?_
 refine as_ ?_
 refine dn ?_
 refine sr ?_
 refine mv ?_
 refine LV.call hS h3 (g177_ok _ _ _ _ _ ) hP rfl rfl rfl rfl fun x14_3 T3 n3 h4 ρ its hS => ?_
 refine dn ?_
 refine sr ?_
 refine mv ?_
 refine mv ?_
 refine mv ?_
 refine LV.call hS h4 (hI _ _ _ _ _) hP rfl rfl rfl rfl fun x18_4 T4 n4 h5 ρ its hS => ?_
 refine LV.bslice hS h5 rfl rfl Rcf.el30 rfl rfl rfl rfl fun x19_5 T5 n5 h6 ρ its hS hdr => ?_
 refine as_ ?_
 refine dn ?_
 refine CV.seq ?_
 refine sr ?_
 refine mv ?_
 refine LV.call hS h6 (g131_ok _ _ _ _ _ ) hP rfl rfl rfl rfl fun x21_6 T6 n6 h7 ρ its hS => ?_
 refine dn ?_
 refine CV.cond h7 rfl (fun e h8 => ?_) (fun e h8 => ?_)
 ·
  clear h1 h2 h3 h4 h5 h6 h7
  subst e
  cases h8
 ·
  clear h1 h2 h3 h4 h5 h6 h7
  subst e
  refine CV.skip ?_
  refine PV.thenN ?_
  refine sr ?_
  refine mv ?_
  refine LV.call hS h8 (g177_ok _ _ _ _ _ ) hP rfl rfl rfl rfl fun x28_7 T7 n7 h9 ρ its hS => ?_
  refine dn ?_
  refine sr ?_
  refine mv ?_
  refine fl hS h9 Rcf.fo98_3 Rcf.one3 fun x32_8 h10 => ?_
  refine vy (V.sub h10 rfl rfl) fun x33_9 h11 => ?_
  refine fa2 h11 Rcf.fo98_3 fun x35_10 h12 => ?_
  refine LV.st hS h12 rfl rfl rfl Rcf.siz3 rfl rfl fun T8 its h13 hS => ?_
  refine dn ?_
  refine sr ?_
  refine mv ?_
  refine mv ?_
  refine mv ?_
  refine LV.call hS h13 (g65_ok _ _ _ _ _ _ _ _ ) hP rfl rfl rfl rfl fun x39_11 T9 n9 h14 ρ its hS => ?_
  refine as_ ?_
  refine dn ?_
  refine CV.ret ?_
  cases h14
  exact PV.ret (by simp) Tryz.results246 hS (RS.tmp rfl RS.nil) rfl
noncomputable def g247 (ih : FuncId → List HT → List AV → HT → Nat → R) (ro : List HT) (a0 : AV) (T : HT) (nx : Nat) : R :=
 bsK 2470003 T nx 1 9 1 [(0, (.lit (.string ⟨⟨[45]⟩⟩)))] fun x6_1 T1 n1 =>
 callK (g99 ro a0 x6_1 T1 n1) fun x7_2 T2 n2 =>
 notK 2470005 x7_2 fun x8_3 =>
 condK 2470006 x8_3
 (
  callK (ih 235 ro [a0] T2 n2) fun x10_4 T3 n3 =>
  .ok (.val x10_4) T3 n3
 )
 (
  callK (g177 ro a0 (.lit (.string ⟨⟨[45]⟩⟩)) T2 n2) fun x12_5 T4 n4 =>
  callK (g176 ro a0 x12_5 T4 n4) fun x15_6 T5 n5 =>
  callK (ih 247 ro [a0] T5 n5) fun x17_7 T6 n6 =>
  fldK 2470020 T6 ro a0 3 fun x21_8 =>
  subK Tryz.prog 3 (.tmp 21) (.const (.int .i64 (.ofNat 1))) 2470021 x21_8 (.lit (.int .i64 (.ofNat 1))) fun x22_9 =>
  faK 2470022 a0 3 fun x24_10 =>
  stK 2470023 T6 x24_10 x22_9 fun T7 =>
  bsK 2470027 T7 n6 1 3 1 [(0, x17_7)] fun x28_11 T8 n8 =>
  callK (g65 ro a0 (.lit (.int .i64 (.ofNat 16))) x12_5 (.lit (.string ⟨⟨[]⟩⟩)) x28_11 T8 n8) fun x29_12 T9 n9 =>
  .ok (.val x29_12) T9 n9
 )
theorem g247_ok (ih : FuncId → List HT → List AV → HT → Nat → R) (hI : ∀ f ro args T nx, GOk Tryz.prog envE f args ro T nx (ih f ro args T nx)) (ro : List HT) (a0 : AV) (T : HT) (nx : Nat) : GOk Tryz.prog envE 247 [a0] ro T nx (g247 ih ro a0 T nx) := by
 refine GOk.of_body Tryz.func247 rfl Tryz.ntmps247 (by kernel_rfl) rfl fun r T' n' h1 w0 base ρ0 its hS hP => ?_
 have X : CtxW envE ρ0 ro r T' n' := trivial
 unfold g247 at h1
 refine sr ?_
 refine as_ ?_
 refine dn ?_
 refine CV.seq ?_
 refine sr ?_
 refine mv ?_
 refine LV.bslice hS h1 rfl rfl Rcf.el46 rfl rfl rfl rfl fun x6_1 T1 n1 h2 ρ its hS hdr => ?_
 refine LV.call hS h2 (g99_ok _ _ _ _ _ ) hP rfl rfl rfl rfl fun x7_2 T2 n2 h3 ρ its hS => ?_
 refine vy (V.not h3 rfl) fun x8_3 h4 => ?_
 refine dn ?_
 refine CV.cond h4 rfl (fun e h5 => ?_) (fun e h5 => ?_)
 ·
  clear h1 h2 h3 h4
  subst e
  refine sr ?_
  refine mv ?_
  refine LV.call hS h5 (hI _ _ _ _ _) hP rfl rfl rfl rfl fun x10_4 T3 n3 h6 ρ its hS => ?_
  refine as_ ?_
  refine dn ?_
  refine CV.ret ?_
  refine PV.thenR ?_
  cases h6
  exact PV.ret (by simp) Tryz.results247 hS (RS.tmp rfl RS.nil) rfl
 ·
  clear h1 h2 h3 h4
  subst e
  refine CV.skip ?_
  refine PV.thenN ?_
  refine sr ?_
  refine mv ?_
  refine LV.call hS h5 (g177_ok _ _ _ _ _ ) hP rfl rfl rfl rfl fun x12_5 T4 n4 h7 ρ its hS => ?_
  refine as_ ?_
  refine dn ?_
  refine sr ?_
  refine mv ?_
  refine mv ?_
  refine LV.call hS h7 (g176_ok _ _ _ _ _ ) hP rfl rfl rfl rfl fun x15_6 T5 n5 h8 ρ its hS => ?_
  refine dn ?_
  refine sr ?_
  refine mv ?_
  refine LV.call hS h8 (hI _ _ _ _ _) hP rfl rfl rfl rfl fun x17_7 T6 n6 h9 ρ its hS => ?_
  refine as_ ?_
  refine dn ?_
  refine sr ?_
  refine mv ?_
  refine fl hS h9 Rcf.fo98_3 Rcf.one3 fun x21_8 h10 => ?_
  refine vy (V.sub h10 rfl rfl) fun x22_9 h11 => ?_
  refine fa2 h11 Rcf.fo98_3 fun x24_10 h12 => ?_
  refine LV.st hS h12 rfl rfl rfl Rcf.siz3 rfl rfl fun T7 its h13 hS => ?_
  refine dn ?_
  refine sr ?_
  refine mv ?_
  refine mv ?_
  refine mv ?_
  refine LV.bslice hS h13 rfl rfl Rcf.el30 rfl rfl rfl rfl fun x28_11 T8 n8 h14 ρ its hS hdr => ?_
  refine LV.call hS h14 (g65_ok _ _ _ _ _ _ _ _ ) hP rfl rfl rfl rfl fun x29_12 T9 n9 h15 ρ its hS => ?_
  refine as_ ?_
  refine dn ?_
  refine CV.ret ?_
  cases h15
  exact PV.ret (by simp) Tryz.results247 hS (RS.tmp rfl RS.nil) rfl
noncomputable def ap2 (ih : FuncId → List HT → List AV → HT → Nat → R) (f : FuncId) (ro : List HT) (args : List AV) (T : HT) (nx : Nat) : R :=
  Bool.rec (motive := fun _ => R) (Bool.rec (motive := fun _ => R) (Bool.rec (motive := fun _ => R) (Bool.rec (motive := fun _ => R) (Bool.rec (motive := fun _ => R) (Bool.rec (motive := fun _ => R) (.bad 2) (List.rec (motive := fun _ => R) (.bad 1) (fun a0 l0 _ => List.rec (motive := fun _ => R) (g247 ih ro a0 T nx) (fun _ _ _ => .bad 1) l0) args) (Nat.beq f 247)) (Bool.rec (motive := fun _ => R) (.bad 2) (List.rec (motive := fun _ => R) (.bad 1) (fun a0 l0 _ => List.rec (motive := fun _ => R) (.bad 1) (fun a1 l1 _ => List.rec (motive := fun _ => R) (.bad 1) (fun a2 l2 _ => List.rec (motive := fun _ => R) (g246 ih ro a0 a1 a2 T nx) (fun _ _ _ => .bad 1) l2) l1) l0) args) (Nat.beq f 246)) (Nat.ble f 246)) (Bool.rec (motive := fun _ => R) (Bool.rec (motive := fun _ => R) (.bad 2) (List.rec (motive := fun _ => R) (.bad 1) (fun a0 l0 _ => List.rec (motive := fun _ => R) (g245 ih ro a0 T nx) (fun _ _ _ => .bad 1) l0) args) (Nat.beq f 245)) (Bool.rec (motive := fun _ => R) (.bad 2) (List.rec (motive := fun _ => R) (.bad 1) (fun a0 l0 _ => List.rec (motive := fun _ => R) (g243 ih ro a0 T nx) (fun _ _ _ => .bad 1) l0) args) (Nat.beq f 243)) (Nat.ble f 243)) (Nat.ble f 245)) (Bool.rec (motive := fun _ => R) (Bool.rec (motive := fun _ => R) (Bool.rec (motive := fun _ => R) (.bad 2) (List.rec (motive := fun _ => R) (.bad 1) (fun a0 l0 _ => List.rec (motive := fun _ => R) (g241 ih ro a0 T nx) (fun _ _ _ => .bad 1) l0) args) (Nat.beq f 241)) (Bool.rec (motive := fun _ => R) (.bad 2) (List.rec (motive := fun _ => R) (.bad 1) (fun a0 l0 _ => List.rec (motive := fun _ => R) (g238 ih ro a0 T nx) (fun _ _ _ => .bad 1) l0) args) (Nat.beq f 238)) (Nat.ble f 238)) (Bool.rec (motive := fun _ => R) (Bool.rec (motive := fun _ => R) (.bad 2) (List.rec (motive := fun _ => R) (.bad 1) (fun a0 l0 _ => List.rec (motive := fun _ => R) (g237 ih ro a0 T nx) (fun _ _ _ => .bad 1) l0) args) (Nat.beq f 237)) (Bool.rec (motive := fun _ => R) (.bad 2) (List.rec (motive := fun _ => R) (.bad 1) (fun a0 l0 _ => List.rec (motive := fun _ => R) (g235 ih ro a0 T nx) (fun _ _ _ => .bad 1) l0) args) (Nat.beq f 235)) (Nat.ble f 235)) (Nat.ble f 237)) (Nat.ble f 241)) (Bool.rec (motive := fun _ => R) (Bool.rec (motive := fun _ => R) (Bool.rec (motive := fun _ => R) (Bool.rec (motive := fun _ => R) (.bad 2) (List.rec (motive := fun _ => R) (.bad 1) (fun a0 l0 _ => List.rec (motive := fun _ => R) (g232 ih ro a0 T nx) (fun _ _ _ => .bad 1) l0) args) (Nat.beq f 232)) (Bool.rec (motive := fun _ => R) (.bad 2) (List.rec (motive := fun _ => R) (.bad 1) (fun a0 l0 _ => List.rec (motive := fun _ => R) (g230 ih ro a0 T nx) (fun _ _ _ => .bad 1) l0) args) (Nat.beq f 230)) (Nat.ble f 230)) (Bool.rec (motive := fun _ => R) (Bool.rec (motive := fun _ => R) (.bad 2) (List.rec (motive := fun _ => R) (.bad 1) (fun a0 l0 _ => List.rec (motive := fun _ => R) (g218 ih ro a0 T nx) (fun _ _ _ => .bad 1) l0) args) (Nat.beq f 218)) (Bool.rec (motive := fun _ => R) (.bad 2) (List.rec (motive := fun _ => R) (.bad 1) (fun a0 l0 _ => List.rec (motive := fun _ => R) (.bad 1) (fun a1 l1 _ => List.rec (motive := fun _ => R) (.bad 1) (fun a2 l2 _ => List.rec (motive := fun _ => R) (g217 ih ro a0 a1 a2 T nx) (fun _ _ _ => .bad 1) l2) l1) l0) args) (Nat.beq f 217)) (Nat.ble f 217)) (Nat.ble f 218)) (Bool.rec (motive := fun _ => R) (Bool.rec (motive := fun _ => R) (Bool.rec (motive := fun _ => R) (.bad 2) (List.rec (motive := fun _ => R) (.bad 1) (fun a0 l0 _ => List.rec (motive := fun _ => R) (.bad 1) (fun a1 l1 _ => List.rec (motive := fun _ => R) (g215 ih ro a0 a1 T nx) (fun _ _ _ => .bad 1) l1) l0) args) (Nat.beq f 215)) (Bool.rec (motive := fun _ => R) (.bad 2) (List.rec (motive := fun _ => R) (.bad 1) (fun a0 l0 _ => List.rec (motive := fun _ => R) (g189 ih ro a0 T nx) (fun _ _ _ => .bad 1) l0) args) (Nat.beq f 189)) (Nat.ble f 189)) (Bool.rec (motive := fun _ => R) (Bool.rec (motive := fun _ => R) (.bad 2) (List.rec (motive := fun _ => R) (.bad 1) (fun a0 l0 _ => List.rec (motive := fun _ => R) (g183 ro a0 T nx) (fun _ _ _ => .bad 1) l0) args) (Nat.beq f 183)) (Bool.rec (motive := fun _ => R) (.bad 2) (List.rec (motive := fun _ => R) (.bad 1) (fun a0 l0 _ => List.rec (motive := fun _ => R) (g180 ih ro a0 T nx) (fun _ _ _ => .bad 1) l0) args) (Nat.beq f 180)) (Nat.ble f 180)) (Nat.ble f 183)) (Nat.ble f 215)) (Nat.ble f 232)) (Bool.rec (motive := fun _ => R) (Bool.rec (motive := fun _ => R) (Bool.rec (motive := fun _ => R) (Bool.rec (motive := fun _ => R) (Bool.rec (motive := fun _ => R) (.bad 2) (List.rec (motive := fun _ => R) (.bad 1) (fun a0 l0 _ => List.rec (motive := fun _ => R) (.bad 1) (fun a1 l1 _ => List.rec (motive := fun _ => R) (g178 ih ro a0 a1 T nx) (fun _ _ _ => .bad 1) l1) l0) args) (Nat.beq f 178)) (Bool.rec (motive := fun _ => R) (.bad 2) (List.rec (motive := fun _ => R) (.bad 1) (fun a0 l0 _ => List.rec (motive := fun _ => R) (g175 ih ro a0 T nx) (fun _ _ _ => .bad 1) l0) args) (Nat.beq f 175)) (Nat.ble f 175)) (Bool.rec (motive := fun _ => R) (Bool.rec (motive := fun _ => R) (.bad 2) (List.rec (motive := fun _ => R) (.bad 1) (fun a0 l0 _ => List.rec (motive := fun _ => R) (.bad 1) (fun a1 l1 _ => List.rec (motive := fun _ => R) (g152 ro a0 a1 T nx) (fun _ _ _ => .bad 1) l1) l0) args) (Nat.beq f 152)) (Bool.rec (motive := fun _ => R) (.bad 2) (List.rec (motive := fun _ => R) (.bad 1) (fun a0 l0 _ => List.rec (motive := fun _ => R) (.bad 1) (fun a1 l1 _ => List.rec (motive := fun _ => R) (g149 ro a0 a1 T nx) (fun _ _ _ => .bad 1) l1) l0) args) (Nat.beq f 149)) (Nat.ble f 149)) (Nat.ble f 152)) (Bool.rec (motive := fun _ => R) (Bool.rec (motive := fun _ => R) (Bool.rec (motive := fun _ => R) (.bad 2) (List.rec (motive := fun _ => R) (.bad 1) (fun a0 l0 _ => List.rec (motive := fun _ => R) (g130 ih ro a0 T nx) (fun _ _ _ => .bad 1) l0) args) (Nat.beq f 130)) (Bool.rec (motive := fun _ => R) (.bad 2) (List.rec (motive := fun _ => R) (.bad 1) (fun a0 l0 _ => List.rec (motive := fun _ => R) (g116 ro a0 T nx) (fun _ _ _ => .bad 1) l0) args) (Nat.beq f 116)) (Nat.ble f 116)) (Bool.rec (motive := fun _ => R) (Bool.rec (motive := fun _ => R) (.bad 2) (List.rec (motive := fun _ => R) (.bad 1) (fun a0 l0 _ => List.rec (motive := fun _ => R) (g114 ro a0 T nx) (fun _ _ _ => .bad 1) l0) args) (Nat.beq f 114)) (Bool.rec (motive := fun _ => R) (.bad 2) (List.rec (motive := fun _ => R) (.bad 1) (fun a0 l0 _ => List.rec (motive := fun _ => R) (.bad 1) (fun a1 l1 _ => List.rec (motive := fun _ => R) (g103 ih ro a0 a1 T nx) (fun _ _ _ => .bad 1) l1) l0) args) (Nat.beq f 103)) (Nat.ble f 103)) (Nat.ble f 114)) (Nat.ble f 130)) (Bool.rec (motive := fun _ => R) (Bool.rec (motive := fun _ => R) (Bool.rec (motive := fun _ => R) (Bool.rec (motive := fun _ => R) (.bad 2) (List.rec (motive := fun _ => R) (.bad 1) (fun a0 l0 _ => List.rec (motive := fun _ => R) (g102 ih ro a0 T nx) (fun _ _ _ => .bad 1) l0) args) (Nat.beq f 102)) (Bool.rec (motive := fun _ => R) (.bad 2) (List.rec (motive := fun _ => R) (.bad 1) (fun a0 l0 _ => List.rec (motive := fun _ => R) (.bad 1) (fun a1 l1 _ => List.rec (motive := fun _ => R) (g86 ro a0 a1 T nx) (fun _ _ _ => .bad 1) l1) l0) args) (Nat.beq f 86)) (Nat.ble f 86)) (Bool.rec (motive := fun _ => R) (Bool.rec (motive := fun _ => R) (.bad 2) (List.rec (motive := fun _ => R) (.bad 1) (fun a0 l0 _ => List.rec (motive := fun _ => R) (g77 ih ro a0 T nx) (fun _ _ _ => .bad 1) l0) args) (Nat.beq f 77)) (Bool.rec (motive := fun _ => R) (.bad 2) (List.rec (motive := fun _ => R) (.bad 1) (fun a0 l0 _ => List.rec (motive := fun _ => R) (.bad 1) (fun a1 l1 _ => List.rec (motive := fun _ => R) (g64 ih ro a0 a1 T nx) (fun _ _ _ => .bad 1) l1) l0) args) (Nat.beq f 64)) (Nat.ble f 64)) (Nat.ble f 77)) (Bool.rec (motive := fun _ => R) (Bool.rec (motive := fun _ => R) (Bool.rec (motive := fun _ => R) (.bad 2) (List.rec (motive := fun _ => R) (.bad 1) (fun a0 l0 _ => List.rec (motive := fun _ => R) (.bad 1) (fun a1 l1 _ => List.rec (motive := fun _ => R) (g60 ro a0 a1 T nx) (fun _ _ _ => .bad 1) l1) l0) args) (Nat.beq f 60)) (Bool.rec (motive := fun _ => R) (.bad 2) (List.rec (motive := fun _ => R) (.bad 1) (fun a0 l0 _ => List.rec (motive := fun _ => R) (g49 ih ro a0 T nx) (fun _ _ _ => .bad 1) l0) args) (Nat.beq f 49)) (Nat.ble f 49)) (Bool.rec (motive := fun _ => R) (Bool.rec (motive := fun _ => R) (.bad 2) (List.rec (motive := fun _ => R) (.bad 1) (fun a0 l0 _ => List.rec (motive := fun _ => R) (g35 ih ro a0 T nx) (fun _ _ _ => .bad 1) l0) args) (Nat.beq f 35)) (Bool.rec (motive := fun _ => R) (.bad 2) (List.rec (motive := fun _ => R) (.bad 1) (fun a0 l0 _ => List.rec (motive := fun _ => R) (g34 ih ro a0 T nx) (fun _ _ _ => .bad 1) l0) args) (Nat.beq f 34)) (Nat.ble f 34)) (Nat.ble f 35)) (Nat.ble f 60)) (Nat.ble f 102)) (Nat.ble f 178)
noncomputable def scc2 (fuel : Nat) : FuncId → List HT → List AV → HT → Nat → R :=
  Nat.rec (motive := fun _ => FuncId → List HT → List AV → HT → Nat → R) (fun _ _ _ _ _ => .bad 3) (fun _ ih => ap2 ih) fuel
theorem ap2_ok (ih : FuncId → List HT → List AV → HT → Nat → R) (hI : ∀ f ro args T nx, GOk Tryz.prog envE f args ro T nx (ih f ro args T nx)) (f : FuncId) (ro : List HT) (args : List AV) (T : HT) (nx : Nat) : GOk Tryz.prog envE f args ro T nx (ap2 ih f ro args T nx) := by
  unfold ap2
  refine recb_go (fun hb => ?_) (fun _ => ?_)
  · refine recb_go (fun hb => ?_) (fun _ => ?_)
    · refine recb_go (fun hb => ?_) (fun _ => ?_)
      · refine recb_go (fun hb => ?_) (fun _ => ?_)
        · refine recb_go (fun hb => ?_) (fun _ => ?_)
          · refine recb_go (fun hb => ?_) (fun _ => ?_)
            · obtain rfl := beqT hb
              rcases args with _ | ⟨a0, l0⟩
              · exact GOk.bad
              rcases l0 with _ | ⟨_, _⟩
              · exact g34_ok _ hI _ _ _ _ 
              · exact GOk.bad
            · exact GOk.bad
          · refine recb_go (fun hb => ?_) (fun _ => ?_)
            · obtain rfl := beqT hb
              rcases args with _ | ⟨a0, l0⟩
              · exact GOk.bad
              rcases l0 with _ | ⟨_, _⟩
              · exact g35_ok _ hI _ _ _ _ 
              · exact GOk.bad
            · exact GOk.bad
        · refine recb_go (fun hb => ?_) (fun _ => ?_)
          · refine recb_go (fun hb => ?_) (fun _ => ?_)
            · obtain rfl := beqT hb
              rcases args with _ | ⟨a0, l0⟩
              · exact GOk.bad
              rcases l0 with _ | ⟨_, _⟩
              · exact g49_ok _ hI _ _ _ _ 
              · exact GOk.bad
            · exact GOk.bad
          · refine recb_go (fun hb => ?_) (fun _ => ?_)
            · obtain rfl := beqT hb
              rcases args with _ | ⟨a0, l0⟩
              · exact GOk.bad
              rcases l0 with _ | ⟨a1, l1⟩
              · exact GOk.bad
              rcases l1 with _ | ⟨_, _⟩
              · exact g60_ok _ _ _ _ _ 
              · exact GOk.bad
            · exact GOk.bad
      · refine recb_go (fun hb => ?_) (fun _ => ?_)
        · refine recb_go (fun hb => ?_) (fun _ => ?_)
          · refine recb_go (fun hb => ?_) (fun _ => ?_)
            · obtain rfl := beqT hb
              rcases args with _ | ⟨a0, l0⟩
              · exact GOk.bad
              rcases l0 with _ | ⟨a1, l1⟩
              · exact GOk.bad
              rcases l1 with _ | ⟨_, _⟩
              · exact g64_ok _ hI _ _ _ _ _ 
              · exact GOk.bad
            · exact GOk.bad
          · refine recb_go (fun hb => ?_) (fun _ => ?_)
            · obtain rfl := beqT hb
              rcases args with _ | ⟨a0, l0⟩
              · exact GOk.bad
              rcases l0 with _ | ⟨_, _⟩
              · exact g77_ok _ hI _ _ _ _ 
              · exact GOk.bad
            · exact GOk.bad
        · refine recb_go (fun hb => ?_) (fun _ => ?_)
          · refine recb_go (fun hb => ?_) (fun _ => ?_)
            · obtain rfl := beqT hb
              rcases args with _ | ⟨a0, l0⟩
              · exact GOk.bad
              rcases l0 with _ | ⟨a1, l1⟩
              · exact GOk.bad
              rcases l1 with _ | ⟨_, _⟩
              · exact g86_ok _ _ _ _ _ 
              · exact GOk.bad
            · exact GOk.bad
          · refine recb_go (fun hb => ?_) (fun _ => ?_)
            · obtain rfl := beqT hb
              rcases args with _ | ⟨a0, l0⟩
              · exact GOk.bad
              rcases l0 with _ | ⟨_, _⟩
              · exact g102_ok _ hI _ _ _ _ 
              · exact GOk.bad
            · exact GOk.bad
    · refine recb_go (fun hb => ?_) (fun _ => ?_)
      · refine recb_go (fun hb => ?_) (fun _ => ?_)
        · refine recb_go (fun hb => ?_) (fun _ => ?_)
          · refine recb_go (fun hb => ?_) (fun _ => ?_)
            · obtain rfl := beqT hb
              rcases args with _ | ⟨a0, l0⟩
              · exact GOk.bad
              rcases l0 with _ | ⟨a1, l1⟩
              · exact GOk.bad
              rcases l1 with _ | ⟨_, _⟩
              · exact g103_ok _ hI _ _ _ _ _ 
              · exact GOk.bad
            · exact GOk.bad
          · refine recb_go (fun hb => ?_) (fun _ => ?_)
            · obtain rfl := beqT hb
              rcases args with _ | ⟨a0, l0⟩
              · exact GOk.bad
              rcases l0 with _ | ⟨_, _⟩
              · exact g114_ok _ _ _ _ 
              · exact GOk.bad
            · exact GOk.bad
        · refine recb_go (fun hb => ?_) (fun _ => ?_)
          · refine recb_go (fun hb => ?_) (fun _ => ?_)
            · obtain rfl := beqT hb
              rcases args with _ | ⟨a0, l0⟩
              · exact GOk.bad
              rcases l0 with _ | ⟨_, _⟩
              · exact g116_ok _ _ _ _ 
              · exact GOk.bad
            · exact GOk.bad
          · refine recb_go (fun hb => ?_) (fun _ => ?_)
            · obtain rfl := beqT hb
              rcases args with _ | ⟨a0, l0⟩
              · exact GOk.bad
              rcases l0 with _ | ⟨_, _⟩
              · exact g130_ok _ hI _ _ _ _ 
              · exact GOk.bad
            · exact GOk.bad
      · refine recb_go (fun hb => ?_) (fun _ => ?_)
        · refine recb_go (fun hb => ?_) (fun _ => ?_)
          · refine recb_go (fun hb => ?_) (fun _ => ?_)
            · obtain rfl := beqT hb
              rcases args with _ | ⟨a0, l0⟩
              · exact GOk.bad
              rcases l0 with _ | ⟨a1, l1⟩
              · exact GOk.bad
              rcases l1 with _ | ⟨_, _⟩
              · exact g149_ok _ _ _ _ _ 
              · exact GOk.bad
            · exact GOk.bad
          · refine recb_go (fun hb => ?_) (fun _ => ?_)
            · obtain rfl := beqT hb
              rcases args with _ | ⟨a0, l0⟩
              · exact GOk.bad
              rcases l0 with _ | ⟨a1, l1⟩
              · exact GOk.bad
              rcases l1 with _ | ⟨_, _⟩
              · exact g152_ok _ _ _ _ _ 
              · exact GOk.bad
            · exact GOk.bad
        · refine recb_go (fun hb => ?_) (fun _ => ?_)
          · refine recb_go (fun hb => ?_) (fun _ => ?_)
            · obtain rfl := beqT hb
              rcases args with _ | ⟨a0, l0⟩
              · exact GOk.bad
              rcases l0 with _ | ⟨_, _⟩
              · exact g175_ok _ hI _ _ _ _ 
              · exact GOk.bad
            · exact GOk.bad
          · refine recb_go (fun hb => ?_) (fun _ => ?_)
            · obtain rfl := beqT hb
              rcases args with _ | ⟨a0, l0⟩
              · exact GOk.bad
              rcases l0 with _ | ⟨a1, l1⟩
              · exact GOk.bad
              rcases l1 with _ | ⟨_, _⟩
              · exact g178_ok _ hI _ _ _ _ _ 
              · exact GOk.bad
            · exact GOk.bad
  · refine recb_go (fun hb => ?_) (fun _ => ?_)
    · refine recb_go (fun hb => ?_) (fun _ => ?_)
      · refine recb_go (fun hb => ?_) (fun _ => ?_)
        · refine recb_go (fun hb => ?_) (fun _ => ?_)
          · refine recb_go (fun hb => ?_) (fun _ => ?_)
            · obtain rfl := beqT hb
              rcases args with _ | ⟨a0, l0⟩
              · exact GOk.bad
              rcases l0 with _ | ⟨_, _⟩
              · exact g180_ok _ hI _ _ _ _ 
              · exact GOk.bad
            · exact GOk.bad
          · refine recb_go (fun hb => ?_) (fun _ => ?_)
            · obtain rfl := beqT hb
              rcases args with _ | ⟨a0, l0⟩
              · exact GOk.bad
              rcases l0 with _ | ⟨_, _⟩
              · exact g183_ok _ _ _ _ 
              · exact GOk.bad
            · exact GOk.bad
        · refine recb_go (fun hb => ?_) (fun _ => ?_)
          · refine recb_go (fun hb => ?_) (fun _ => ?_)
            · obtain rfl := beqT hb
              rcases args with _ | ⟨a0, l0⟩
              · exact GOk.bad
              rcases l0 with _ | ⟨_, _⟩
              · exact g189_ok _ hI _ _ _ _ 
              · exact GOk.bad
            · exact GOk.bad
          · refine recb_go (fun hb => ?_) (fun _ => ?_)
            · obtain rfl := beqT hb
              rcases args with _ | ⟨a0, l0⟩
              · exact GOk.bad
              rcases l0 with _ | ⟨a1, l1⟩
              · exact GOk.bad
              rcases l1 with _ | ⟨_, _⟩
              · exact g215_ok _ hI _ _ _ _ _ 
              · exact GOk.bad
            · exact GOk.bad
      · refine recb_go (fun hb => ?_) (fun _ => ?_)
        · refine recb_go (fun hb => ?_) (fun _ => ?_)
          · refine recb_go (fun hb => ?_) (fun _ => ?_)
            · obtain rfl := beqT hb
              rcases args with _ | ⟨a0, l0⟩
              · exact GOk.bad
              rcases l0 with _ | ⟨a1, l1⟩
              · exact GOk.bad
              rcases l1 with _ | ⟨a2, l2⟩
              · exact GOk.bad
              rcases l2 with _ | ⟨_, _⟩
              · exact g217_ok _ hI _ _ _ _ _ _ 
              · exact GOk.bad
            · exact GOk.bad
          · refine recb_go (fun hb => ?_) (fun _ => ?_)
            · obtain rfl := beqT hb
              rcases args with _ | ⟨a0, l0⟩
              · exact GOk.bad
              rcases l0 with _ | ⟨_, _⟩
              · exact g218_ok _ hI _ _ _ _ 
              · exact GOk.bad
            · exact GOk.bad
        · refine recb_go (fun hb => ?_) (fun _ => ?_)
          · refine recb_go (fun hb => ?_) (fun _ => ?_)
            · obtain rfl := beqT hb
              rcases args with _ | ⟨a0, l0⟩
              · exact GOk.bad
              rcases l0 with _ | ⟨_, _⟩
              · exact g230_ok _ hI _ _ _ _ 
              · exact GOk.bad
            · exact GOk.bad
          · refine recb_go (fun hb => ?_) (fun _ => ?_)
            · obtain rfl := beqT hb
              rcases args with _ | ⟨a0, l0⟩
              · exact GOk.bad
              rcases l0 with _ | ⟨_, _⟩
              · exact g232_ok _ hI _ _ _ _ 
              · exact GOk.bad
            · exact GOk.bad
    · refine recb_go (fun hb => ?_) (fun _ => ?_)
      · refine recb_go (fun hb => ?_) (fun _ => ?_)
        · refine recb_go (fun hb => ?_) (fun _ => ?_)
          · refine recb_go (fun hb => ?_) (fun _ => ?_)
            · obtain rfl := beqT hb
              rcases args with _ | ⟨a0, l0⟩
              · exact GOk.bad
              rcases l0 with _ | ⟨_, _⟩
              · exact g235_ok _ hI _ _ _ _ 
              · exact GOk.bad
            · exact GOk.bad
          · refine recb_go (fun hb => ?_) (fun _ => ?_)
            · obtain rfl := beqT hb
              rcases args with _ | ⟨a0, l0⟩
              · exact GOk.bad
              rcases l0 with _ | ⟨_, _⟩
              · exact g237_ok _ hI _ _ _ _ 
              · exact GOk.bad
            · exact GOk.bad
        · refine recb_go (fun hb => ?_) (fun _ => ?_)
          · refine recb_go (fun hb => ?_) (fun _ => ?_)
            · obtain rfl := beqT hb
              rcases args with _ | ⟨a0, l0⟩
              · exact GOk.bad
              rcases l0 with _ | ⟨_, _⟩
              · exact g238_ok _ hI _ _ _ _ 
              · exact GOk.bad
            · exact GOk.bad
          · refine recb_go (fun hb => ?_) (fun _ => ?_)
            · obtain rfl := beqT hb
              rcases args with _ | ⟨a0, l0⟩
              · exact GOk.bad
              rcases l0 with _ | ⟨_, _⟩
              · exact g241_ok _ hI _ _ _ _ 
              · exact GOk.bad
            · exact GOk.bad
      · refine recb_go (fun hb => ?_) (fun _ => ?_)
        · refine recb_go (fun hb => ?_) (fun _ => ?_)
          · refine recb_go (fun hb => ?_) (fun _ => ?_)
            · obtain rfl := beqT hb
              rcases args with _ | ⟨a0, l0⟩
              · exact GOk.bad
              rcases l0 with _ | ⟨_, _⟩
              · exact g243_ok _ hI _ _ _ _ 
              · exact GOk.bad
            · exact GOk.bad
          · refine recb_go (fun hb => ?_) (fun _ => ?_)
            · obtain rfl := beqT hb
              rcases args with _ | ⟨a0, l0⟩
              · exact GOk.bad
              rcases l0 with _ | ⟨_, _⟩
              · exact g245_ok _ hI _ _ _ _ 
              · exact GOk.bad
            · exact GOk.bad
        · refine recb_go (fun hb => ?_) (fun _ => ?_)
          · refine recb_go (fun hb => ?_) (fun _ => ?_)
            · obtain rfl := beqT hb
              rcases args with _ | ⟨a0, l0⟩
              · exact GOk.bad
              rcases l0 with _ | ⟨a1, l1⟩
              · exact GOk.bad
              rcases l1 with _ | ⟨a2, l2⟩
              · exact GOk.bad
              rcases l2 with _ | ⟨_, _⟩
              · exact g246_ok _ hI _ _ _ _ _ _ 
              · exact GOk.bad
            · exact GOk.bad
          · refine recb_go (fun hb => ?_) (fun _ => ?_)
            · obtain rfl := beqT hb
              rcases args with _ | ⟨a0, l0⟩
              · exact GOk.bad
              rcases l0 with _ | ⟨_, _⟩
              · exact g247_ok _ hI _ _ _ _ 
              · exact GOk.bad
            · exact GOk.bad
theorem scc2_ok : ∀ (fuel : Nat) (f : FuncId) (ro : List HT) (args : List AV) (T : HT) (nx : Nat), GOk Tryz.prog envE f args ro T nx (scc2 fuel f ro args T nx)
  | 0, _, _, _, _, _ => GOk.bad
  | fuel + 1, f, ro, args, T, nx => ap2_ok (scc2 fuel) (scc2_ok fuel) f ro args T nx
noncomputable def g98 (ro : List HT) (a0 a1 a2 a3 : AV) (T : HT) (nx : Nat) : R :=
 fldK 980003 T ro a0 2 fun x12_1 =>
 optK 980007 (bld139 [(0, a1), (1, a2), (2, a3)]) fun x16_2 =>
 bsK 980008 T nx 1 139 3 [(0, x16_2)] fun x17_3 T1 n1 =>
 shrK 980010 T1 x12_1 fun T2 =>
 appK 980009 T2 ro n1 139 3 32 x12_1 x17_3 fun x18_4 T3 n3 =>
 faK 980011 a0 2 fun x20_5 =>
 stK 980012 T3 x20_5 x18_4 fun T4 =>
 .ok (.val (.tup [])) T4 n3
theorem g98_ok (ro : List HT) (a0 a1 a2 a3 : AV) (T : HT) (nx : Nat) : GOk Tryz.prog envE 98 [a0, a1, a2, a3] ro T nx (g98 ro a0 a1 a2 a3 T nx) := by
 refine GOk.of_body Tryz.func98 rfl Tryz.ntmps98 (by kernel_rfl) rfl fun r T' n' h1 w0 base ρ0 its hS hP => ?_
 have X : CtxW envE ρ0 ro r T' n' := trivial
 unfold g98 at h1
 refine CV.region ?_
 refine mv ?_
 refine mv ?_
 refine fl hS h1 Rcf.fo168_2 Rcf.one96 fun x12_1 h2 => ?_
 refine mv ?_
 refine mv ?_
 refine mv ?_
 refine vy (V.bld h2 rfl) fun x16_2 h3 => ?_
 refine LV.bslice hS h3 rfl rfl Rcf.el96 rfl rfl rfl rfl fun x17_3 T1 n1 h4 ρ its hS hdr => ?_
 obtain ⟨T2, its1, h5, hS, hW⟩ := shrK_inv hS h4
 refine LV.world hW ?_
 refine LV.app hS h5 rfl rfl rfl rfl Rcf.el96 rfl rfl rfl fun x18_4 T3 n3 h6 ρ its hS => ?_
 refine fa2 h6 Rcf.fo168_2 fun x20_5 h7 => ?_
 refine LV.st hS h7 rfl rfl rfl Rcf.siz96 rfl rfl fun T4 its h8 hS => ?_
 refine LV.done ?_
 cases h8
 exact PV.ret (by simp) Tryz.results98 hS RS.nil rfl
noncomputable def g97_k1 (ro : List HT) (y0 : AV) (T1 : HT) (n1 : Nat) : R :=
 faK 970002 y0 5 fun x14_1 =>
 stK 970003 T1 x14_1 (.lit (.bool false)) fun T2 =>
 .ok (.val (.tup [])) T2 n1
noncomputable def g97 (ro : List HT) (a0 : AV) (T : HT) (nx : Nat) : R :=
 fldK 970005 T ro a0 5 fun x5_2 =>
 condK 970006 x5_2
 (
  fldK 970009 T ro a0 1 fun x10_3 =>
  callK (g98 ro a0 (.lit (.int .i64 (.ofNat 5))) (.lit (.string ⟨⟨[]⟩⟩)) x10_3 T nx) fun x11_4 T3 n3 =>
  g97_k1 ro a0 T3 n3
 )
 (
  g97_k1 ro a0 T nx
 )
theorem g97_ok (ro : List HT) (a0 : AV) (T : HT) (nx : Nat) : GOk Tryz.prog envE 97 [a0] ro T nx (g97 ro a0 T nx) := by
 refine GOk.of_body Tryz.func97 rfl Tryz.ntmps97 (by kernel_rfl) rfl fun r T' n' h1 w0 base ρ0 its hS hP => ?_
 have X : CtxW envE ρ0 ro r T' n' := trivial
 unfold g97 at h1
 refine cs1 X 0 [] (g97_k1 ro) ?_ ?_
 ·
  refine sr ?_
  refine mv ?_
  refine fl hS h1 Rcf.fo168_5 Rcf.one4 fun x5_2 h5 => ?_
  refine dn ?_
  refine CV.cond h5 rfl (fun e h6 => ?_) (fun e h6 => ?_)
  ·
   clear h1 h5
   subst e
   refine CV.region ?_
   refine mv ?_
   refine mv ?_
   refine fl hS h6 Rcf.fo168_1 Rcf.one3 fun x10_3 h7 => ?_
   refine LV.call hS h7 (g98_ok _ _ _ _ _ _ _ ) hP rfl rfl rfl rfl fun x11_4 T3 n3 h8 ρ its hS => ?_
   refine LV.done ?_
   exact pa1 hS h8 ⟨rfl, trivial⟩
  ·
   clear h1 h5
   subst e
   refine CV.skip ?_
   exact pa1 hS h6 ⟨rfl, trivial⟩
 ·
  intro y0 T1 n1 ρ its hS h2
  unfold g97_k1 at h2
  clear h1
  refine CV.region ?_
  refine mv ?_
  refine fa2 h2 Rcf.fo168_5 fun x14_1 h3 => ?_
  refine LV.st hS h3 rfl rfl rfl Rcf.siz4 rfl rfl fun T2 its h4 hS => ?_
  refine LV.done ?_
  cases h4
  exact PV.ret (by simp) Tryz.results97 hS RS.nil rfl
noncomputable def g104_k3 (ro : List HT) (y20 : AV) (T3 : HT) (n3 : Nat) : R :=
 .ok (.val y20) T3 n3
noncomputable def g104_k2 (ro : List HT) (y0 y16 : AV) (T2 : HT) (n2 : Nat) : R :=
 condK 1040008 y16
 (
  g104_k3 ro (.lit (.bool true)) T2 n2
 )
 (
  eqK Tryz.prog 5 (.tmp 18) (.const (.int .u8 (.ofNat 95))) 1040011 y0 (.lit (.int .u8 (.ofNat 95))) fun x19_2 =>
  g104_k3 ro x19_2 T2 n2
 )
noncomputable def g104_k4 (ro : List HT) (y0 y15 : AV) (T4 : HT) (n4 : Nat) : R :=
 g104_k2 ro y0 y15 T4 n4
noncomputable def g104_k1 (ro : List HT) (y0 y8 : AV) (T1 : HT) (n1 : Nat) : R :=
 condK 1040013 y8
 (
  g104_k2 ro y0 (.lit (.bool true)) T1 n1
 )
 (
  geK Tryz.prog 5 (.tmp 10) (.const (.int .u8 (.ofNat 65))) 1040016 y0 (.lit (.int .u8 (.ofNat 65))) fun x11_3 =>
  condK 1040019 x11_3
  (
   leK Tryz.prog 5 (.tmp 13) (.const (.int .u8 (.ofNat 90))) 1040021 y0 (.lit (.int .u8 (.ofNat 90))) fun x14_4 =>
   g104_k4 ro y0 x14_4 T1 n1
  )
  (
   g104_k4 ro y0 (.lit (.bool false)) T1 n1
  )
 )
noncomputable def g104 (ro : List HT) (a0 : AV) (T : HT) (nx : Nat) : R :=
 geK Tryz.prog 5 (.tmp 3) (.const (.int .u8 (.ofNat 97))) 1040003 a0 (.lit (.int .u8 (.ofNat 97))) fun x4_1 =>
 condK 1040024 x4_1
 (
  leK Tryz.prog 5 (.tmp 6) (.const (.int .u8 (.ofNat 122))) 1040026 a0 (.lit (.int .u8 (.ofNat 122))) fun x7_5 =>
  g104_k1 ro a0 x7_5 T nx
 )
 (
  g104_k1 ro a0 (.lit (.bool false)) T nx
 )
theorem g104_ok (ro : List HT) (a0 : AV) (T : HT) (nx : Nat) : GOk Tryz.prog envE 104 [a0] ro T nx (g104 ro a0 T nx) := by
 refine GOk.of_body Tryz.func104 rfl Tryz.ntmps104 (by kernel_rfl) rfl fun r T' n' h1 w0 base ρ0 its hS hP => ?_
 have X : CtxW envE ρ0 ro r T' n' := trivial
 unfold g104 at h1
 refine sr ?_
 refine as_ ?_
 refine dn ?_
 refine sr ?_
 refine mv ?_
 refine vy (V.ge h1 rfl rfl) fun x4_1 h2 => ?_
 refine mv ?_
 refine ls2 X 0 8 [(2, (.lit (.bool false)))] (g104_k1 ro) 3 ?_ ?_
 ·
  rcases condK_inv h2 with ⟨e, h13⟩ | ⟨e, h13⟩
  ·
   clear h1 h2
   subst e
   refine mv ?_
   refine vy (V.le h13 rfl rfl) fun x7_5 h14 => ?_
   refine pu ?_
   exact la2 hS h14 ⟨rfl, rfl, rfl, trivial⟩
  ·
   clear h1 h2
   subst e
   refine sk ?_
   refine sk ?_
   refine pu ?_
   exact la2 hS h13 ⟨rfl, rfl, rfl, trivial⟩
 ·
  intro y0 y8 T1 n1 ρ its hS h3
  unfold g104_k1 at h3
  clear h1 h2
  refine mv ?_
  refine ls2 X 0 16 [(2, (.lit (.bool false)))] (g104_k2 ro) 7 ?_ ?_
  ·
   rcases condK_inv h3 with ⟨e, h8⟩ | ⟨e, h8⟩
   ·
    clear h3
    subst e
    refine sk ?_
    refine sk ?_
    refine sk ?_
    refine sk ?_
    refine sk ?_
    refine sk ?_
    refine pu ?_
    exact la2 hS h8 ⟨rfl, rfl, rfl, trivial⟩
   ·
    clear h3
    subst e
    refine mv ?_
    refine vy (V.ge h8 rfl rfl) fun x11_3 h9 => ?_
    refine mv ?_
    refine ls2 X 0 15 [(2, (.lit (.bool false))), (9, (.lit (.bool false)))] (g104_k4 ro) 3 ?_ ?_
    ·
     rcases condK_inv h9 with ⟨e, h11⟩ | ⟨e, h11⟩
     ·
      clear h8 h9
      subst e
      refine mv ?_
      refine vy (V.le h11 rfl rfl) fun x14_4 h12 => ?_
      refine pu ?_
      exact la2 hS h12 ⟨rfl, rfl, rfl, rfl, trivial⟩
     ·
      clear h8 h9
      subst e
      refine sk ?_
      refine sk ?_
      refine pu ?_
      exact la2 hS h11 ⟨rfl, rfl, rfl, rfl, trivial⟩
    ·
     intro y0 y15 T4 n4 ρ its hS h10
     unfold g104_k4 at h10
     clear h8 h9
     refine pu ?_
     exact la2 hS h10 ⟨rfl, rfl, rfl, trivial⟩
  ·
   intro y0 y16 T2 n2 ρ its hS h4
   unfold g104_k2 at h4
   clear h3
   refine mv ?_
   refine ls1 X 20 [(2, (.lit (.bool false)))] (g104_k3 ro) 3 ?_ ?_
   ·
    rcases condK_inv h4 with ⟨e, h6⟩ | ⟨e, h6⟩
    ·
     clear h4
     subst e
     refine sk ?_
     refine sk ?_
     refine pu ?_
     exact la1 hS h6 ⟨rfl, rfl, trivial⟩
    ·
     clear h4
     subst e
     refine mv ?_
     refine vy (V.eq h6 rfl rfl) fun x19_2 h7 => ?_
     refine pu ?_
     exact la1 hS h7 ⟨rfl, rfl, trivial⟩
   ·
    intro y20 T3 n3 ρ its hS h5
    unfold g104_k3 at h5
    clear h4
    refine as_ ?_
    refine dn ?_
    refine CV.ret ?_
    cases h5
    exact PV.ret (by simp) Tryz.results104 hS (RS.tmp rfl RS.nil) rfl

end Go.Proofs.YtdepmlcnllofiaaGreatDoor.Rc
