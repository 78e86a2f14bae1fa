/-
  Proved here: plain functions that do what the program's functions do, each with its proof.
-/
import Derived.Test.YtdepmlcnllofiaaDoorPab
namespace Go.Proofs.YtdepmlcnllofiaaDoor.Pa
open Go.EY Go.EX Go.SX Go.RowKit
noncomputable def g88_b1 (ih : FuncId → List HT → List AV → HT → Nat → R) (ro : List HT) (lp1 : AV → AV → AV → HT → Nat → R) (y0 y2 y3 : AV) (T2 : HT) (n2 : Nat) : R :=
 callK (g41 ro y0 T2 n2) fun x10_2 T3 n3 =>
 callK (g43 ro y0 (.lit (.string ⟨⟨[46]⟩⟩)) T3 n3) fun x14_3 T4 n4 =>
 condK 880012 x14_3
 (
  callK (g22 ro y0 (.lit (.int .i64 (.ofNat 1))) T4 n4) fun x17_4 T5 n5 =>
  exK 880016 x17_4 0 fun x18_5 =>
  exK 880017 x17_4 1 fun x19_6 =>
  bsK 880024 T5 n5 1 3 1 [(0, y3)] fun x24_7 T6 n6 =>
  callK (g26 ro y0 (.lit (.int .i64 (.ofNat 12))) x10_2 x18_5 x24_7 T6 n6) fun x25_8 T7 n7 =>
  lp1 y0 y2 x25_8 T7 n7
 )
 (
  bsK 880028 T4 n4 1 9 1 [(0, (.lit (.string ⟨⟨[40]⟩⟩)))] fun x28_9 T8 n8 =>
  callK (g35 ro y0 x28_9 T8 n8) fun x29_10 T9 n9 =>
  condK 880031 x29_10
  (
   callK (ih 92 ro [y0, y3] T9 n9) fun x32_11 T10 n10 =>
   lp1 y0 y2 x32_11 T10 n10
  )
  (
   bsK 880037 T9 n9 1 9 1 [(0, (.lit (.string ⟨⟨[91]⟩⟩)))] fun x35_12 T11 n11 =>
   callK (g35 ro y0 x35_12 T11 n11) fun x36_13 T12 n12 =>
   condK 880040 x36_13
   (
    callK (ih 93 ro [y0, y3] T12 n12) fun x39_14 T13 n13 =>
    lp1 y0 y2 x39_14 T13 n13
   )
   (
    .ok (.val y3) T12 n12
   )
  )
 )
noncomputable def g88 (ih : FuncId → List HT → List AV → HT → Nat → R) (ro : List HT) (a0 : AV) (T : HT) (nx : Nat) : R :=
 callK (ih 91 ro [a0] T nx) fun x8_1 T1 n1 =>
 lpf3 880005 (g88_b1 ih ro) 100000 a0 (.lit (.int .i64 (.ofNat 0))) x8_1 T1 n1
theorem g88_ok (ih : FuncId → List HT → List AV → HT → Nat → R) (hI : ∀ f ro args T nx, GOk Tryd.prog envE f args ro T nx (ih f ro args T nx)) (ro : List HT) (a0 : AV) (T : HT) (nx : Nat) : GOk Tryd.prog envE 88 [a0] ro T nx (g88 ih ro a0 T nx) := by
 refine GOk.of_body Tryd.func88 rfl Tryd.ntmps88 (by kernel_rfl) rfl fun r T' n' h1 w0 base ρ0 its hS hP => ?_
 have X : CtxW envE ρ0 ro r T' n' := trivial
 unfold g88 at h1
 refine sr ?_
 refine as_ ?_
 refine dn ?_
 refine sr ?_
 refine mv ?_
 refine LV.call hS h1 (hI _ _ _ _ _) hP rfl rfl rfl rfl fun x8_1 T1 n1 h2 ρ its hS => ?_
 refine as_ ?_
 refine dn ?_
 refine CV.block ?_
 refine cl3 X 0 2 3 [] hS h2 ⟨rfl, rfl, rfl, trivial⟩ ?_
 intro f1 y0 y2 y3 T2 n2 ρ its hS h3
 unfold g88_b1 at h3
 clear h1 h2
 refine CV.block ?_
 refine sr ?_
 refine mv ?_
 refine LV.call hS h3 (g41_ok _ _ _ _ ) hP rfl rfl rfl rfl fun x10_2 T3 n3 h4 ρ its hS => ?_
 refine as_ ?_
 refine dn ?_
 refine CV.block ?_
 refine sr ?_
 refine mv ?_
 refine LV.call hS h4 (g43_ok _ _ _ _ _ ) hP rfl rfl rfl rfl fun x14_3 T4 n4 h5 ρ its hS => ?_
 refine as_ ?_
 refine dn ?_
 refine CV.cond h5 rfl (fun e h6 => ?_) (fun e h6 => ?_)
 ·
  clear h3 h4 h5
  subst e
  refine sr ?_
  refine mv ?_
  refine LV.call hS h6 (g22_ok _ _ _ _ _ ) hP rfl rfl rfl rfl fun x17_4 T5 n5 h7 ρ its hS => ?_
  refine mv ?_
  refine vy (V.ex h7 rfl) fun x18_5 h8 => ?_
  refine vy (V.ex h8 rfl) fun x19_6 h9 => ?_
  refine as_ ?_
  refine as_ ?_
  refine dn ?_
  refine CV.region ?_
  refine mv ?_
  refine mv ?_
  refine mv ?_
  refine mv ?_
  refine LV.bslice hS h9 rfl rfl Paf.el29 rfl rfl rfl rfl fun x24_7 T6 n6 h10 ρ its hS hdr => ?_
  refine LV.call hS h10 (g26_ok _ _ _ _ _ _ _ _ ) hP rfl rfl rfl rfl fun x25_8 T7 n7 h11 ρ its hS => ?_
  refine as_ ?_
  refine LV.done ?_
  refine PV.blockN ?_
  refine PV.blockN ?_
  exact pb3 hS h11 ⟨rfl, rfl, rfl, trivial⟩
 ·
  clear h3 h4 h5
  subst e
  refine sr ?_
  refine mv ?_
  refine LV.bslice hS h6 rfl rfl Paf.el33 rfl rfl rfl rfl fun x28_9 T8 n8 h12 ρ its hS hdr => ?_
  refine LV.call hS h12 (g35_ok _ _ _ _ _ ) hP rfl rfl rfl rfl fun x29_10 T9 n9 h13 ρ its hS => ?_
  refine as_ ?_
  refine dn ?_
  refine CV.cond h13 rfl (fun e h14 => ?_) (fun e h14 => ?_)
  ·
   clear h6 h12 h13
   subst e
   refine CV.region ?_
   refine mv ?_
   refine mv ?_
   refine LV.call hS h14 (hI _ _ _ _ _) hP rfl rfl rfl rfl fun x32_11 T10 n10 h15 ρ its hS => ?_
   refine as_ ?_
   refine LV.done ?_
   refine PV.blockN ?_
   refine PV.blockN ?_
   exact pb3 hS h15 ⟨rfl, rfl, rfl, trivial⟩
  ·
   clear h6 h12 h13
   subst e
   refine sr ?_
   refine mv ?_
   refine LV.bslice hS h14 rfl rfl Paf.el33 rfl rfl rfl rfl fun x35_12 T11 n11 h16 ρ its hS hdr => ?_
   refine LV.call hS h16 (g35_ok _ _ _ _ _ ) hP rfl rfl rfl rfl fun x36_13 T12 n12 h17 ρ its hS => ?_
   refine as_ ?_
   refine dn ?_
   refine CV.cond h17 rfl (fun e h18 => ?_) (fun e h18 => ?_)
   ·
    clear h14 h16 h17
    subst e
    refine CV.region ?_
    refine mv ?_
    refine mv ?_
    refine LV.call hS h18 (hI _ _ _ _ _) hP rfl rfl rfl rfl fun x39_14 T13 n13 h19 ρ its hS => ?_
    refine as_ ?_
    refine LV.done ?_
    refine PV.blockN ?_
    refine PV.blockN ?_
    exact pb3 hS h19 ⟨rfl, rfl, rfl, trivial⟩
   ·
    clear h14 h16 h17
    subst e
    refine sr ?_
    refine mv ?_
    refine as_ ?_
    refine dn ?_
    refine CV.ret ?_
    refine PV.blockR ?_
    refine PV.blockR ?_
    refine PV.thenR ?_
    refine PV.blockR ?_
    cases h18
    exact PV.ret (by simp) Tryd.results88 hS (RS.tmp rfl RS.nil) rfl
noncomputable def g90 (ih : FuncId → List HT → List AV → HT → Nat → R) (ro : List HT) (a0 : AV) (T : HT) (nx : Nat) : R :=
 callK (ih 94 ro [a0] T nx) fun x7_1 T1 n1 =>
 callK (g41 ro a0 T1 n1) fun x9_2 T2 n2 =>
 bsK 900009 T2 n2 1 9 1 [(0, (.lit (.string ⟨⟨[110, 111, 116]⟩⟩)))] fun x12_3 T3 n3 =>
 callK (g35 ro a0 x12_3 T3 n3) fun x13_4 T4 n4 =>
 condK 900012 x13_4
 (
  ncK 900014 a0 fun x15_5 =>
  faK 900015 x15_5 1 fun x16_6 =>
  ldK 900016 T4 ro x16_6 fun x17_7 =>
  addK Tryd.prog 3 (.tmp 17) (.const (.int .i64 (.ofNat 1))) 900017 x17_7 (.lit (.int .i64 (.ofNat 1))) fun x18_8 =>
  ncK 900018 a0 fun x19_9 =>
  faK 900019 x19_9 1 fun x20_10 =>
  stK 900020 T4 x20_10 x18_8 fun T5 =>
  callK (g57 ro a0 (.lit (.string ⟨⟨[105, 110]⟩⟩)) T5 n4) fun x22_11 T6 n6 =>
  callK (ih 94 ro [a0] T6 n6) fun x27_12 T7 n7 =>
  bsK 900028 T7 n7 2 3 1 [(0, x7_1), (1, x27_12)] fun x28_13 T8 n8 =>
  callK (g26 ro a0 (.lit (.int .i64 (.ofNat 33))) x9_2 (.lit (.string ⟨⟨[]⟩⟩)) x28_13 T8 n8) fun x29_14 T9 n9 =>
  .ok (.val x29_14) T9 n9
 )
 (
  bsK 900032 T4 n4 7 9 1 [(0, (.lit (.string ⟨⟨[61, 61]⟩⟩))), (1, (.lit (.string ⟨⟨[33, 61]⟩⟩))), (2, (.lit (.string ⟨⟨[60]⟩⟩))), (3, (.lit (.string ⟨⟨[60, 61]⟩⟩))), (4, (.lit (.string ⟨⟨[62]⟩⟩))), (5, (.lit (.string ⟨⟨[62, 61]⟩⟩))), (6, (.lit (.string ⟨⟨[105, 110]⟩⟩)))] fun x32_15 T10 n10 =>
  callK (g35 ro a0 x32_15 T10 n10) fun x33_16 T11 n11 =>
  condK 900035 x33_16
  (
   ncK 900037 a0 fun x35_17 =>
   faK 900038 x35_17 0 fun x36_18 =>
   ldK 900039 T11 ro x36_18 fun x37_19 =>
   ncK 900041 a0 fun x39_20 =>
   faK 900042 x39_20 1 fun x40_21 =>
   ldK 900043 T11 ro x40_21 fun x41_22 =>
   iaK 900044 x37_19 x41_22 3 fun x42_23 =>
   faK 900045 x42_23 1 fun x43_24 =>
   ldK 900046 T11 ro x43_24 fun x44_25 =>
   ncK 900049 a0 fun x46_26 =>
   faK 900050 x46_26 1 fun x47_27 =>
   ldK 900051 T11 ro x47_27 fun x48_28 =>
   addK Tryd.prog 3 (.tmp 48) (.const (.int .i64 (.ofNat 1))) 900052 x48_28 (.lit (.int .i64 (.ofNat 1))) fun x49_29 =>
   ncK 900053 a0 fun x50_30 =>
   faK 900054 x50_30 1 fun x51_31 =>
   stK 900055 T11 x51_31 x49_29 fun T12 =>
   callK (g84 ro x44_25 T12 n11) fun x54_32 T13 n13 =>
   callK (ih 94 ro [a0] T13 n13) fun x58_33 T14 n14 =>
   bsK 900063 T14 n14 2 3 1 [(0, x7_1), (1, x58_33)] fun x59_34 T15 n15 =>
   callK (g26 ro a0 x54_32 x9_2 (.lit (.string ⟨⟨[]⟩⟩)) x59_34 T15 n15) fun x60_35 T16 n16 =>
   .ok (.val x60_35) T16 n16
  )
  (
   .ok (.val x7_1) T11 n11
  )
 )
theorem g90_ok (ih : FuncId → List HT → List AV → HT → Nat → R) (hI : ∀ f ro args T nx, GOk Tryd.prog envE f args ro T nx (ih f ro args T nx)) (ro : List HT) (a0 : AV) (T : HT) (nx : Nat) : GOk Tryd.prog envE 90 [a0] ro T nx (g90 ih ro a0 T nx) := by
 refine GOk.of_body Tryd.func90 rfl Tryd.ntmps90 (by kernel_rfl) rfl fun r T' n' h1 w0 base ρ0 its hS hP => ?_
 have X : CtxW envE ρ0 ro r T' n' := trivial
 unfold g90 at h1
 refine sr ?_
 refine as_ ?_
 refine dn ?_
 refine sr ?_
 refine mv ?_
 refine LV.call hS h1 (hI _ _ _ _ _) hP rfl rfl rfl rfl fun x7_1 T1 n1 h2 ρ its hS => ?_
 refine as_ ?_
 refine dn ?_
 refine sr ?_
 refine mv ?_
 refine LV.call hS h2 (g41_ok _ _ _ _ ) hP rfl rfl rfl rfl fun x9_2 T2 n2 h3 ρ its hS => ?_
 refine as_ ?_
 refine dn ?_
 refine CV.seq ?_
 refine CV.block ?_
 refine sr ?_
 refine mv ?_
 refine LV.bslice hS h3 rfl rfl Paf.el33 rfl rfl rfl rfl fun x12_3 T3 n3 h4 ρ its hS hdr => ?_
 refine LV.call hS h4 (g35_ok _ _ _ _ _ ) hP rfl rfl rfl rfl fun x13_4 T4 n4 h5 ρ its hS => ?_
 refine as_ ?_
 refine dn ?_
 refine CV.cond h5 rfl (fun e h6 => ?_) (fun e h6 => ?_)
 ·
  clear h1 h2 h3 h4 h5
  subst e
  refine sr ?_
  refine mv ?_
  refine vy (V.nc h6 rfl) fun x15_5 h7 => ?_
  refine vy (V.fa h7 rfl Paf.fo49_1) fun x16_6 h8 => ?_
  refine vy (V.ld hS h8 rfl Paf.one3) fun x17_7 h9 => ?_
  refine vy (V.add h9 rfl rfl) fun x18_8 h10 => ?_
  refine vy (V.nc h10 rfl) fun x19_9 h11 => ?_
  refine vy (V.fa h11 rfl Paf.fo49_1) fun x20_10 h12 => ?_
  refine LV.st hS h12 rfl rfl rfl Paf.siz3 rfl rfl fun T5 its h13 hS => ?_
  refine dn ?_
  refine sr ?_
  refine mv ?_
  refine LV.call hS h13 (g57_ok _ _ _ _ _ ) hP rfl rfl rfl rfl fun x22_11 T6 n6 h14 ρ its hS => ?_
  refine dn ?_
  refine sr ?_
  refine mv ?_
  refine mv ?_
  refine mv ?_
  refine mv ?_
  refine LV.call hS h14 (hI _ _ _ _ _) hP rfl rfl rfl rfl fun x27_12 T7 n7 h15 ρ its hS => ?_
  refine LV.bslice hS h15 rfl rfl Paf.el29 rfl rfl rfl rfl fun x28_13 T8 n8 h16 ρ its hS hdr => ?_
  refine LV.call hS h16 (g26_ok _ _ _ _ _ _ _ _ ) hP rfl rfl rfl rfl fun x29_14 T9 n9 h17 ρ its hS => ?_
  refine as_ ?_
  refine dn ?_
  refine CV.ret ?_
  refine PV.blockR ?_
  refine PV.thenR ?_
  cases h17
  exact PV.ret (by simp) Tryd.results90 hS (RS.tmp rfl RS.nil) rfl
 ·
  clear h1 h2 h3 h4 h5
  subst e
  refine sr ?_
  refine mv ?_
  refine LV.bslice hS h6 rfl rfl Paf.el33 rfl rfl rfl rfl fun x32_15 T10 n10 h18 ρ its hS hdr => ?_
  refine LV.call hS h18 (g35_ok _ _ _ _ _ ) hP rfl rfl rfl rfl fun x33_16 T11 n11 h19 ρ its hS => ?_
  refine as_ ?_
  refine dn ?_
  refine CV.cond h19 rfl (fun e h20 => ?_) (fun e h20 => ?_)
  ·
   clear h6 h18 h19
   subst e
   refine CV.seq ?_
   refine CV.regionM [(0, .anywhere), (1, .anywhere), (2, .anywhere), (3, .held), (4, .anywhere), (5, .anywhere), (6, .anywhere), (7, .held), (8, .held), (9, .held), (10, .held), (11, .held)] rfl (fun c a a' w hd hq => PanicOk.root (P := Tryd.prog) (fn := Tryd.f90) (w0 := w0) (base := base) (E := envE) (ro := ro) (r := r) (T' := T') (n' := n') (ρ0 := ρ0) c a a' w hd hq) (by kernel_rfl) ?_
   refine MV.step0 (i := 0) rfl (VAL.move rfl) rfl rfl rfl ?_
   refine MV.lift0 (i := 1) rfl (V.nc h20 rfl) rfl rfl rfl fun x35_17 h21 => ?_
   refine MV.lift0 (i := 2) rfl (V.fa h21 rfl Paf.fo49_0) rfl rfl rfl fun x36_18 h22 => ?_
   refine MV.lift1 (i := 3) rfl (fun _ z => z) (V.ld hS h22 rfl Paf.one47) rfl rfl rfl [] (by kernel_rfl) fun x37_19 h23 => ?_
   refine MV.step0 (i := 4) rfl (VAL.move rfl) rfl rfl rfl ?_
   refine MV.lift0 (i := 5) rfl (V.nc h23 rfl) rfl rfl rfl fun x39_20 h24 => ?_
   refine MV.lift0 (i := 6) rfl (V.fa h24 rfl Paf.fo49_1) rfl rfl rfl fun x40_21 h25 => ?_
   refine MV.lift1 (i := 7) rfl (fun _ z => z) (V.ld hS h25 rfl Paf.one3) rfl rfl rfl [3] (by kernel_rfl) fun x41_22 h26 => ?_
   refine MV.lift1 (i := 8) rfl (fun _ z => z) (V.ia h26 rfl rfl Paf.el47) rfl rfl rfl [] (by kernel_rfl) fun x42_23 h27 => ?_
   refine MV.lift1 (i := 9) rfl (fun _ z => z) (V.fa h27 rfl Paf.fo68_1) rfl rfl rfl [] (by kernel_rfl) fun x43_24 h28 => ?_
   refine MV.lift1 (i := 10) rfl (fun _ z => z) (V.ld hS h28 rfl Paf.one9) rfl rfl rfl [] (by kernel_rfl) fun x44_25 h29 => ?_
   refine MV.step1 (i := 11) rfl (fun _ z => z) (VAL.assign rfl) rfl rfl rfl [] (by kernel_rfl) ?_
   refine mdn ?_
   refine sr ?_
   refine mv ?_
   refine vy (V.nc h29 rfl) fun x46_26 h30 => ?_
   refine vy (V.fa h30 rfl Paf.fo49_1) fun x47_27 h31 => ?_
   refine vy (V.ld hS h31 rfl Paf.one3) fun x48_28 h32 => ?_
   refine vy (V.add h32 rfl rfl) fun x49_29 h33 => ?_
   refine vy (V.nc h33 rfl) fun x50_30 h34 => ?_
   refine vy (V.fa h34 rfl Paf.fo49_1) fun x51_31 h35 => ?_
   refine LV.st hS h35 rfl rfl rfl Paf.siz3 rfl rfl fun T12 its h36 hS => ?_
   refine dn ?_
   refine sr ?_
   refine mv ?_
   refine mv ?_
   refine LV.call hS h36 (g84_ok _ _ _ _ ) hP rfl rfl rfl rfl fun x54_32 T13 n13 h37 ρ its hS => ?_
   refine mv ?_
   refine mv ?_
   refine mv ?_
   refine LV.call hS h37 (hI _ _ _ _ _) hP rfl rfl rfl rfl fun x58_33 T14 n14 h38 ρ its hS => ?_
   refine LV.bslice hS h38 rfl rfl Paf.el29 rfl rfl rfl rfl fun x59_34 T15 n15 h39 ρ its hS hdr => ?_
   refine LV.call hS h39 (g26_ok _ _ _ _ _ _ _ _ ) hP rfl rfl rfl rfl fun x60_35 T16 n16 h40 ρ its hS => ?_
   refine as_ ?_
   refine dn ?_
   refine CV.ret ?_
   refine PV.blockR ?_
   refine PV.thenR ?_
   cases h40
   exact PV.ret (by simp) Tryd.results90 hS (RS.tmp rfl RS.nil) rfl
  ·
   clear h6 h18 h19
   subst e
   refine CV.skip ?_
   refine PV.blockN ?_
   refine PV.thenN ?_
   refine sr ?_
   refine mv ?_
   refine as_ ?_
   refine dn ?_
   refine CV.ret ?_
   cases h20
   exact PV.ret (by simp) Tryd.results90 hS (RS.tmp rfl RS.nil) rfl
noncomputable def g91_b1 (ih : FuncId → List HT → List AV → HT → Nat → R) (ro : List HT) (lp1 : AV → AV → AV → AV → HT → Nat → R) (y0 y2 y3 y4 : AV) (T7 : HT) (n7 : Nat) : R :=
 callK (g21 ro y0 T7 n7) fun x54_41 T8 n8 =>
 eqK Tryd.prog 3 (.tmp 54) (.const (.int .i64 (.ofNat 3))) 910063 x54_41 (.lit (.int .i64 (.ofNat 3))) fun x55_42 =>
 condK 910064 x55_42
 (
  ncK 910067 y0 fun x58_43 =>
  faK 910068 x58_43 0 fun x59_44 =>
  ldK 910069 T8 ro x59_44 fun x60_45 =>
  ncK 910071 y0 fun x62_46 =>
  faK 910072 x62_46 1 fun x63_47 =>
  ldK 910073 T8 ro x63_47 fun x64_48 =>
  iaK 910074 x60_45 x64_48 3 fun x65_49 =>
  faK 910075 x65_49 1 fun x66_50 =>
  ldK 910076 T8 ro x66_50 fun x67_51 =>
  addSK Tryd.prog 9 (.tmp 56) (.tmp 67) 910077 y4 x67_51 fun x68_52 =>
  ncK 910080 y0 fun x70_53 =>
  faK 910081 x70_53 1 fun x71_54 =>
  ldK 910082 T8 ro x71_54 fun x72_55 =>
  addK Tryd.prog 3 (.tmp 72) (.const (.int .i64 (.ofNat 1))) 910083 x72_55 (.lit (.int .i64 (.ofNat 1))) fun x73_56 =>
  ncK 910084 y0 fun x74_57 =>
  faK 910085 x74_57 1 fun x75_58 =>
  stK 910086 T8 x75_58 x73_56 fun T9 =>
  lp1 y0 y2 y3 x68_52 T9 n8
 )
 (
  faK 910088 y3 2 fun x77_59 =>
  ldK 910089 T8 ro x77_59 fun x78_60 =>
  callK (g26 ro y0 (.lit (.int .i64 (.ofNat 5))) x78_60 y4 (.lit (.slice none 0 0)) T8 n8) fun x80_61 T10 n10 =>
  .ok (.val x80_61) T10 n10
 )
noncomputable def g91 (ih : FuncId → List HT → List AV → HT → Nat → R) (ro : List HT) (a0 : AV) (T : HT) (nx : Nat) : R :=
 ncK 910003 a0 fun x6_1 =>
 faK 910004 x6_1 0 fun x7_2 =>
 ldK 910005 T ro x7_2 fun x8_3 =>
 ncK 910007 a0 fun x10_4 =>
 faK 910008 x10_4 1 fun x11_5 =>
 ldK 910009 T ro x11_5 fun x12_6 =>
 iaK 910010 x8_3 x12_6 3 fun x13_7 =>
 ldAK 910011 T ro x13_7 3 fun x14_8 =>
 newK T nx (.obj [.lit (.int .i64 0), .lit (.string ⟨#[]⟩), .lit (.int .i64 0)] 68) fun x3_9 T1 n1 =>
 stAK 910013 T1 x3_9 x14_8 3 fun T2 =>
 faK 910014 x3_9 0 fun x16_10 =>
 ldK 910015 T2 ro x16_10 fun x17_11 =>
 eqK Tryd.prog 3 (.tmp 17) (.const (.int .i64 (.ofNat 1))) 910016 x17_11 (.lit (.int .i64 (.ofNat 1))) fun x18_12 =>
 condK 910018 x18_12
 (
  ncK 910020 a0 fun x20_13 =>
  faK 910021 x20_13 1 fun x21_14 =>
  ldK 910022 T2 ro x21_14 fun x22_15 =>
  addK Tryd.prog 3 (.tmp 22) (.const (.int .i64 (.ofNat 1))) 910023 x22_15 (.lit (.int .i64 (.ofNat 1))) fun x23_16 =>
  ncK 910024 a0 fun x24_17 =>
  faK 910025 x24_17 1 fun x25_18 =>
  stK 910026 T2 x25_18 x23_16 fun T3 =>
  faK 910028 x3_9 2 fun x27_19 =>
  ldK 910029 T3 ro x27_19 fun x28_20 =>
  faK 910030 x3_9 1 fun x29_21 =>
  ldK 910031 T3 ro x29_21 fun x30_22 =>
  callK (g26 ro a0 (.lit (.int .i64 (.ofNat 6))) x28_20 x30_22 (.lit (.slice none 0 0)) T3 n1) fun x31_23 T4 n4 =>
  .ok (.val x31_23) T4 n4
 )
 (
  faK 910034 x3_9 0 fun x33_24 =>
  ldK 910035 T2 ro x33_24 fun x34_25 =>
  eqK Tryd.prog 3 (.tmp 34) (.const (.int .i64 (.ofNat 2))) 910036 x34_25 (.lit (.int .i64 (.ofNat 2))) fun x35_26 =>
  condK 910038 x35_26
  (
   ncK 910040 a0 fun x37_27 =>
   faK 910041 x37_27 1 fun x38_28 =>
   ldK 910042 T2 ro x38_28 fun x39_29 =>
   addK Tryd.prog 3 (.tmp 39) (.const (.int .i64 (.ofNat 1))) 910043 x39_29 (.lit (.int .i64 (.ofNat 1))) fun x40_30 =>
   ncK 910044 a0 fun x41_31 =>
   faK 910045 x41_31 1 fun x42_32 =>
   stK 910046 T2 x42_32 x40_30 fun T5 =>
   faK 910048 x3_9 2 fun x44_33 =>
   ldK 910049 T5 ro x44_33 fun x45_34 =>
   faK 910050 x3_9 1 fun x46_35 =>
   ldK 910051 T5 ro x46_35 fun x47_36 =>
   callK (g26 ro a0 (.lit (.int .i64 (.ofNat 4))) x45_34 x47_36 (.lit (.slice none 0 0)) T5 n1) fun x48_37 T6 n6 =>
   .ok (.val x48_37) T6 n6
  )
  (
   faK 910054 x3_9 0 fun x50_38 =>
   ldK 910055 T2 ro x50_38 fun x51_39 =>
   eqK Tryd.prog 3 (.tmp 51) (.const (.int .i64 (.ofNat 3))) 910056 x51_39 (.lit (.int .i64 (.ofNat 3))) fun x52_40 =>
   condK 910058 x52_40
   (
    lpf4 910060 (g91_b1 ih ro) 100000 a0 (.lit (.int .i64 (.ofNat 0))) x3_9 (.lit (.string ⟨⟨[]⟩⟩)) T2 n1
   )
   (
    callK (g43 ro a0 (.lit (.string ⟨⟨[78, 111, 110, 101]⟩⟩)) T2 n1) fun x83_62 T11 n11 =>
    condK 910096 x83_62
    (
     faK 910098 x3_9 2 fun x85_63 =>
     ldK 910099 T11 ro x85_63 fun x86_64 =>
     callK (g26 ro a0 (.lit (.int .i64 (.ofNat 1))) x86_64 (.lit (.string ⟨⟨[]⟩⟩)) (.lit (.slice none 0 0)) T11 n11) fun x87_65 T12 n12 =>
     .ok (.val x87_65) T12 n12
    )
    (
     callK (g43 ro a0 (.lit (.string ⟨⟨[84, 114, 117, 101]⟩⟩)) T11 n11) fun x90_66 T13 n13 =>
     condK 910105 x90_66
     (
      faK 910107 x3_9 2 fun x92_67 =>
      ldK 910108 T13 ro x92_67 fun x93_68 =>
      callK (g26 ro a0 (.lit (.int .i64 (.ofNat 2))) x93_68 (.lit (.string ⟨⟨[]⟩⟩)) (.lit (.slice none 0 0)) T13 n13) fun x94_69 T14 n14 =>
      .ok (.val x94_69) T14 n14
     )
     (
      callK (g43 ro a0 (.lit (.string ⟨⟨[70, 97, 108, 115, 101]⟩⟩)) T13 n13) fun x97_70 T15 n15 =>
      condK 910114 x97_70
      (
       faK 910116 x3_9 2 fun x99_71 =>
       ldK 910117 T15 ro x99_71 fun x100_72 =>
       callK (g26 ro a0 (.lit (.int .i64 (.ofNat 3))) x100_72 (.lit (.string ⟨⟨[]⟩⟩)) (.lit (.slice none 0 0)) T15 n15) fun x101_73 T16 n16 =>
       .ok (.val x101_73) T16 n16
      )
      (
       bsK 910121 T15 n15 1 9 1 [(0, (.lit (.string ⟨⟨[40]⟩⟩)))] fun x104_74 T17 n17 =>
       callK (g35 ro a0 x104_74 T17 n17) fun x105_75 T18 n18 =>
       condK 910124 x105_75
       (
        callK (ih 95 ro [a0] T18 n18) fun x107_76 T19 n19 =>
        .ok (.val x107_76) T19 n19
       )
       (
        bsK 910129 T18 n18 1 9 1 [(0, (.lit (.string ⟨⟨[91]⟩⟩)))] fun x110_77 T20 n20 =>
        callK (g35 ro a0 x110_77 T20 n20) fun x111_78 T21 n21 =>
        condK 910132 x111_78
        (
         callK (ih 96 ro [a0] T21 n21) fun x113_79 T22 n22 =>
         .ok (.val x113_79) T22 n22
        )
        (
         bsK 910137 T21 n21 1 9 1 [(0, (.lit (.string ⟨⟨[123]⟩⟩)))] fun x116_80 T23 n23 =>
         callK (g35 ro a0 x116_80 T23 n23) fun x117_81 T24 n24 =>
         condK 910140 x117_81
         (
          callK (ih 97 ro [a0] T24 n24) fun x119_82 T25 n25 =>
          .ok (.val x119_82) T25 n25
         )
         (
          callK (g30 ro a0 T24 n24) fun x121_83 T26 n26 =>
          .ok (.val (.lit (.int .i64 (.ofNat 0)))) T26 n26
         )
        )
       )
      )
     )
    )
   )
  )
 )
theorem g91_ok (ih : FuncId → List HT → List AV → HT → Nat → R) (hI : ∀ f ro args T nx, GOk Tryd.prog envE f args ro T nx (ih f ro args T nx)) (ro : List HT) (a0 : AV) (T : HT) (nx : Nat) : GOk Tryd.prog envE 91 [a0] ro T nx (g91 ih ro a0 T nx) := by
 refine GOk.of_body Tryd.func91 rfl Tryd.ntmps91 (by kernel_rfl) rfl fun r T' n' h1 w0 base ρ0 its hS hP => ?_
 have X : CtxW envE ρ0 ro r T' n' := trivial
 unfold g91 at h1
 refine sr ?_
 refine as_ ?_
 refine dn ?_
 refine CV.seq ?_
 refine CV.regionM [(0, .anywhere), (1, .anywhere), (2, .anywhere), (3, .held), (4, .anywhere), (5, .anywhere), (6, .anywhere), (7, .held), (8, .held), (9, .held), (10, .alone), (11, .alone)] rfl (fun c a a' w hd hq => PanicOk.root (P := Tryd.prog) (fn := Tryd.f91) (w0 := w0) (base := base) (E := envE) (ro := ro) (r := r) (T' := T') (n' := n') (ρ0 := ρ0) c a a' w hd hq) (by kernel_rfl) ?_
 refine MV.step0 (i := 0) rfl (VAL.move rfl) rfl rfl rfl ?_
 refine MV.lift0 (i := 1) rfl (V.nc h1 rfl) rfl rfl rfl fun x6_1 h2 => ?_
 refine MV.lift0 (i := 2) rfl (V.fa h2 rfl Paf.fo49_0) rfl rfl rfl fun x7_2 h3 => ?_
 refine MV.lift1 (i := 3) rfl (fun _ z => z) (V.ld hS h3 rfl Paf.one47) rfl rfl rfl [] (by kernel_rfl) fun x8_3 h4 => ?_
 refine MV.step0 (i := 4) rfl (VAL.move rfl) rfl rfl rfl ?_
 refine MV.lift0 (i := 5) rfl (V.nc h4 rfl) rfl rfl rfl fun x10_4 h5 => ?_
 refine MV.lift0 (i := 6) rfl (V.fa h5 rfl Paf.fo49_1) rfl rfl rfl fun x11_5 h6 => ?_
 refine MV.lift1 (i := 7) rfl (fun _ z => z) (V.ld hS h6 rfl Paf.one3) rfl rfl rfl [3] (by kernel_rfl) fun x12_6 h7 => ?_
 refine MV.lift1 (i := 8) rfl (fun _ z => z) (V.ia h7 rfl rfl Paf.el47) rfl rfl rfl [] (by kernel_rfl) fun x13_7 h8 => ?_
 refine MV.lift1 (i := 9) rfl (fun _ z => z) (V.ldA hS h8 rfl Paf.agg68) rfl rfl rfl [] (by kernel_rfl) fun x14_8 h9 => ?_
 refine MV.force (i := 10) rfl ?_
 refine LV.alloc hS h9 rfl Paf.zr68 rfl rfl rfl fun x3_9 T1 n1 h10 ρ its hS hdr => ?_
 refine LV.nextM [9] (by kernel_rfl) (fun _ => hdr) ?_
 refine MV.force (i := 11) rfl ?_
 refine LV.stA hS h10 rfl rfl rfl Paf.agg68 rfl rfl rfl fun T2 its h11 hS => ?_
 refine LV.nextM [] (by kernel_rfl) (fun z => absurd rfl z) ?_
 refine mdn ?_
 refine CV.seq ?_
 refine CV.block ?_
 refine sr ?_
 refine vy (V.fa h11 rfl Paf.fo68_0) fun x16_10 h12 => ?_
 refine vy (V.ld hS h12 rfl Paf.one3) fun x17_11 h13 => ?_
 refine vy (V.eq h13 rfl rfl) fun x18_12 h14 => ?_
 refine as_ ?_
 refine dn ?_
 refine CV.cond h14 rfl (fun e h15 => ?_) (fun e h15 => ?_)
 ·
  clear h1 h2 h3 h4 h5 h6 h7 h8 h9 h10 h11 h12 h13 h14
  subst e
  refine sr ?_
  refine mv ?_
  refine vy (V.nc h15 rfl) fun x20_13 h16 => ?_
  refine vy (V.fa h16 rfl Paf.fo49_1) fun x21_14 h17 => ?_
  refine vy (V.ld hS h17 rfl Paf.one3) fun x22_15 h18 => ?_
  refine vy (V.add h18 rfl rfl) fun x23_16 h19 => ?_
  refine vy (V.nc h19 rfl) fun x24_17 h20 => ?_
  refine vy (V.fa h20 rfl Paf.fo49_1) fun x25_18 h21 => ?_
  refine LV.st hS h21 rfl rfl rfl Paf.siz3 rfl rfl fun T3 its h22 hS => ?_
  refine dn ?_
  refine sr ?_
  refine mv ?_
  refine vy (V.fa h22 rfl Paf.fo68_2) fun x27_19 h23 => ?_
  refine vy (V.ld hS h23 rfl Paf.one3) fun x28_20 h24 => ?_
  refine vy (V.fa h24 rfl Paf.fo68_1) fun x29_21 h25 => ?_
  refine vy (V.ld hS h25 rfl Paf.one9) fun x30_22 h26 => ?_
  refine LV.call hS h26 (g26_ok _ _ _ _ _ _ _ _ ) hP rfl rfl rfl rfl fun x31_23 T4 n4 h27 ρ its hS => ?_
  refine as_ ?_
  refine dn ?_
  refine CV.ret ?_
  refine PV.blockR ?_
  refine PV.thenR ?_
  cases h27
  exact PV.ret (by simp) Tryd.results91 hS (RS.tmp rfl RS.nil) rfl
 ·
  clear h1 h2 h3 h4 h5 h6 h7 h8 h9 h10 h11 h12 h13 h14
  subst e
  refine sr ?_
  refine vy (V.fa h15 rfl Paf.fo68_0) fun x33_24 h28 => ?_
  refine vy (V.ld hS h28 rfl Paf.one3) fun x34_25 h29 => ?_
  refine vy (V.eq h29 rfl rfl) fun x35_26 h30 => ?_
  refine as_ ?_
  refine dn ?_
  refine CV.cond h30 rfl (fun e h31 => ?_) (fun e h31 => ?_)
  ·
   clear h15 h28 h29 h30
   subst e
   refine sr ?_
   refine mv ?_
   refine vy (V.nc h31 rfl) fun x37_27 h32 => ?_
   refine vy (V.fa h32 rfl Paf.fo49_1) fun x38_28 h33 => ?_
   refine vy (V.ld hS h33 rfl Paf.one3) fun x39_29 h34 => ?_
   refine vy (V.add h34 rfl rfl) fun x40_30 h35 => ?_
   refine vy (V.nc h35 rfl) fun x41_31 h36 => ?_
   refine vy (V.fa h36 rfl Paf.fo49_1) fun x42_32 h37 => ?_
   refine LV.st hS h37 rfl rfl rfl Paf.siz3 rfl rfl fun T5 its h38 hS => ?_
   refine dn ?_
   refine sr ?_
   refine mv ?_
   refine vy (V.fa h38 rfl Paf.fo68_2) fun x44_33 h39 => ?_
   refine vy (V.ld hS h39 rfl Paf.one3) fun x45_34 h40 => ?_
   refine vy (V.fa h40 rfl Paf.fo68_1) fun x46_35 h41 => ?_
   refine vy (V.ld hS h41 rfl Paf.one9) fun x47_36 h42 => ?_
   refine LV.call hS h42 (g26_ok _ _ _ _ _ _ _ _ ) hP rfl rfl rfl rfl fun x48_37 T6 n6 h43 ρ its hS => ?_
   refine as_ ?_
   refine dn ?_
   refine CV.ret ?_
   refine PV.blockR ?_
   refine PV.thenR ?_
   cases h43
   exact PV.ret (by simp) Tryd.results91 hS (RS.tmp rfl RS.nil) rfl
  ·
   clear h15 h28 h29 h30
   subst e
   refine sr ?_
   refine vy (V.fa h31 rfl Paf.fo68_0) fun x50_38 h44 => ?_
   refine vy (V.ld hS h44 rfl Paf.one3) fun x51_39 h45 => ?_
   refine vy (V.eq h45 rfl rfl) fun x52_40 h46 => ?_
   refine as_ ?_
   refine dn ?_
   refine CV.cond h46 rfl (fun e h47 => ?_) (fun e h47 => ?_)
   ·
    clear h31 h44 h45 h46
    subst e
    refine sr ?_
    refine as_ ?_
    refine dn ?_
    refine CV.seq ?_
    refine CV.block ?_
    refine cl4 X 0 2 3 4 [] hS h47 ⟨rfl, rfl, rfl, rfl, trivial⟩ ?_
    intro f1 y0 y2 y3 y4 T7 n7 ρ its hS h48
    unfold g91_b1 at h48
    clear h47
    refine CV.seq ?_
    refine sr ?_
    refine mv ?_
    refine LV.call hS h48 (g21_ok _ _ _ _ ) hP rfl rfl rfl rfl fun x54_41 T8 n8 h49 ρ its hS => ?_
    refine vy (V.eq h49 rfl rfl) fun x55_42 h50 => ?_
    refine dn ?_
    refine CV.cond h50 rfl (fun e h51 => ?_) (fun e h51 => ?_)
    ·
     clear h48 h49 h50
     subst e
     refine CV.skip ?_
     refine PV.thenN ?_
     refine CV.block ?_
     refine CV.seq ?_
     refine CV.regionM [(0, .anywhere), (1, .anywhere), (2, .anywhere), (3, .anywhere), (4, .held), (5, .anywhere), (6, .anywhere), (7, .anywhere), (8, .held), (9, .held), (10, .held), (11, .held), (12, .held), (13, .held)] rfl (fun c a a' w hd hq => PanicOk.root (P := Tryd.prog) (fn := Tryd.f91) (w0 := w0) (base := base) (E := envE) (ro := ro) (r := r) (T' := T') (n' := n') (ρ0 := ρ0) c a a' w hd hq) (by kernel_rfl) ?_
     refine MV.step0 (i := 0) rfl (VAL.move rfl) rfl rfl rfl ?_
     refine MV.step0 (i := 1) rfl (VAL.move rfl) rfl rfl rfl ?_
     refine MV.lift0 (i := 2) rfl (V.nc h51 rfl) rfl rfl rfl fun x58_43 h52 => ?_
     refine MV.lift0 (i := 3) rfl (V.fa h52 rfl Paf.fo49_0) rfl rfl rfl fun x59_44 h53 => ?_
     refine MV.lift1 (i := 4) rfl (fun _ z => z) (V.ld hS h53 rfl Paf.one47) rfl rfl rfl [] (by kernel_rfl) fun x60_45 h54 => ?_
     refine MV.step0 (i := 5) rfl (VAL.move rfl) rfl rfl rfl ?_
     refine MV.lift0 (i := 6) rfl (V.nc h54 rfl) rfl rfl rfl fun x62_46 h55 => ?_
     refine MV.lift0 (i := 7) rfl (V.fa h55 rfl Paf.fo49_1) rfl rfl rfl fun x63_47 h56 => ?_
     refine MV.lift1 (i := 8) rfl (fun _ z => z) (V.ld hS h56 rfl Paf.one3) rfl rfl rfl [4] (by kernel_rfl) fun x64_48 h57 => ?_
     refine MV.lift1 (i := 9) rfl (fun _ z => z) (V.ia h57 rfl rfl Paf.el47) rfl rfl rfl [] (by kernel_rfl) fun x65_49 h58 => ?_
     refine MV.lift1 (i := 10) rfl (fun _ z => z) (V.fa h58 rfl Paf.fo68_1) rfl rfl rfl [] (by kernel_rfl) fun x66_50 h59 => ?_
     refine MV.lift1 (i := 11) rfl (fun _ z => z) (V.ld hS h59 rfl Paf.one9) rfl rfl rfl [] (by kernel_rfl) fun x67_51 h60 => ?_
     refine MV.lift1 (i := 12) rfl (fun _ z => z) (V.addS h60 rfl rfl) rfl rfl rfl [] (by kernel_rfl) fun x68_52 h61 => ?_
     refine MV.step1 (i := 13) rfl (fun _ z => z) (VAL.assign rfl) rfl rfl rfl [] (by kernel_rfl) ?_
     refine mdn ?_
     refine CV.region ?_
     refine mv ?_
     refine vy (V.nc h61 rfl) fun x70_53 h62 => ?_
     refine vy (V.fa h62 rfl Paf.fo49_1) fun x71_54 h63 => ?_
     refine vy (V.ld hS h63 rfl Paf.one3) fun x72_55 h64 => ?_
     refine vy (V.add h64 rfl rfl) fun x73_56 h65 => ?_
     refine vy (V.nc h65 rfl) fun x74_57 h66 => ?_
     refine vy (V.fa h66 rfl Paf.fo49_1) fun x75_58 h67 => ?_
     refine LV.st hS h67 rfl rfl rfl Paf.siz3 rfl rfl fun T9 its h68 hS => ?_
     refine LV.done ?_
     refine PV.blockN ?_
     exact pb4 hS h68 ⟨rfl, rfl, rfl, rfl, trivial⟩
    ·
     clear h48 h49 h50
     subst e
     refine CV.exit ?_
     refine PV.thenE ?_
     refine PV.thenE ?_
     refine PV.blockE ?_
     refine PV.thenN ?_
     refine sr ?_
     refine mv ?_
     refine vy (V.fa h51 rfl Paf.fo68_2) fun x77_59 h69 => ?_
     refine vy (V.ld hS h69 rfl Paf.one3) fun x78_60 h70 => ?_
     refine mv ?_
     refine LV.call hS h70 (g26_ok _ _ _ _ _ _ _ _ ) hP rfl rfl rfl rfl fun x80_61 T10 n10 h71 ρ its hS => ?_
     refine as_ ?_
     refine dn ?_
     refine CV.ret ?_
     refine PV.blockR ?_
     refine PV.thenR ?_
     cases h71
     exact PV.ret (by simp) Tryd.results91 hS (RS.tmp rfl RS.nil) rfl
   ·
    clear h31 h44 h45 h46
    subst e
    refine sr ?_
    refine mv ?_
    refine LV.call hS h47 (g43_ok _ _ _ _ _ ) hP rfl rfl rfl rfl fun x83_62 T11 n11 h72 ρ its hS => ?_
    refine as_ ?_
    refine dn ?_
    refine CV.cond h72 rfl (fun e h73 => ?_) (fun e h73 => ?_)
    ·
     clear h47 h72
     subst e
     refine sr ?_
     refine mv ?_
     refine vy (V.fa h73 rfl Paf.fo68_2) fun x85_63 h74 => ?_
     refine vy (V.ld hS h74 rfl Paf.one3) fun x86_64 h75 => ?_
     refine LV.call hS h75 (g26_ok _ _ _ _ _ _ _ _ ) hP rfl rfl rfl rfl fun x87_65 T12 n12 h76 ρ its hS => ?_
     refine as_ ?_
     refine dn ?_
     refine CV.ret ?_
     refine PV.blockR ?_
     refine PV.thenR ?_
     cases h76
     exact PV.ret (by simp) Tryd.results91 hS (RS.tmp rfl RS.nil) rfl
    ·
     clear h47 h72
     subst e
     refine sr ?_
     refine mv ?_
     refine LV.call hS h73 (g43_ok _ _ _ _ _ ) hP rfl rfl rfl rfl fun x90_66 T13 n13 h77 ρ its hS => ?_
     refine as_ ?_
     refine dn ?_
     refine CV.cond h77 rfl (fun e h78 => ?_) (fun e h78 => ?_)
     ·
      clear h73 h77
      subst e
      refine sr ?_
      refine mv ?_
      refine vy (V.fa h78 rfl Paf.fo68_2) fun x92_67 h79 => ?_
      refine vy (V.ld hS h79 rfl Paf.one3) fun x93_68 h80 => ?_
      refine LV.call hS h80 (g26_ok _ _ _ _ _ _ _ _ ) hP rfl rfl rfl rfl fun x94_69 T14 n14 h81 ρ its hS => ?_
      refine as_ ?_
      refine dn ?_
      refine CV.ret ?_
      refine PV.blockR ?_
      refine PV.thenR ?_
      cases h81
      exact PV.ret (by simp) Tryd.results91 hS (RS.tmp rfl RS.nil) rfl
     ·
      clear h73 h77
      subst e
      refine sr ?_
      refine mv ?_
      refine LV.call hS h78 (g43_ok _ _ _ _ _ ) hP rfl rfl rfl rfl fun x97_70 T15 n15 h82 ρ its hS => ?_
      refine as_ ?_
      refine dn ?_
      refine CV.cond h82 rfl (fun e h83 => ?_) (fun e h83 => ?_)
      ·
       clear h78 h82
       subst e
       refine sr ?_
       refine mv ?_
       refine vy (V.fa h83 rfl Paf.fo68_2) fun x99_71 h84 => ?_
       refine vy (V.ld hS h84 rfl Paf.one3) fun x100_72 h85 => ?_
       refine LV.call hS h85 (g26_ok _ _ _ _ _ _ _ _ ) hP rfl rfl rfl rfl fun x101_73 T16 n16 h86 ρ its hS => ?_
       refine as_ ?_
       refine dn ?_
       refine CV.ret ?_
       refine PV.blockR ?_
       refine PV.thenR ?_
       cases h86
       exact PV.ret (by simp) Tryd.results91 hS (RS.tmp rfl RS.nil) rfl
      ·
       clear h78 h82
       subst e
       refine sr ?_
       refine mv ?_
       refine LV.bslice hS h83 rfl rfl Paf.el33 rfl rfl rfl rfl fun x104_74 T17 n17 h87 ρ its hS hdr => ?_
       refine LV.call hS h87 (g35_ok _ _ _ _ _ ) hP rfl rfl rfl rfl fun x105_75 T18 n18 h88 ρ its hS => ?_
       refine as_ ?_
       refine dn ?_
       refine CV.cond h88 rfl (fun e h89 => ?_) (fun e h89 => ?_)
       ·
        clear h83 h87 h88
        subst e
        refine sr ?_
        refine mv ?_
        refine LV.call hS h89 (hI _ _ _ _ _) hP rfl rfl rfl rfl fun x107_76 T19 n19 h90 ρ its hS => ?_
        refine as_ ?_
        refine dn ?_
        refine CV.ret ?_
        refine PV.blockR ?_
        refine PV.thenR ?_
        cases h90
        exact PV.ret (by simp) Tryd.results91 hS (RS.tmp rfl RS.nil) rfl
       ·
        clear h83 h87 h88
        subst e
        refine sr ?_
        refine mv ?_
        refine LV.bslice hS h89 rfl rfl Paf.el33 rfl rfl rfl rfl fun x110_77 T20 n20 h91 ρ its hS hdr => ?_
        refine LV.call hS h91 (g35_ok _ _ _ _ _ ) hP rfl rfl rfl rfl fun x111_78 T21 n21 h92 ρ its hS => ?_
        refine as_ ?_
        refine dn ?_
        refine CV.cond h92 rfl (fun e h93 => ?_) (fun e h93 => ?_)
        ·
         clear h89 h91 h92
         subst e
         refine sr ?_
         refine mv ?_
         refine LV.call hS h93 (hI _ _ _ _ _) hP rfl rfl rfl rfl fun x113_79 T22 n22 h94 ρ its hS => ?_
         refine as_ ?_
         refine dn ?_
         refine CV.ret ?_
         refine PV.blockR ?_
         refine PV.thenR ?_
         cases h94
         exact PV.ret (by simp) Tryd.results91 hS (RS.tmp rfl RS.nil) rfl
        ·
         clear h89 h91 h92
         subst e
         refine sr ?_
         refine mv ?_
         refine LV.bslice hS h93 rfl rfl Paf.el33 rfl rfl rfl rfl fun x116_80 T23 n23 h95 ρ its hS hdr => ?_
         refine LV.call hS h95 (g35_ok _ _ _ _ _ ) hP rfl rfl rfl rfl fun x117_81 T24 n24 h96 ρ its hS => ?_
         refine as_ ?_
         refine dn ?_
         refine CV.cond h96 rfl (fun e h97 => ?_) (fun e h97 => ?_)
         ·
          clear h93 h95 h96
          subst e
          refine sr ?_
          refine mv ?_
          refine LV.call hS h97 (hI _ _ _ _ _) hP rfl rfl rfl rfl fun x119_82 T25 n25 h98 ρ its hS => ?_
          refine as_ ?_
          refine dn ?_
          refine CV.ret ?_
          refine PV.blockR ?_
          refine PV.thenR ?_
          cases h98
          exact PV.ret (by simp) Tryd.results91 hS (RS.tmp rfl RS.nil) rfl
         ·
          clear h93 h95 h96
          subst e
          refine CV.skip ?_
          refine PV.blockN ?_
          refine PV.thenN ?_
          refine sr ?_
          refine mv ?_
          refine LV.call hS h97 (g30_ok _ _ _ _ ) hP rfl rfl rfl rfl fun x121_83 T26 n26 h99 ρ its hS => ?_
          refine dn ?_
          refine sr ?_
          refine as_ ?_
          refine dn ?_
          refine CV.ret ?_
          cases h99
          exact PV.ret (by simp) Tryd.results91 hS (RS.tmp rfl RS.nil) rfl
noncomputable def g92_k1 (ih : FuncId → List HT → List AV → HT → Nat → R) (ro : List HT) (y0 y4 y5 y6 : AV) (T4 : HT) (n4 : Nat) : R :=
 callK (g57 ro y0 (.lit (.string ⟨⟨[41]⟩⟩)) T4 n4) fun x81_4 T5 n5 =>
 ncK 920015 y0 fun x83_5 =>
 faK 920016 x83_5 3 fun x84_6 =>
 ldK 920017 T5 ro x84_6 fun x85_7 =>
 subK Tryd.prog 3 (.tmp 85) (.const (.int .i64 (.ofNat 1))) 920018 x85_7 (.lit (.int .i64 (.ofNat 1))) fun x86_8 =>
 ncK 920019 y0 fun x87_9 =>
 faK 920020 x87_9 3 fun x88_10 =>
 stK 920021 T5 x88_10 x86_8 fun T6 =>
 callK (g26 ro y0 (.lit (.int .i64 (.ofNat 10))) y5 (.lit (.string ⟨⟨[]⟩⟩)) y6 T6 n5) fun x92_11 T7 n7 =>
 .ok (.val x92_11) T7 n7
noncomputable def g92_k3 (ih : FuncId → List HT → List AV → HT → Nat → R) (ro : List HT) (lp2 : AV → AV → AV → AV → AV → HT → Nat → R) (y0 y4 y5 y6 y7 : AV) (T12 : HT) (n12 : Nat) : R :=
 callK (g43 ro y0 (.lit (.string ⟨⟨[44]⟩⟩)) T12 n12) fun x78_16 T13 n13 =>
 notK 920038 x78_16 fun x79_17 =>
 condK 920039 x79_17
 (
  g92_k1 ih ro y0 y4 y5 y6 T13 n13
 )
 (
  lp2 y0 y4 y5 y6 y7 T13 n13
 )
noncomputable def g92_k5 (ih : FuncId → List HT → List AV → HT → Nat → R) (ro : List HT) (lp2 : AV → AV → AV → AV → AV → HT → Nat → R) (y0 y4 y5 y6 y7 y8 : AV) (T16 : HT) (n16 : Nat) : R :=
 callK (g22 ro y0 (.lit (.int .i64 (.ofNat 1))) T16 n16) fun x48_20 T17 n17 =>
 exK 920048 x48_20 0 fun x49_21 =>
 exK 920049 x48_20 1 fun x50_22 =>
 callK (g57 ro y0 (.lit (.string ⟨⟨[61]⟩⟩)) T17 n17) fun x52_23 T18 n18 =>
 bsK 920056 T18 n18 1 9 1 [(0, x49_21)] fun x55_24 T19 n19 =>
 appK 920057 T19 ro n19 9 1 16 y7 x55_24 fun x56_25 T20 n20 =>
 callK (ih 42 ro [y0] T20 n20) fun x62_26 T21 n21 =>
 bsK 920065 T21 n21 1 3 1 [(0, x62_26)] fun x63_27 T22 n22 =>
 callK (g26 ro y0 (.lit (.int .i64 (.ofNat 11))) y8 x49_21 x63_27 T22 n22) fun x64_28 T23 n23 =>
 bsK 920067 T23 n23 1 3 1 [(0, x64_28)] fun x65_29 T24 n24 =>
 appK 920068 T24 ro n24 3 1 8 y6 x65_29 fun x66_30 T25 n25 =>
 g92_k3 ih ro lp2 y0 y4 y5 x66_30 x56_25 T25 n25
noncomputable def g92_k6 (ih : FuncId → List HT → List AV → HT → Nat → R) (ro : List HT) (lp2 : AV → AV → AV → AV → AV → HT → Nat → R) (y0 y4 y5 y6 y7 : AV) (T28 : HT) (n28 : Nat) : R :=
 callK (ih 42 ro [y0] T28 n28) fun x74_42 T29 n29 =>
 bsK 920089 T29 n29 1 3 1 [(0, x74_42)] fun x75_43 T30 n30 =>
 appK 920090 T30 ro n30 3 1 8 y6 x75_43 fun x76_44 T31 n31 =>
 g92_k3 ih ro lp2 y0 y4 y5 x76_44 y7 T31 n31
noncomputable def g92_k4 (ih : FuncId → List HT → List AV → HT → Nat → R) (ro : List HT) (lp2 : AV → AV → AV → AV → AV → HT → Nat → R) (y0 y4 y5 y6 y7 y8 y30 : AV) (T15 : HT) (n15 : Nat) : R :=
 condK 920044 y30
 (
  ncK 920072 y0 fun x33_31 =>
  faK 920073 x33_31 0 fun x34_32 =>
  ldK 920074 T15 ro x34_32 fun x35_33 =>
  ncK 920076 y0 fun x37_34 =>
  faK 920077 x37_34 1 fun x38_35 =>
  ldK 920078 T15 ro x38_35 fun x39_36 =>
  iaK 920079 x35_33 x39_36 3 fun x40_37 =>
  faK 920080 x40_37 1 fun x41_38 =>
  ldK 920081 T15 ro x41_38 fun x42_39 =>
  callK (g54 ro y7 x42_39 T15 n15) fun x43_40 T26 n26 =>
  condK 920083 x43_40
  (
   callK (g30 ro y0 T26 n26) fun x45_41 T27 n27 =>
   g92_k5 ih ro lp2 y0 y4 y5 y6 y7 y8 T27 n27
  )
  (
   g92_k5 ih ro lp2 y0 y4 y5 y6 y7 y8 T26 n26
  )
 )
 (
  lenSK 920093 y7 fun x68_45 =>
  gtK Tryd.prog 3 (.tmp 68) (.const (.int .i64 (.ofNat 0))) 920094 x68_45 (.lit (.int .i64 (.ofNat 0))) fun x69_46 =>
  condK 920095 x69_46
  (
   callK (g30 ro y0 T15 n15) fun x71_47 T32 n32 =>
   g92_k6 ih ro lp2 y0 y4 y5 y6 y7 T32 n32
  )
  (
   g92_k6 ih ro lp2 y0 y4 y5 y6 y7 T15 n15
  )
 )
noncomputable def g92_b2 (ih : FuncId → List HT → List AV → HT → Nat → R) (ro : List HT) (lp2 : AV → AV → AV → AV → AV → HT → Nat → R) (y0 y4 y5 y6 y7 : AV) (T8 : HT) (n8 : Nat) : R :=
 bsK 920029 T8 n8 1 9 1 [(0, (.lit (.string ⟨⟨[41]⟩⟩)))] fun x19_12 T9 n9 =>
 callK (g35 ro y0 x19_12 T9 n9) fun x20_13 T10 n10 =>
 notK 920031 x20_13 fun x21_14 =>
 condK 920032 x21_14
 (
  callK (g41 ro y0 T10 n10) fun x23_15 T11 n11 =>
  callK (g21 ro y0 T11 n11) fun x25_18 T14 n14 =>
  eqK Tryd.prog 3 (.tmp 25) (.const (.int .i64 (.ofNat 1))) 920042 x25_18 (.lit (.int .i64 (.ofNat 1))) fun x26_19 =>
  condK 920098 x26_19
  (
   callK (g59 ro y0 (.lit (.string ⟨⟨[61]⟩⟩)) T14 n14) fun x29_48 T33 n33 =>
   g92_k4 ih ro lp2 y0 y4 y5 y6 y7 x23_15 x29_48 T33 n33
  )
  (
   g92_k4 ih ro lp2 y0 y4 y5 y6 y7 x23_15 (.lit (.bool false)) T14 n14
  )
 )
 (
  g92_k1 ih ro y0 y4 y5 y6 T10 n10
 )
noncomputable def g92 (ih : FuncId → List HT → List AV → HT → Nat → R) (ro : List HT) (a0 a1 : AV) (T : HT) (nx : Nat) : R :=
 callK (g57 ro a0 (.lit (.string ⟨⟨[40]⟩⟩)) T nx) fun x12_1 T1 n1 =>
 callK (g56 ro a0 x12_1 T1 n1) fun x15_2 T2 n2 =>
 bsK 920009 T2 n2 1 3 1 [(0, a1)] fun x17_3 T3 n3 =>
 lpf5 920027 (g92_b2 ih ro) 100000 a0 (.lit (.int .i64 (.ofNat 0))) x12_1 x17_3 (.lit (.slice none 0 0)) T3 n3
theorem g92_ok (ih : FuncId → List HT → List AV → HT → Nat → R) (hI : ∀ f ro args T nx, GOk Tryd.prog envE f args ro T nx (ih f ro args T nx)) (ro : List HT) (a0 a1 : AV) (T : HT) (nx : Nat) : GOk Tryd.prog envE 92 [a0, a1] ro T nx (g92 ih ro a0 a1 T nx) := by
 refine GOk.of_body Tryd.func92 rfl Tryd.ntmps92 (by kernel_rfl) rfl fun r T' n' h1 w0 base ρ0 its hS hP => ?_
 have X : CtxW envE ρ0 ro r T' n' := trivial
 unfold g92 at h1
 refine sr ?_
 refine as_ ?_
 refine dn ?_
 refine sr ?_
 refine mv ?_
 refine LV.call hS h1 (g57_ok _ _ _ _ _ ) hP rfl rfl rfl rfl fun x12_1 T1 n1 h2 ρ its hS => ?_
 refine as_ ?_
 refine dn ?_
 refine sr ?_
 refine mv ?_
 refine mv ?_
 refine LV.call hS h2 (g56_ok _ _ _ _ _ ) hP rfl rfl rfl rfl fun x15_2 T2 n2 h3 ρ its hS => ?_
 refine dn ?_
 refine sr ?_
 refine mv ?_
 refine LV.bslice hS h3 rfl rfl Paf.el29 rfl rfl rfl rfl fun x17_3 T3 n3 h4 ρ its hS hdr => ?_
 refine as_ ?_
 refine dn ?_
 refine sr ?_
 refine as_ ?_
 refine dn ?_
 refine cs4 X 0 4 5 6 [] (g92_k1 ih ro) ?_ ?_
 ·
  refine CV.block ?_
  refine cl5 X 0 4 5 6 7 [] hS h4 ⟨rfl, rfl, rfl, rfl, rfl, trivial⟩ ?_
  intro f2 y0 y4 y5 y6 y7 T8 n8 ρ its hS h15
  unfold g92_b2 at h15
  clear h1 h2 h3 h4
  refine CV.seq ?_
  refine sr ?_
  refine mv ?_
  refine LV.bslice hS h15 rfl rfl Paf.el33 rfl rfl rfl rfl fun x19_12 T9 n9 h16 ρ its hS hdr => ?_
  refine LV.call hS h16 (g35_ok _ _ _ _ _ ) hP rfl rfl rfl rfl fun x20_13 T10 n10 h17 ρ its hS => ?_
  refine vy (V.not h17 rfl) fun x21_14 h18 => ?_
  refine dn ?_
  refine CV.cond h18 rfl (fun e h19 => ?_) (fun e h19 => ?_)
  ·
   clear h15 h16 h17 h18
   subst e
   refine CV.skip ?_
   refine PV.thenN ?_
   refine CV.block ?_
   refine sr ?_
   refine mv ?_
   refine LV.call hS h19 (g41_ok _ _ _ _ ) hP rfl rfl rfl rfl fun x23_15 T11 n11 h20 ρ its hS => ?_
   refine as_ ?_
   refine dn ?_
   refine cs5 X 0 4 5 6 7 [] (g92_k3 ih ro (lpf5 920027 (g92_b2 ih ro) f2)) ?_ ?_
   ·
    refine sr ?_
    refine mv ?_
    refine LV.call hS h20 (g21_ok _ _ _ _ ) hP rfl rfl rfl rfl fun x25_18 T14 n14 h25 ρ its hS => ?_
    refine vy (V.eq h25 rfl rfl) fun x26_19 h26 => ?_
    refine mv ?_
    refine ls7 X 0 4 5 6 7 8 30 [] (g92_k4 ih ro (lpf5 920027 (g92_b2 ih ro) f2)) 3 ?_ ?_
    ·
     rcases condK_inv h26 with ⟨e, h61⟩ | ⟨e, h61⟩
     ·
      clear h19 h20 h25 h26
      subst e
      refine mv ?_
      refine LV.call hS h61 (g59_ok _ _ _ _ _ ) hP rfl rfl rfl rfl fun x29_48 T33 n33 h62 ρ its hS => ?_
      refine pu ?_
      exact la7 hS h62 ⟨rfl, rfl, rfl, rfl, rfl, rfl, rfl, trivial⟩
     ·
      clear h19 h20 h25 h26
      subst e
      refine sk ?_
      refine sk ?_
      refine pu ?_
      exact la7 hS h61 ⟨rfl, rfl, rfl, rfl, rfl, rfl, rfl, trivial⟩
    ·
     intro y0 y4 y5 y6 y7 y8 y30 T15 n15 ρ its hS h27
     unfold g92_k4 at h27
     clear h19 h20 h25 h26
     refine dn ?_
     refine CV.cond h27 rfl (fun e h28 => ?_) (fun e h28 => ?_)
     ·
      clear h27
      subst e
      refine cs6 X 0 4 5 6 7 8 [] (g92_k5 ih ro (lpf5 920027 (g92_b2 ih ro) f2)) ?_ ?_
      ·
       refine CV.seq ?_
       refine CV.regionM [(0, .anywhere), (1, .anywhere), (2, .anywhere), (3, .anywhere), (4, .held), (5, .anywhere), (6, .anywhere), (7, .anywhere), (8, .held), (9, .held), (10, .held), (11, .held), (12, .alone)] rfl (fun c a a' w hd hq => PanicOk.root (P := Tryd.prog) (fn := Tryd.f92) (w0 := w0) (base := base) (E := envE) (ro := ro) (r := r) (T' := T') (n' := n') (ρ0 := ρ0) c a a' w hd hq) (by kernel_rfl) ?_
       refine MV.step0 (i := 0) rfl (VAL.move rfl) rfl rfl rfl ?_
       refine MV.step0 (i := 1) rfl (VAL.move rfl) rfl rfl rfl ?_
       refine MV.lift0 (i := 2) rfl (V.nc h28 rfl) rfl rfl rfl fun x33_31 h41 => ?_
       refine MV.lift0 (i := 3) rfl (V.fa h41 rfl Paf.fo49_0) rfl rfl rfl fun x34_32 h42 => ?_
       refine MV.lift1 (i := 4) rfl (fun _ z => z) (V.ld hS h42 rfl Paf.one47) rfl rfl rfl [] (by kernel_rfl) fun x35_33 h43 => ?_
       refine MV.step0 (i := 5) rfl (VAL.move rfl) rfl rfl rfl ?_
       refine MV.lift0 (i := 6) rfl (V.nc h43 rfl) rfl rfl rfl fun x37_34 h44 => ?_
       refine MV.lift0 (i := 7) rfl (V.fa h44 rfl Paf.fo49_1) rfl rfl rfl fun x38_35 h45 => ?_
       refine MV.lift1 (i := 8) rfl (fun _ z => z) (V.ld hS h45 rfl Paf.one3) rfl rfl rfl [4] (by kernel_rfl) fun x39_36 h46 => ?_
       refine MV.lift1 (i := 9) rfl (fun _ z => z) (V.ia h46 rfl rfl Paf.el47) rfl rfl rfl [] (by kernel_rfl) fun x40_37 h47 => ?_
       refine MV.lift1 (i := 10) rfl (fun _ z => z) (V.fa h47 rfl Paf.fo68_1) rfl rfl rfl [] (by kernel_rfl) fun x41_38 h48 => ?_
       refine MV.lift1 (i := 11) rfl (fun _ z => z) (V.ld hS h48 rfl Paf.one9) rfl rfl rfl [] (by kernel_rfl) fun x42_39 h49 => ?_
       refine MV.force (i := 12) rfl ?_
       refine LV.call hS h49 (g54_ok _ _ _ _ _ ) hP rfl rfl rfl rfl fun x43_40 T26 n26 h50 ρ its hS => ?_
       refine LV.nextM [] (by kernel_rfl) (fun z => absurd rfl z) ?_
       refine mdn ?_
       refine CV.cond h50 rfl (fun e h51 => ?_) (fun e h51 => ?_)
       ·
        clear h28 h41 h42 h43 h44 h45 h46 h47 h48 h49 h50
        subst e
        refine CV.region ?_
        refine mv ?_
        refine LV.call hS h51 (g30_ok _ _ _ _ ) hP rfl rfl rfl rfl fun x45_41 T27 n27 h52 ρ its hS => ?_
        refine LV.done ?_
        exact pa6 hS h52 ⟨rfl, rfl, rfl, rfl, rfl, rfl, trivial⟩
       ·
        clear h28 h41 h42 h43 h44 h45 h46 h47 h48 h49 h50
        subst e
        refine CV.skip ?_
        exact pa6 hS h51 ⟨rfl, rfl, rfl, rfl, rfl, rfl, trivial⟩
      ·
       intro y0 y4 y5 y6 y7 y8 T16 n16 ρ its hS h29
       unfold g92_k5 at h29
       clear h28
       refine sr ?_
       refine mv ?_
       refine LV.call hS h29 (g22_ok _ _ _ _ _ ) hP rfl rfl rfl rfl fun x48_20 T17 n17 h30 ρ its hS => ?_
       refine mv ?_
       refine vy (V.ex h30 rfl) fun x49_21 h31 => ?_
       refine vy (V.ex h31 rfl) fun x50_22 h32 => ?_
       refine as_ ?_
       refine as_ ?_
       refine dn ?_
       refine sr ?_
       refine mv ?_
       refine LV.call hS h32 (g57_ok _ _ _ _ _ ) hP rfl rfl rfl rfl fun x52_23 T18 n18 h33 ρ its hS => ?_
       refine dn ?_
       refine sr ?_
       refine mv ?_
       refine mv ?_
       refine LV.bslice hS h33 rfl rfl Paf.el33 rfl rfl rfl rfl fun x55_24 T19 n19 h34 ρ its hS hdr => ?_
       refine LV.app hS h34 rfl rfl rfl rfl Paf.el33 rfl rfl rfl fun x56_25 T20 n20 h35 ρ its hS => ?_
       refine as_ ?_
       refine dn ?_
       refine CV.region ?_
       refine mv ?_
       refine mv ?_
       refine mv ?_
       refine mv ?_
       refine mv ?_
       refine LV.call hS h35 (hI _ _ _ _ _) hP rfl rfl rfl rfl fun x62_26 T21 n21 h36 ρ its hS => ?_
       refine LV.bslice hS h36 rfl rfl Paf.el29 rfl rfl rfl rfl fun x63_27 T22 n22 h37 ρ its hS hdr => ?_
       refine LV.call hS h37 (g26_ok _ _ _ _ _ _ _ _ ) hP rfl rfl rfl rfl fun x64_28 T23 n23 h38 ρ its hS => ?_
       refine LV.bslice hS h38 rfl rfl Paf.el29 rfl rfl rfl rfl fun x65_29 T24 n24 h39 ρ its hS hdr => ?_
       refine LV.app hS h39 rfl rfl rfl rfl Paf.el29 rfl rfl rfl fun x66_30 T25 n25 h40 ρ its hS => ?_
       refine as_ ?_
       refine LV.done ?_
       exact pa5 hS h40 ⟨rfl, rfl, rfl, rfl, rfl, trivial⟩
     ·
      clear h27
      subst e
      refine cs5 X 0 4 5 6 7 [] (g92_k6 ih ro (lpf5 920027 (g92_b2 ih ro) f2)) ?_ ?_
      ·
       refine sr ?_
       refine mv ?_
       refine vy (V.lenS h28 rfl Paf.ls33) fun x68_45 h57 => ?_
       refine vy (V.gt h57 rfl rfl) fun x69_46 h58 => ?_
       refine dn ?_
       refine CV.cond h58 rfl (fun e h59 => ?_) (fun e h59 => ?_)
       ·
        clear h28 h57 h58
        subst e
        refine CV.region ?_
        refine mv ?_
        refine LV.call hS h59 (g30_ok _ _ _ _ ) hP rfl rfl rfl rfl fun x71_47 T32 n32 h60 ρ its hS => ?_
        refine LV.done ?_
        exact pa5 hS h60 ⟨rfl, rfl, rfl, rfl, rfl, trivial⟩
       ·
        clear h28 h57 h58
        subst e
        refine CV.skip ?_
        exact pa5 hS h59 ⟨rfl, rfl, rfl, rfl, rfl, trivial⟩
      ·
       intro y0 y4 y5 y6 y7 T28 n28 ρ its hS h53
       unfold g92_k6 at h53
       clear h28
       refine CV.region ?_
       refine mv ?_
       refine mv ?_
       refine LV.call hS h53 (hI _ _ _ _ _) hP rfl rfl rfl rfl fun x74_42 T29 n29 h54 ρ its hS => ?_
       refine LV.bslice hS h54 rfl rfl Paf.el29 rfl rfl rfl rfl fun x75_43 T30 n30 h55 ρ its hS hdr => ?_
       refine LV.app hS h55 rfl rfl rfl rfl Paf.el29 rfl rfl rfl fun x76_44 T31 n31 h56 ρ its hS => ?_
       refine as_ ?_
       refine LV.done ?_
       exact pa5 hS h56 ⟨rfl, rfl, rfl, rfl, rfl, trivial⟩
   ·
    intro y0 y4 y5 y6 y7 T12 n12 ρ its hS h21
    unfold g92_k3 at h21
    clear h19 h20
    refine sr ?_
    refine mv ?_
    refine LV.call hS h21 (g43_ok _ _ _ _ _ ) hP rfl rfl rfl rfl fun x78_16 T13 n13 h22 ρ its hS => ?_
    refine vy (V.not h22 rfl) fun x79_17 h23 => ?_
    refine dn ?_
    refine CV.cond h23 rfl (fun e h24 => ?_) (fun e h24 => ?_)
    ·
     clear h21 h22 h23
     subst e
     refine CV.exit ?_
     refine PV.blockO rfl ?_
     refine PV.thenE ?_
     refine PV.blockE ?_
     exact pa4 hS h24 ⟨rfl, rfl, rfl, rfl, trivial⟩
    ·
     clear h21 h22 h23
     subst e
     refine CV.skip ?_
     refine PV.blockN ?_
     exact pb5 hS h24 ⟨rfl, rfl, rfl, rfl, rfl, trivial⟩
  ·
   clear h15 h16 h17 h18
   subst e
   refine CV.exit ?_
   refine PV.thenE ?_
   refine PV.thenE ?_
   refine PV.blockE ?_
   exact pa4 hS h19 ⟨rfl, rfl, rfl, rfl, trivial⟩
 ·
  intro y0 y4 y5 y6 T4 n4 ρ its hS h5
  unfold g92_k1 at h5
  clear h1 h2 h3 h4
  refine sr ?_
  refine mv ?_
  refine LV.call hS h5 (g57_ok _ _ _ _ _ ) hP rfl rfl rfl rfl fun x81_4 T5 n5 h6 ρ its hS => ?_
  refine dn ?_
  refine sr ?_
  refine mv ?_
  refine vy (V.nc h6 rfl) fun x83_5 h7 => ?_
  refine vy (V.fa h7 rfl Paf.fo49_3) fun x84_6 h8 => ?_
  refine vy (V.ld hS h8 rfl Paf.one3) fun x85_7 h9 => ?_
  refine vy (V.sub h9 rfl rfl) fun x86_8 h10 => ?_
  refine vy (V.nc h10 rfl) fun x87_9 h11 => ?_
  refine vy (V.fa h11 rfl Paf.fo49_3) fun x88_10 h12 => ?_
  refine LV.st hS h12 rfl rfl rfl Paf.siz3 rfl rfl fun T6 its h13 hS => ?_
  refine dn ?_
  refine sr ?_
  refine mv ?_
  refine mv ?_
  refine mv ?_
  refine LV.call hS h13 (g26_ok _ _ _ _ _ _ _ _ ) hP rfl rfl rfl rfl fun x92_11 T7 n7 h14 ρ its hS => ?_
  refine as_ ?_
  refine dn ?_
  refine CV.ret ?_
  cases h14
  exact PV.ret (by simp) Tryd.results92 hS (RS.tmp rfl RS.nil) rfl
noncomputable def g93_k2 (ih : FuncId → List HT → List AV → HT → Nat → R) (ro : List HT) (y0 y1 y4 y5 y6 y7 : AV) (T9 : HT) (n9 : Nat) : R :=
 callK (g57 ro y0 (.lit (.string ⟨⟨[93]⟩⟩)) T9 n9) fun x49_13 T10 n10 =>
 ncK 930033 y0 fun x51_14 =>
 faK 930034 x51_14 3 fun x52_15 =>
 ldK 930035 T10 ro x52_15 fun x53_16 =>
 subK Tryd.prog 3 (.tmp 53) (.const (.int .i64 (.ofNat 1))) 930036 x53_16 (.lit (.int .i64 (.ofNat 1))) fun x54_17 =>
 ncK 930037 y0 fun x55_18 =>
 faK 930038 x55_18 3 fun x56_19 =>
 stK 930039 T10 x56_19 x54_17 fun T11 =>
 bsK 930045 T11 n10 3 3 1 [(0, y1), (1, y6), (2, y7)] fun x62_20 T12 n12 =>
 callK (g26 ro y0 (.lit (.int .i64 (.ofNat 14))) y5 (.lit (.string ⟨⟨[]⟩⟩)) x62_20 T12 n12) fun x63_21 T13 n13 =>
 .ok (.val x63_21) T13 n13
noncomputable def g93_k1 (ih : FuncId → List HT → List AV → HT → Nat → R) (ro : List HT) (y0 y1 y4 y5 y6 : AV) (T3 : HT) (n3 : Nat) : R :=
 callK (g43 ro y0 (.lit (.string ⟨⟨[93]⟩⟩)) T3 n3) fun x23_3 T4 n4 =>
 condK 930011 x23_3
 (
  ncK 930013 y0 fun x25_4 =>
  faK 930014 x25_4 3 fun x26_5 =>
  ldK 930015 T4 ro x26_5 fun x27_6 =>
  subK Tryd.prog 3 (.tmp 27) (.const (.int .i64 (.ofNat 1))) 930016 x27_6 (.lit (.int .i64 (.ofNat 1))) fun x28_7 =>
  ncK 930017 y0 fun x29_8 =>
  faK 930018 x29_8 3 fun x30_9 =>
  stK 930019 T4 x30_9 x28_7 fun T5 =>
  bsK 930024 T5 n4 2 3 1 [(0, y1), (1, y6)] fun x35_10 T6 n6 =>
  callK (g26 ro y0 (.lit (.int .i64 (.ofNat 13))) y5 (.lit (.string ⟨⟨[]⟩⟩)) x35_10 T6 n6) fun x36_11 T7 n7 =>
  .ok (.val x36_11) T7 n7
 )
 (
  callK (g57 ro y0 (.lit (.string ⟨⟨[58]⟩⟩)) T4 n4) fun x38_12 T8 n8 =>
  bsK 930049 T8 n8 1 9 1 [(0, (.lit (.string ⟨⟨[93]⟩⟩)))] fun x40_22 T14 n14 =>
  callK (g35 ro y0 x40_22 T14 n14) fun x41_23 T15 n15 =>
  condK 930051 x41_23
  (
   callK (g41 ro y0 T15 n15) fun x44_24 T16 n16 =>
   callK (g26 ro y0 (.lit (.int .i64 (.ofNat 15))) x44_24 (.lit (.string ⟨⟨[]⟩⟩)) (.lit (.slice none 0 0)) T16 n16) fun x45_25 T17 n17 =>
   g93_k2 ih ro y0 y1 y4 y5 y6 x45_25 T17 n17
  )
  (
   callK (ih 42 ro [y0] T15 n15) fun x47_26 T18 n18 =>
   g93_k2 ih ro y0 y1 y4 y5 y6 x47_26 T18 n18
  )
 )
noncomputable def g93 (ih : FuncId → List HT → List AV → HT → Nat → R) (ro : List HT) (a0 a1 : AV) (T : HT) (nx : Nat) : R :=
 callK (g57 ro a0 (.lit (.string ⟨⟨[91]⟩⟩)) T nx) fun x9_1 T1 n1 =>
 callK (g56 ro a0 x9_1 T1 n1) fun x12_2 T2 n2 =>
 bsK 930061 T2 n2 1 9 1 [(0, (.lit (.string ⟨⟨[58]⟩⟩)))] fun x14_27 T19 n19 =>
 callK (g35 ro a0 x14_27 T19 n19) fun x15_28 T20 n20 =>
 condK 930063 x15_28
 (
  callK (g41 ro a0 T20 n20) fun x18_29 T21 n21 =>
  callK (g26 ro a0 (.lit (.int .i64 (.ofNat 15))) x18_29 (.lit (.string ⟨⟨[]⟩⟩)) (.lit (.slice none 0 0)) T21 n21) fun x19_30 T22 n22 =>
  g93_k1 ih ro a0 a1 (.lit (.int .i64 (.ofNat 0))) x9_1 x19_30 T22 n22
 )
 (
  callK (ih 42 ro [a0] T20 n20) fun x21_31 T23 n23 =>
  g93_k1 ih ro a0 a1 (.lit (.int .i64 (.ofNat 0))) x9_1 x21_31 T23 n23
 )
theorem g93_ok (ih : FuncId → List HT → List AV → HT → Nat → R) (hI : ∀ f ro args T nx, GOk Tryd.prog envE f args ro T nx (ih f ro args T nx)) (ro : List HT) (a0 a1 : AV) (T : HT) (nx : Nat) : GOk Tryd.prog envE 93 [a0, a1] ro T nx (g93 ih ro a0 a1 T nx) := by
 refine GOk.of_body Tryd.func93 rfl Tryd.ntmps93 (by kernel_rfl) rfl fun r T' n' h1 w0 base ρ0 its hS hP => ?_
 have X : CtxW envE ρ0 ro r T' n' := trivial
 unfold g93 at h1
 refine sr ?_
 refine as_ ?_
 refine dn ?_
 refine sr ?_
 refine mv ?_
 refine LV.call hS h1 (g57_ok _ _ _ _ _ ) hP rfl rfl rfl rfl fun x9_1 T1 n1 h2 ρ its hS => ?_
 refine as_ ?_
 refine dn ?_
 refine sr ?_
 refine mv ?_
 refine mv ?_
 refine LV.call hS h2 (g56_ok _ _ _ _ _ ) hP rfl rfl rfl rfl fun x12_2 T2 n2 h3 ρ its hS => ?_
 refine dn ?_
 refine sr ?_
 refine as_ ?_
 refine dn ?_
 refine cs5 X 0 1 4 5 6 [] (g93_k1 ih ro) ?_ ?_
 ·
  refine sr ?_
  refine mv ?_
  refine LV.bslice hS h3 rfl rfl Paf.el33 rfl rfl rfl rfl fun x14_27 T19 n19 h34 ρ its hS hdr => ?_
  refine LV.call hS h34 (g35_ok _ _ _ _ _ ) hP rfl rfl rfl rfl fun x15_28 T20 n20 h35 ρ its hS => ?_
  refine dn ?_
  refine CV.cond h35 rfl (fun e h36 => ?_) (fun e h36 => ?_)
  ·
   clear h1 h2 h3 h34 h35
   subst e
   refine CV.region ?_
   refine mv ?_
   refine mv ?_
   refine LV.call hS h36 (g41_ok _ _ _ _ ) hP rfl rfl rfl rfl fun x18_29 T21 n21 h37 ρ its hS => ?_
   refine LV.call hS h37 (g26_ok _ _ _ _ _ _ _ _ ) hP rfl rfl rfl rfl fun x19_30 T22 n22 h38 ρ its hS => ?_
   refine as_ ?_
   refine LV.done ?_
   exact pa5 hS h38 ⟨rfl, rfl, rfl, rfl, rfl, trivial⟩
  ·
   clear h1 h2 h3 h34 h35
   subst e
   refine CV.region ?_
   refine mv ?_
   refine LV.call hS h36 (hI _ _ _ _ _) hP rfl rfl rfl rfl fun x21_31 T23 n23 h39 ρ its hS => ?_
   refine as_ ?_
   refine LV.done ?_
   exact pa5 hS h39 ⟨rfl, rfl, rfl, rfl, rfl, trivial⟩
 ·
  intro y0 y1 y4 y5 y6 T3 n3 ρ its hS h4
  unfold g93_k1 at h4
  clear h1 h2 h3
  refine CV.seq ?_
  refine sr ?_
  refine mv ?_
  refine LV.call hS h4 (g43_ok _ _ _ _ _ ) hP rfl rfl rfl rfl fun x23_3 T4 n4 h5 ρ its hS => ?_
  refine dn ?_
  refine CV.cond h5 rfl (fun e h6 => ?_) (fun e h6 => ?_)
  ·
   clear h4 h5
   subst e
   refine sr ?_
   refine mv ?_
   refine vy (V.nc h6 rfl) fun x25_4 h7 => ?_
   refine vy (V.fa h7 rfl Paf.fo49_3) fun x26_5 h8 => ?_
   refine vy (V.ld hS h8 rfl Paf.one3) fun x27_6 h9 => ?_
   refine vy (V.sub h9 rfl rfl) fun x28_7 h10 => ?_
   refine vy (V.nc h10 rfl) fun x29_8 h11 => ?_
   refine vy (V.fa h11 rfl Paf.fo49_3) fun x30_9 h12 => ?_
   refine LV.st hS h12 rfl rfl rfl Paf.siz3 rfl rfl fun T5 its h13 hS => ?_
   refine dn ?_
   refine sr ?_
   refine mv ?_
   refine mv ?_
   refine mv ?_
   refine mv ?_
   refine LV.bslice hS h13 rfl rfl Paf.el29 rfl rfl rfl rfl fun x35_10 T6 n6 h14 ρ its hS hdr => ?_
   refine LV.call hS h14 (g26_ok _ _ _ _ _ _ _ _ ) hP rfl rfl rfl rfl fun x36_11 T7 n7 h15 ρ its hS => ?_
   refine as_ ?_
   refine dn ?_
   refine CV.ret ?_
   refine PV.thenR ?_
   cases h15
   exact PV.ret (by simp) Tryd.results93 hS (RS.tmp rfl RS.nil) rfl
  ·
   clear h4 h5
   subst e
   refine CV.skip ?_
   refine PV.thenN ?_
   refine sr ?_
   refine mv ?_
   refine LV.call hS h6 (g57_ok _ _ _ _ _ ) hP rfl rfl rfl rfl fun x38_12 T8 n8 h16 ρ its hS => ?_
   refine dn ?_
   refine sr ?_
   refine as_ ?_
   refine dn ?_
   refine cs6 X 0 1 4 5 6 7 [] (g93_k2 ih ro) ?_ ?_
   ·
    refine sr ?_
    refine mv ?_
    refine LV.bslice hS h16 rfl rfl Paf.el33 rfl rfl rfl rfl fun x40_22 T14 n14 h28 ρ its hS hdr => ?_
    refine LV.call hS h28 (g35_ok _ _ _ _ _ ) hP rfl rfl rfl rfl fun x41_23 T15 n15 h29 ρ its hS => ?_
    refine dn ?_
    refine CV.cond h29 rfl (fun e h30 => ?_) (fun e h30 => ?_)
    ·
     clear h6 h16 h28 h29
     subst e
     refine CV.region ?_
     refine mv ?_
     refine mv ?_
     refine LV.call hS h30 (g41_ok _ _ _ _ ) hP rfl rfl rfl rfl fun x44_24 T16 n16 h31 ρ its hS => ?_
     refine LV.call hS h31 (g26_ok _ _ _ _ _ _ _ _ ) hP rfl rfl rfl rfl fun x45_25 T17 n17 h32 ρ its hS => ?_
     refine as_ ?_
     refine LV.done ?_
     exact pa6 hS h32 ⟨rfl, rfl, rfl, rfl, rfl, rfl, trivial⟩
    ·
     clear h6 h16 h28 h29
     subst e
     refine CV.region ?_
     refine mv ?_
     refine LV.call hS h30 (hI _ _ _ _ _) hP rfl rfl rfl rfl fun x47_26 T18 n18 h33 ρ its hS => ?_
     refine as_ ?_
     refine LV.done ?_
     exact pa6 hS h33 ⟨rfl, rfl, rfl, rfl, rfl, rfl, trivial⟩
   ·
    intro y0 y1 y4 y5 y6 y7 T9 n9 ρ its hS h17
    unfold g93_k2 at h17
    clear h6 h16
    refine sr ?_
    refine mv ?_
    refine LV.call hS h17 (g57_ok _ _ _ _ _ ) hP rfl rfl rfl rfl fun x49_13 T10 n10 h18 ρ its hS => ?_
    refine dn ?_
    refine sr ?_
    refine mv ?_
    refine vy (V.nc h18 rfl) fun x51_14 h19 => ?_
    refine vy (V.fa h19 rfl Paf.fo49_3) fun x52_15 h20 => ?_
    refine vy (V.ld hS h20 rfl Paf.one3) fun x53_16 h21 => ?_
    refine vy (V.sub h21 rfl rfl) fun x54_17 h22 => ?_
    refine vy (V.nc h22 rfl) fun x55_18 h23 => ?_
    refine vy (V.fa h23 rfl Paf.fo49_3) fun x56_19 h24 => ?_
    refine LV.st hS h24 rfl rfl rfl Paf.siz3 rfl rfl fun T11 its h25 hS => ?_
    refine dn ?_
    refine sr ?_
    refine mv ?_
    refine mv ?_
    refine mv ?_
    refine mv ?_
    refine mv ?_
    refine LV.bslice hS h25 rfl rfl Paf.el29 rfl rfl rfl rfl fun x62_20 T12 n12 h26 ρ its hS hdr => ?_
    refine LV.call hS h26 (g26_ok _ _ _ _ _ _ _ _ ) hP rfl rfl rfl rfl fun x63_21 T13 n13 h27 ρ its hS => ?_
    refine as_ ?_
    refine dn ?_
    refine CV.ret ?_
    cases h27
    exact PV.ret (by simp) Tryd.results93 hS (RS.tmp rfl RS.nil) rfl
noncomputable def g94 (ih : FuncId → List HT → List AV → HT → Nat → R) (ro : List HT) (a0 : AV) (T : HT) (nx : Nat) : R :=
 bsK 940005 T nx 2 9 1 [(0, (.lit (.string ⟨⟨[43]⟩⟩))), (1, (.lit (.string ⟨⟨[45]⟩⟩)))] fun x6_1 T1 n1 =>
 callK (ih 76 ro [a0, (.fn (.func 98) [a0] []), x6_1] T1 n1) fun x7_2 T2 n2 =>
 .ok (.val x7_2) T2 n2
theorem g94_ok (ih : FuncId → List HT → List AV → HT → Nat → R) (hI : ∀ f ro args T nx, GOk Tryd.prog envE f args ro T nx (ih f ro args T nx)) (ro : List HT) (a0 : AV) (T : HT) (nx : Nat) : GOk Tryd.prog envE 94 [a0] ro T nx (g94 ih ro a0 T nx) := by
 refine GOk.of_body Tryd.func94 rfl Tryd.ntmps94 (by kernel_rfl) rfl fun r T' n' h1 w0 base ρ0 its hS hP => ?_
 have X : CtxW envE ρ0 ro r T' n' := trivial
 unfold g94 at h1
 refine sr ?_
 refine as_ ?_
 refine dn ?_
 refine sr ?_
 refine mv ?_
 refine mv ?_
 refine pu ?_
 refine LV.bslice hS h1 rfl rfl Paf.el33 rfl rfl rfl rfl fun x6_1 T1 n1 h2 ρ its hS hdr => ?_
 refine LV.call hS h2 (hI _ _ _ _ _) hP rfl rfl rfl rfl fun x7_2 T2 n2 h3 ρ its hS => ?_
 refine as_ ?_
 refine dn ?_
 refine CV.ret ?_
 cases h3
 exact PV.ret (by simp) Tryd.results94 hS (RS.tmp rfl RS.nil) rfl
noncomputable def g95_k1 (ih : FuncId → List HT → List AV → HT → Nat → R) (ro : List HT) (y2 y4 : AV) (T9 : HT) (n9 : Nat) : R :=
 .ok (.val y4) T9 n9
noncomputable def g95 (ih : FuncId → List HT → List AV → HT → Nat → R) (ro : List HT) (a0 : AV) (T : HT) (nx : Nat) : R :=
 callK (g57 ro a0 (.lit (.string ⟨⟨[40]⟩⟩)) T nx) fun x7_1 T1 n1 =>
 callK (g56 ro a0 x7_1 T1 n1) fun x10_2 T2 n2 =>
 callK (g43 ro a0 (.lit (.string ⟨⟨[41]⟩⟩)) T2 n2) fun x12_3 T3 n3 =>
 condK 950010 x12_3
 (
  ncK 950012 a0 fun x14_4 =>
  faK 950013 x14_4 3 fun x15_5 =>
  ldK 950014 T3 ro x15_5 fun x16_6 =>
  subK Tryd.prog 3 (.tmp 16) (.const (.int .i64 (.ofNat 1))) 950015 x16_6 (.lit (.int .i64 (.ofNat 1))) fun x17_7 =>
  ncK 950016 a0 fun x18_8 =>
  faK 950017 x18_8 3 fun x19_9 =>
  stK 950018 T3 x19_9 x17_7 fun T4 =>
  callK (g26 ro a0 (.lit (.int .i64 (.ofNat 8))) x7_1 (.lit (.string ⟨⟨[]⟩⟩)) (.lit (.slice none 0 0)) T4 n3) fun x22_10 T5 n5 =>
  .ok (.val x22_10) T5 n5
 )
 (
  callK (ih 29 ro [a0] T3 n3) fun x25_11 T6 n6 =>
  exK 950026 x25_11 0 fun x26_12 =>
  exK 950027 x25_11 1 fun x27_13 =>
  callK (g57 ro a0 (.lit (.string ⟨⟨[41]⟩⟩)) T6 n6) fun x29_14 T7 n7 =>
  ncK 950033 a0 fun x31_15 =>
  faK 950034 x31_15 3 fun x32_16 =>
  ldK 950035 T7 ro x32_16 fun x33_17 =>
  subK Tryd.prog 3 (.tmp 33) (.const (.int .i64 (.ofNat 1))) 950036 x33_17 (.lit (.int .i64 (.ofNat 1))) fun x34_18 =>
  ncK 950037 a0 fun x35_19 =>
  faK 950038 x35_19 3 fun x36_20 =>
  stK 950039 T7 x36_20 x34_18 fun T8 =>
  condK 950043 x27_13
  (
   ncK 950045 a0 fun x39_21 =>
   faK 950046 x39_21 2 fun x40_22 =>
   ldK 950047 T8 ro x40_22 fun x41_23 =>
   iaK 950050 x41_23 x26_12 5 fun x44_24 =>
   faK 950051 x44_24 2 fun x45_25 =>
   stK 950052 T8 x45_25 x7_1 fun T10 =>
   g95_k1 ih ro (.lit (.int .i64 (.ofNat 0))) x26_12 T10 n7
  )
  (
   g95_k1 ih ro (.lit (.int .i64 (.ofNat 0))) x26_12 T8 n7
  )
 )
theorem g95_ok (ih : FuncId → List HT → List AV → HT → Nat → R) (hI : ∀ f ro args T nx, GOk Tryd.prog envE f args ro T nx (ih f ro args T nx)) (ro : List HT) (a0 : AV) (T : HT) (nx : Nat) : GOk Tryd.prog envE 95 [a0] ro T nx (g95 ih ro a0 T nx) := by
 refine GOk.of_body Tryd.func95 rfl Tryd.ntmps95 (by kernel_rfl) rfl fun r T' n' h1 w0 base ρ0 its hS hP => ?_
 have X : CtxW envE ρ0 ro r T' n' := trivial
 unfold g95 at h1
 refine sr ?_
 refine as_ ?_
 refine dn ?_
 refine sr ?_
 refine mv ?_
 refine LV.call hS h1 (g57_ok _ _ _ _ _ ) hP rfl rfl rfl rfl fun x7_1 T1 n1 h2 ρ its hS => ?_
 refine as_ ?_
 refine dn ?_
 refine sr ?_
 refine mv ?_
 refine mv ?_
 refine LV.call hS h2 (g56_ok _ _ _ _ _ ) hP rfl rfl rfl rfl fun x10_2 T2 n2 h3 ρ its hS => ?_
 refine dn ?_
 refine CV.seq ?_
 refine sr ?_
 refine mv ?_
 refine LV.call hS h3 (g43_ok _ _ _ _ _ ) hP rfl rfl rfl rfl fun x12_3 T3 n3 h4 ρ its hS => ?_
 refine dn ?_
 refine CV.cond h4 rfl (fun e h5 => ?_) (fun e h5 => ?_)
 ·
  clear h1 h2 h3 h4
  subst e
  refine sr ?_
  refine mv ?_
  refine vy (V.nc h5 rfl) fun x14_4 h6 => ?_
  refine vy (V.fa h6 rfl Paf.fo49_3) fun x15_5 h7 => ?_
  refine vy (V.ld hS h7 rfl Paf.one3) fun x16_6 h8 => ?_
  refine vy (V.sub h8 rfl rfl) fun x17_7 h9 => ?_
  refine vy (V.nc h9 rfl) fun x18_8 h10 => ?_
  refine vy (V.fa h10 rfl Paf.fo49_3) fun x19_9 h11 => ?_
  refine LV.st hS h11 rfl rfl rfl Paf.siz3 rfl rfl fun T4 its h12 hS => ?_
  refine dn ?_
  refine sr ?_
  refine mv ?_
  refine mv ?_
  refine LV.call hS h12 (g26_ok _ _ _ _ _ _ _ _ ) hP rfl rfl rfl rfl fun x22_10 T5 n5 h13 ρ its hS => ?_
  refine as_ ?_
  refine dn ?_
  refine CV.ret ?_
  refine PV.thenR ?_
  cases h13
  exact PV.ret (by simp) Tryd.results95 hS (RS.tmp rfl RS.nil) rfl
 ·
  clear h1 h2 h3 h4
  subst e
  refine CV.skip ?_
  refine PV.thenN ?_
  refine sr ?_
  refine mv ?_
  refine LV.call hS h5 (hI _ _ _ _ _) hP rfl rfl rfl rfl fun x25_11 T6 n6 h14 ρ its hS => ?_
  refine mv ?_
  refine vy (V.ex h14 rfl) fun x26_12 h15 => ?_
  refine vy (V.ex h15 rfl) fun x27_13 h16 => ?_
  refine as_ ?_
  refine as_ ?_
  refine dn ?_
  refine sr ?_
  refine mv ?_
  refine LV.call hS h16 (g57_ok _ _ _ _ _ ) hP rfl rfl rfl rfl fun x29_14 T7 n7 h17 ρ its hS => ?_
  refine dn ?_
  refine sr ?_
  refine mv ?_
  refine vy (V.nc h17 rfl) fun x31_15 h18 => ?_
  refine vy (V.fa h18 rfl Paf.fo49_3) fun x32_16 h19 => ?_
  refine vy (V.ld hS h19 rfl Paf.one3) fun x33_17 h20 => ?_
  refine vy (V.sub h20 rfl rfl) fun x34_18 h21 => ?_
  refine vy (V.nc h21 rfl) fun x35_19 h22 => ?_
  refine vy (V.fa h22 rfl Paf.fo49_3) fun x36_20 h23 => ?_
  refine LV.st hS h23 rfl rfl rfl Paf.siz3 rfl rfl fun T8 its h24 hS => ?_
  refine dn ?_
  refine cs2 X 2 4 [] (g95_k1 ih ro) ?_ ?_
  ·
   refine sr ?_
   refine mv ?_
   refine dn ?_
   refine CV.cond h24 rfl (fun e h26 => ?_) (fun e h26 => ?_)
   ·
    clear h5 h14 h15 h16 h17 h18 h19 h20 h21 h22 h23 h24
    subst e
    refine CV.region ?_
    refine mv ?_
    refine vy (V.nc h26 rfl) fun x39_21 h27 => ?_
    refine vy (V.fa h27 rfl Paf.fo49_2) fun x40_22 h28 => ?_
    refine vy (V.ld hS h28 rfl Paf.one23) fun x41_23 h29 => ?_
    refine mv ?_
    refine mv ?_
    refine vy (V.ia h29 rfl rfl Paf.el23) fun x44_24 h30 => ?_
    refine vy (V.fa h30 rfl Paf.fo31_2) fun x45_25 h31 => ?_
    refine LV.st hS h31 rfl rfl rfl Paf.siz3 rfl rfl fun T10 its h32 hS => ?_
    refine LV.done ?_
    exact pa2 hS h32 ⟨rfl, rfl, trivial⟩
   ·
    clear h5 h14 h15 h16 h17 h18 h19 h20 h21 h22 h23 h24
    subst e
    refine CV.skip ?_
    exact pa2 hS h26 ⟨rfl, rfl, trivial⟩
  ·
   intro y2 y4 T9 n9 ρ its hS h25
   unfold g95_k1 at h25
   clear h5 h14 h15 h16 h17 h18 h19 h20 h21 h22 h23 h24
   refine sr ?_
   refine mv ?_
   refine as_ ?_
   refine dn ?_
   refine CV.ret ?_
   cases h25
   exact PV.ret (by simp) Tryd.results95 hS (RS.tmp rfl RS.nil) rfl
noncomputable def g96_k1 (ih : FuncId → List HT → List AV → HT → Nat → R) (ro : List HT) (y0 y2 y3 y4 : AV) (T3 : HT) (n3 : Nat) : R :=
 callK (g57 ro y0 (.lit (.string ⟨⟨[93]⟩⟩)) T3 n3) fun x37_3 T4 n4 =>
 ncK 960012 y0 fun x39_4 =>
 faK 960013 x39_4 3 fun x40_5 =>
 ldK 960014 T4 ro x40_5 fun x41_6 =>
 subK Tryd.prog 3 (.tmp 41) (.const (.int .i64 (.ofNat 1))) 960015 x41_6 (.lit (.int .i64 (.ofNat 1))) fun x42_7 =>
 ncK 960016 y0 fun x43_8 =>
 faK 960017 x43_8 3 fun x44_9 =>
 stK 960018 T4 x44_9 x42_7 fun T5 =>
 callK (g26 ro y0 (.lit (.int .i64 (.ofNat 7))) y3 (.lit (.string ⟨⟨[]⟩⟩)) y4 T5 n4) fun x48_10 T6 n6 =>
 .ok (.val x48_10) T6 n6
noncomputable def g96_k3 (ih : FuncId → List HT → List AV → HT → Nat → R) (ro : List HT) (lp2 : AV → AV → AV → AV → HT → Nat → R) (y0 y2 y3 y4 y26 : AV) (T13 : HT) (n13 : Nat) : R :=
 condK 960040 y26
 (
  iaK 960044 y4 (.lit (.int .i64 (.ofNat 0))) 1 fun x30_19 =>
  ldK 960045 T13 ro x30_19 fun x31_20 =>
  callK (ih 99 ro [y0, y3, x31_20] T13 n13) fun x32_21 T14 n14 =>
  .ok (.val x32_21) T14 n14
 )
 (
  callK (g43 ro y0 (.lit (.string ⟨⟨[44]⟩⟩)) T13 n13) fun x34_22 T15 n15 =>
  notK 960050 x34_22 fun x35_23 =>
  condK 960051 x35_23
  (
   g96_k1 ih ro y0 y2 y3 y4 T15 n15
  )
  (
   lp2 y0 y2 y3 y4 T15 n15
  )
 )
noncomputable def g96_b2 (ih : FuncId → List HT → List AV → HT → Nat → R) (ro : List HT) (lp2 : AV → AV → AV → AV → HT → Nat → R) (y0 y2 y3 y4 : AV) (T7 : HT) (n7 : Nat) : R :=
 bsK 960026 T7 n7 1 9 1 [(0, (.lit (.string ⟨⟨[93]⟩⟩)))] fun x11_11 T8 n8 =>
 callK (g35 ro y0 x11_11 T8 n8) fun x12_12 T9 n9 =>
 notK 960028 x12_12 fun x13_13 =>
 condK 960029 x13_13
 (
  callK (ih 42 ro [y0] T9 n9) fun x16_14 T10 n10 =>
  bsK 960033 T10 n10 1 3 1 [(0, x16_14)] fun x17_15 T11 n11 =>
  appK 960034 T11 ro n11 3 1 8 y4 x17_15 fun x18_16 T12 n12 =>
  lenSK 960037 x18_16 fun x20_17 =>
  eqK Tryd.prog 3 (.tmp 20) (.const (.int .i64 (.ofNat 1))) 960038 x20_17 (.lit (.int .i64 (.ofNat 1))) fun x21_18 =>
  condK 960052 x21_18
  (
   bsK 960054 T12 n12 1 9 1 [(0, (.lit (.string ⟨⟨[102, 111, 114]⟩⟩)))] fun x24_24 T16 n16 =>
   callK (g35 ro y0 x24_24 T16 n16) fun x25_25 T17 n17 =>
   g96_k3 ih ro lp2 y0 y2 y3 x18_16 x25_25 T17 n17
  )
  (
   g96_k3 ih ro lp2 y0 y2 y3 x18_16 (.lit (.bool false)) T12 n12
  )
 )
 (
  g96_k1 ih ro y0 y2 y3 y4 T9 n9
 )
noncomputable def g96 (ih : FuncId → List HT → List AV → HT → Nat → R) (ro : List HT) (a0 : AV) (T : HT) (nx : Nat) : R :=
 callK (g57 ro a0 (.lit (.string ⟨⟨[91]⟩⟩)) T nx) fun x6_1 T1 n1 =>
 callK (g56 ro a0 x6_1 T1 n1) fun x9_2 T2 n2 =>
 lpf4 960024 (g96_b2 ih ro) 100000 a0 (.lit (.int .i64 (.ofNat 0))) x6_1 (.lit (.slice none 0 0)) T2 n2
theorem g96_ok (ih : FuncId → List HT → List AV → HT → Nat → R) (hI : ∀ f ro args T nx, GOk Tryd.prog envE f args ro T nx (ih f ro args T nx)) (ro : List HT) (a0 : AV) (T : HT) (nx : Nat) : GOk Tryd.prog envE 96 [a0] ro T nx (g96 ih ro a0 T nx) := by
 refine GOk.of_body Tryd.func96 rfl Tryd.ntmps96 (by kernel_rfl) rfl fun r T' n' h1 w0 base ρ0 its hS hP => ?_
 have X : CtxW envE ρ0 ro r T' n' := trivial
 unfold g96 at h1
 refine sr ?_
 refine as_ ?_
 refine dn ?_
 refine sr ?_
 refine mv ?_
 refine LV.call hS h1 (g57_ok _ _ _ _ _ ) hP rfl rfl rfl rfl fun x6_1 T1 n1 h2 ρ its hS => ?_
 refine as_ ?_
 refine dn ?_
 refine sr ?_
 refine mv ?_
 refine mv ?_
 refine LV.call hS h2 (g56_ok _ _ _ _ _ ) hP rfl rfl rfl rfl fun x9_2 T2 n2 h3 ρ its hS => ?_
 refine dn ?_
 refine sr ?_
 refine as_ ?_
 refine dn ?_
 refine cs4 X 0 2 3 4 [] (g96_k1 ih ro) ?_ ?_
 ·
  refine CV.block ?_
  refine cl4 X 0 2 3 4 [] hS h3 ⟨rfl, rfl, rfl, rfl, trivial⟩ ?_
  intro f2 y0 y2 y3 y4 T7 n7 ρ its hS h14
  unfold g96_b2 at h14
  clear h1 h2 h3
  refine CV.seq ?_
  refine sr ?_
  refine mv ?_
  refine LV.bslice hS h14 rfl rfl Paf.el33 rfl rfl rfl rfl fun x11_11 T8 n8 h15 ρ its hS hdr => ?_
  refine LV.call hS h15 (g35_ok _ _ _ _ _ ) hP rfl rfl rfl rfl fun x12_12 T9 n9 h16 ρ its hS => ?_
  refine vy (V.not h16 rfl) fun x13_13 h17 => ?_
  refine dn ?_
  refine CV.cond h17 rfl (fun e h18 => ?_) (fun e h18 => ?_)
  ·
   clear h14 h15 h16 h17
   subst e
   refine CV.skip ?_
   refine PV.thenN ?_
   refine CV.block ?_
   refine sr ?_
   refine mv ?_
   refine mv ?_
   refine LV.call hS h18 (hI _ _ _ _ _) hP rfl rfl rfl rfl fun x16_14 T10 n10 h19 ρ its hS => ?_
   refine LV.bslice hS h19 rfl rfl Paf.el29 rfl rfl rfl rfl fun x17_15 T11 n11 h20 ρ its hS hdr => ?_
   refine LV.app hS h20 rfl rfl rfl rfl Paf.el29 rfl rfl rfl fun x18_16 T12 n12 h21 ρ its hS => ?_
   refine as_ ?_
   refine dn ?_
   refine CV.seq ?_
   refine sr ?_
   refine mv ?_
   refine vy (V.lenS h21 rfl Paf.ls29) fun x20_17 h22 => ?_
   refine vy (V.eq h22 rfl rfl) fun x21_18 h23 => ?_
   refine mv ?_
   refine ls5 X 0 2 3 4 26 [] (g96_k3 ih ro (lpf4 960024 (g96_b2 ih ro) f2)) 4 ?_ ?_
   ·
    rcases condK_inv h23 with ⟨e, h32⟩ | ⟨e, h32⟩
    ·
     clear h18 h19 h20 h21 h22 h23
     subst e
     refine mv ?_
     refine LV.bslice hS h32 rfl rfl Paf.el33 rfl rfl rfl rfl fun x24_24 T16 n16 h33 ρ its hS hdr => ?_
     refine LV.call hS h33 (g35_ok _ _ _ _ _ ) hP rfl rfl rfl rfl fun x25_25 T17 n17 h34 ρ its hS => ?_
     refine pu ?_
     exact la5 hS h34 ⟨rfl, rfl, rfl, rfl, rfl, trivial⟩
    ·
     clear h18 h19 h20 h21 h22 h23
     subst e
     refine sk ?_
     refine sk ?_
     refine sk ?_
     refine pu ?_
     exact la5 hS h32 ⟨rfl, rfl, rfl, rfl, rfl, trivial⟩
   ·
    intro y0 y2 y3 y4 y26 T13 n13 ρ its hS h24
    unfold g96_k3 at h24
    clear h18 h19 h20 h21 h22 h23
    refine dn ?_
    refine CV.cond h24 rfl (fun e h25 => ?_) (fun e h25 => ?_)
    ·
     clear h24
     subst e
     refine sr ?_
     refine mv ?_
     refine mv ?_
     refine mv ?_
     refine vy (V.ia h25 rfl rfl Paf.el29) fun x30_19 h26 => ?_
     refine vy (V.ld hS h26 rfl Paf.one3) fun x31_20 h27 => ?_
     refine LV.call hS h27 (hI _ _ _ _ _) hP rfl rfl rfl rfl fun x32_21 T14 n14 h28 ρ its hS => ?_
     refine as_ ?_
     refine dn ?_
     refine CV.ret ?_
     refine PV.thenR ?_
     refine PV.blockR ?_
     refine PV.thenR ?_
     refine PV.blockR ?_
     refine PV.thenR ?_
     cases h28
     exact PV.ret (by simp) Tryd.results96 hS (RS.tmp rfl RS.nil) rfl
    ·
     clear h24
     subst e
     refine CV.skip ?_
     refine PV.thenN ?_
     refine sr ?_
     refine mv ?_
     refine LV.call hS h25 (g43_ok _ _ _ _ _ ) hP rfl rfl rfl rfl fun x34_22 T15 n15 h29 ρ its hS => ?_
     refine vy (V.not h29 rfl) fun x35_23 h30 => ?_
     refine dn ?_
     refine CV.cond h30 rfl (fun e h31 => ?_) (fun e h31 => ?_)
     ·
      clear h25 h29 h30
      subst e
      refine CV.exit ?_
      refine PV.blockO rfl ?_
      refine PV.thenE ?_
      refine PV.blockE ?_
      exact pa4 hS h31 ⟨rfl, rfl, rfl, rfl, trivial⟩
     ·
      clear h25 h29 h30
      subst e
      refine CV.skip ?_
      refine PV.blockN ?_
      exact pb4 hS h31 ⟨rfl, rfl, rfl, rfl, trivial⟩
  ·
   clear h14 h15 h16 h17
   subst e
   refine CV.exit ?_
   refine PV.thenE ?_
   refine PV.thenE ?_
   refine PV.blockE ?_
   exact pa4 hS h18 ⟨rfl, rfl, rfl, rfl, trivial⟩
 ·
  intro y0 y2 y3 y4 T3 n3 ρ its hS h4
  unfold g96_k1 at h4
  clear h1 h2 h3
  refine sr ?_
  refine mv ?_
  refine LV.call hS h4 (g57_ok _ _ _ _ _ ) hP rfl rfl rfl rfl fun x37_3 T4 n4 h5 ρ its hS => ?_
  refine dn ?_
  refine sr ?_
  refine mv ?_
  refine vy (V.nc h5 rfl) fun x39_4 h6 => ?_
  refine vy (V.fa h6 rfl Paf.fo49_3) fun x40_5 h7 => ?_
  refine vy (V.ld hS h7 rfl Paf.one3) fun x41_6 h8 => ?_
  refine vy (V.sub h8 rfl rfl) fun x42_7 h9 => ?_
  refine vy (V.nc h9 rfl) fun x43_8 h10 => ?_
  refine vy (V.fa h10 rfl Paf.fo49_3) fun x44_9 h11 => ?_
  refine LV.st hS h11 rfl rfl rfl Paf.siz3 rfl rfl fun T5 its h12 hS => ?_
  refine dn ?_
  refine sr ?_
  refine mv ?_
  refine mv ?_
  refine mv ?_
  refine LV.call hS h12 (g26_ok _ _ _ _ _ _ _ _ ) hP rfl rfl rfl rfl fun x48_10 T6 n6 h13 ρ its hS => ?_
  refine as_ ?_
  refine dn ?_
  refine CV.ret ?_
  cases h13
  exact PV.ret (by simp) Tryd.results96 hS (RS.tmp rfl RS.nil) rfl
noncomputable def g97_k1 (ih : FuncId → List HT → List AV → HT → Nat → R) (ro : List HT) (y0 y2 y3 y4 : AV) (T3 : HT) (n3 : Nat) : R :=
 callK (g57 ro y0 (.lit (.string ⟨⟨[125]⟩⟩)) T3 n3) fun x30_3 T4 n4 =>
 ncK 970012 y0 fun x32_4 =>
 faK 970013 x32_4 3 fun x33_5 =>
 ldK 970014 T4 ro x33_5 fun x34_6 =>
 subK Tryd.prog 3 (.tmp 34) (.const (.int .i64 (.ofNat 1))) 970015 x34_6 (.lit (.int .i64 (.ofNat 1))) fun x35_7 =>
 ncK 970016 y0 fun x36_8 =>
 faK 970017 x36_8 3 fun x37_9 =>
 stK 970018 T4 x37_9 x35_7 fun T5 =>
 callK (g26 ro y0 (.lit (.int .i64 (.ofNat 9))) y3 (.lit (.string ⟨⟨[]⟩⟩)) y4 T5 n4) fun x41_10 T6 n6 =>
 .ok (.val x41_10) T6 n6
noncomputable def g97_b2 (ih : FuncId → List HT → List AV → HT → Nat → R) (ro : List HT) (lp2 : AV → AV → AV → AV → HT → Nat → R) (y0 y2 y3 y4 : AV) (T7 : HT) (n7 : Nat) : R :=
 bsK 970026 T7 n7 1 9 1 [(0, (.lit (.string ⟨⟨[125]⟩⟩)))] fun x11_11 T8 n8 =>
 callK (g35 ro y0 x11_11 T8 n8) fun x12_12 T9 n9 =>
 notK 970028 x12_12 fun x13_13 =>
 condK 970029 x13_13
 (
  callK (ih 42 ro [y0] T9 n9) fun x16_14 T10 n10 =>
  bsK 970033 T10 n10 1 3 1 [(0, x16_14)] fun x17_15 T11 n11 =>
  appK 970034 T11 ro n11 3 1 8 y4 x17_15 fun x18_16 T12 n12 =>
  callK (g57 ro y0 (.lit (.string ⟨⟨[58]⟩⟩)) T12 n12) fun x20_17 T13 n13 =>
  callK (ih 42 ro [y0] T13 n13) fun x23_18 T14 n14 =>
  bsK 970041 T14 n14 1 3 1 [(0, x23_18)] fun x24_19 T15 n15 =>
  appK 970042 T15 ro n15 3 1 8 x18_16 x24_19 fun x25_20 T16 n16 =>
  callK (g43 ro y0 (.lit (.string ⟨⟨[44]⟩⟩)) T16 n16) fun x27_21 T17 n17 =>
  notK 970046 x27_21 fun x28_22 =>
  condK 970047 x28_22
  (
   g97_k1 ih ro y0 y2 y3 x25_20 T17 n17
  )
  (
   lp2 y0 y2 y3 x25_20 T17 n17
  )
 )
 (
  g97_k1 ih ro y0 y2 y3 y4 T9 n9
 )
noncomputable def g97 (ih : FuncId → List HT → List AV → HT → Nat → R) (ro : List HT) (a0 : AV) (T : HT) (nx : Nat) : R :=
 callK (g57 ro a0 (.lit (.string ⟨⟨[123]⟩⟩)) T nx) fun x6_1 T1 n1 =>
 callK (g56 ro a0 x6_1 T1 n1) fun x9_2 T2 n2 =>
 lpf4 970024 (g97_b2 ih ro) 100000 a0 (.lit (.int .i64 (.ofNat 0))) x6_1 (.lit (.slice none 0 0)) T2 n2
theorem g97_ok (ih : FuncId → List HT → List AV → HT → Nat → R) (hI : ∀ f ro args T nx, GOk Tryd.prog envE f args ro T nx (ih f ro args T nx)) (ro : List HT) (a0 : AV) (T : HT) (nx : Nat) : GOk Tryd.prog envE 97 [a0] ro T nx (g97 ih ro a0 T nx) := by
 refine GOk.of_body Tryd.func97 rfl Tryd.ntmps97 (by kernel_rfl) rfl fun r T' n' h1 w0 base ρ0 its hS hP => ?_
 have X : CtxW envE ρ0 ro r T' n' := trivial
 unfold g97 at h1
 refine sr ?_
 refine as_ ?_
 refine dn ?_
 refine sr ?_
 refine mv ?_
 refine LV.call hS h1 (g57_ok _ _ _ _ _ ) hP rfl rfl rfl rfl fun x6_1 T1 n1 h2 ρ its hS => ?_
 refine as_ ?_
 refine dn ?_
 refine sr ?_
 refine mv ?_
 refine mv ?_
 refine LV.call hS h2 (g56_ok _ _ _ _ _ ) hP rfl rfl rfl rfl fun x9_2 T2 n2 h3 ρ its hS => ?_
 refine dn ?_
 refine sr ?_
 refine as_ ?_
 refine dn ?_
 refine cs4 X 0 2 3 4 [] (g97_k1 ih ro) ?_ ?_
 ·
  refine CV.block ?_
  refine cl4 X 0 2 3 4 [] hS h3 ⟨rfl, rfl, rfl, rfl, trivial⟩ ?_
  intro f2 y0 y2 y3 y4 T7 n7 ρ its hS h14
  unfold g97_b2 at h14
  clear h1 h2 h3
  refine CV.seq ?_
  refine sr ?_
  refine mv ?_
  refine LV.bslice hS h14 rfl rfl Paf.el33 rfl rfl rfl rfl fun x11_11 T8 n8 h15 ρ its hS hdr => ?_
  refine LV.call hS h15 (g35_ok _ _ _ _ _ ) hP rfl rfl rfl rfl fun x12_12 T9 n9 h16 ρ its hS => ?_
  refine vy (V.not h16 rfl) fun x13_13 h17 => ?_
  refine dn ?_
  refine CV.cond h17 rfl (fun e h18 => ?_) (fun e h18 => ?_)
  ·
   clear h14 h15 h16 h17
   subst e
   refine CV.skip ?_
   refine PV.thenN ?_
   refine CV.block ?_
   refine sr ?_
   refine mv ?_
   refine mv ?_
   refine LV.call hS h18 (hI _ _ _ _ _) hP rfl rfl rfl rfl fun x16_14 T10 n10 h19 ρ its hS => ?_
   refine LV.bslice hS h19 rfl rfl Paf.el29 rfl rfl rfl rfl fun x17_15 T11 n11 h20 ρ its hS hdr => ?_
   refine LV.app hS h20 rfl rfl rfl rfl Paf.el29 rfl rfl rfl fun x18_16 T12 n12 h21 ρ its hS => ?_
   refine as_ ?_
   refine dn ?_
   refine sr ?_
   refine mv ?_
   refine LV.call hS h21 (g57_ok _ _ _ _ _ ) hP rfl rfl rfl rfl fun x20_17 T13 n13 h22 ρ its hS => ?_
   refine dn ?_
   refine sr ?_
   refine mv ?_
   refine mv ?_
   refine LV.call hS h22 (hI _ _ _ _ _) hP rfl rfl rfl rfl fun x23_18 T14 n14 h23 ρ its hS => ?_
   refine LV.bslice hS h23 rfl rfl Paf.el29 rfl rfl rfl rfl fun x24_19 T15 n15 h24 ρ its hS hdr => ?_
   refine LV.app hS h24 rfl rfl rfl rfl Paf.el29 rfl rfl rfl fun x25_20 T16 n16 h25 ρ its hS => ?_
   refine as_ ?_
   refine dn ?_
   refine sr ?_
   refine mv ?_
   refine LV.call hS h25 (g43_ok _ _ _ _ _ ) hP rfl rfl rfl rfl fun x27_21 T17 n17 h26 ρ its hS => ?_
   refine vy (V.not h26 rfl) fun x28_22 h27 => ?_
   refine dn ?_
   refine CV.cond h27 rfl (fun e h28 => ?_) (fun e h28 => ?_)
   ·
    clear h18 h19 h20 h21 h22 h23 h24 h25 h26 h27
    subst e
    refine CV.exit ?_
    refine PV.blockO rfl ?_
    refine PV.thenE ?_
    refine PV.blockE ?_
    exact pa4 hS h28 ⟨rfl, rfl, rfl, rfl, trivial⟩
   ·
    clear h18 h19 h20 h21 h22 h23 h24 h25 h26 h27
    subst e
    refine CV.skip ?_
    refine PV.blockN ?_
    exact pb4 hS h28 ⟨rfl, rfl, rfl, rfl, trivial⟩
  ·
   clear h14 h15 h16 h17
   subst e
   refine CV.exit ?_
   refine PV.thenE ?_
   refine PV.thenE ?_
   refine PV.blockE ?_
   exact pa4 hS h18 ⟨rfl, rfl, rfl, rfl, trivial⟩
 ·
  intro y0 y2 y3 y4 T3 n3 ρ its hS h4
  unfold g97_k1 at h4
  clear h1 h2 h3
  refine sr ?_
  refine mv ?_
  refine LV.call hS h4 (g57_ok _ _ _ _ _ ) hP rfl rfl rfl rfl fun x30_3 T4 n4 h5 ρ its hS => ?_
  refine dn ?_
  refine sr ?_
  refine mv ?_
  refine vy (V.nc h5 rfl) fun x32_4 h6 => ?_
  refine vy (V.fa h6 rfl Paf.fo49_3) fun x33_5 h7 => ?_
  refine vy (V.ld hS h7 rfl Paf.one3) fun x34_6 h8 => ?_
  refine vy (V.sub h8 rfl rfl) fun x35_7 h9 => ?_
  refine vy (V.nc h9 rfl) fun x36_8 h10 => ?_
  refine vy (V.fa h10 rfl Paf.fo49_3) fun x37_9 h11 => ?_
  refine LV.st hS h11 rfl rfl rfl Paf.siz3 rfl rfl fun T5 its h12 hS => ?_
  refine dn ?_
  refine sr ?_
  refine mv ?_
  refine mv ?_
  refine mv ?_
  refine LV.call hS h12 (g26_ok _ _ _ _ _ _ _ _ ) hP rfl rfl rfl rfl fun x41_10 T6 n6 h13 ρ its hS => ?_
  refine as_ ?_
  refine dn ?_
  refine CV.ret ?_
  cases h13
  exact PV.ret (by simp) Tryd.results97 hS (RS.tmp rfl RS.nil) rfl
noncomputable def g98 (ih : FuncId → List HT → List AV → HT → Nat → R) (ro : List HT) (a0 : AV) (T : HT) (nx : Nat) : R :=
 bsK 980005 T nx 3 9 1 [(0, (.lit (.string ⟨⟨[42]⟩⟩))), (1, (.lit (.string ⟨⟨[47, 47]⟩⟩))), (2, (.lit (.string ⟨⟨[37]⟩⟩)))] fun x6_1 T1 n1 =>
 callK (ih 76 ro [a0, (.fn (.func 100) [a0] []), x6_1] T1 n1) fun x7_2 T2 n2 =>
 .ok (.val x7_2) T2 n2
theorem g98_ok (ih : FuncId → List HT → List AV → HT → Nat → R) (hI : ∀ f ro args T nx, GOk Tryd.prog envE f args ro T nx (ih f ro args T nx)) (ro : List HT) (a0 : AV) (T : HT) (nx : Nat) : GOk Tryd.prog envE 98 [a0] ro T nx (g98 ih ro a0 T nx) := by
 refine GOk.of_body Tryd.func98 rfl Tryd.ntmps98 (by kernel_rfl) rfl fun r T' n' h1 w0 base ρ0 its hS hP => ?_
 have X : CtxW envE ρ0 ro r T' n' := trivial
 unfold g98 at h1
 refine sr ?_
 refine as_ ?_
 refine dn ?_
 refine sr ?_
 refine mv ?_
 refine mv ?_
 refine pu ?_
 refine LV.bslice hS h1 rfl rfl Paf.el33 rfl rfl rfl rfl fun x6_1 T1 n1 h2 ρ its hS hdr => ?_
 refine LV.call hS h2 (hI _ _ _ _ _) hP rfl rfl rfl rfl fun x7_2 T2 n2 h3 ρ its hS => ?_
 refine as_ ?_
 refine dn ?_
 refine CV.ret ?_
 cases h3
 exact PV.ret (by simp) Tryd.results98 hS (RS.tmp rfl RS.nil) rfl
noncomputable def g99_k1 (ih : FuncId → List HT → List AV → HT → Nat → R) (ro : List HT) (y0 y1 y6 y8 : AV) (T6 : HT) (n6 : Nat) : R :=
 callK (g57 ro y0 (.lit (.string ⟨⟨[93]⟩⟩)) T6 n6) fun x28_6 T7 n7 =>
 ncK 990018 y0 fun x30_7 =>
 faK 990019 x30_7 3 fun x31_8 =>
 ldK 990020 T7 ro x31_8 fun x32_9 =>
 subK Tryd.prog 3 (.tmp 32) (.const (.int .i64 (.ofNat 1))) 990021 x32_9 (.lit (.int .i64 (.ofNat 1))) fun x33_10 =>
 ncK 990022 y0 fun x34_11 =>
 faK 990023 x34_11 3 fun x35_12 =>
 stK 990024 T7 x35_12 x33_10 fun T8 =>
 callK (g26 ro y0 (.lit (.int .i64 (.ofNat 34))) y1 (.lit (.string ⟨⟨[]⟩⟩)) y8 T8 n7) fun x39_13 T9 n9 =>
 .ok (.val x39_13) T9 n9
noncomputable def g99 (ih : FuncId → List HT → List AV → HT → Nat → R) (ro : List HT) (a0 a1 a2 : AV) (T : HT) (nx : Nat) : R :=
 callK (g57 ro a0 (.lit (.string ⟨⟨[102, 111, 114]⟩⟩)) T nx) fun x10_1 T1 n1 =>
 callK (ih 58 ro [a0, (.lit (.string ⟨⟨[105, 110]⟩⟩))] T1 n1) fun x12_2 T2 n2 =>
 callK (g57 ro a0 (.lit (.string ⟨⟨[105, 110]⟩⟩)) T2 n2) fun x14_3 T3 n3 =>
 callK (ih 65 ro [a0] T3 n3) fun x18_4 T4 n4 =>
 bsK 990013 T4 n4 3 3 1 [(0, a2), (1, x12_2), (2, x18_4)] fun x19_5 T5 n5 =>
 callK (g43 ro a0 (.lit (.string ⟨⟨[105, 102]⟩⟩)) T5 n5) fun x21_14 T10 n10 =>
 condK 990032 x21_14
 (
  callK (ih 65 ro [a0] T10 n10) fun x24_15 T11 n11 =>
  bsK 990036 T11 n11 1 3 1 [(0, x24_15)] fun x25_16 T12 n12 =>
  appK 990037 T12 ro n12 3 1 8 x19_5 x25_16 fun x26_17 T13 n13 =>
  g99_k1 ih ro a0 a1 (.lit (.int .i64 (.ofNat 0))) x26_17 T13 n13
 )
 (
  g99_k1 ih ro a0 a1 (.lit (.int .i64 (.ofNat 0))) x19_5 T10 n10
 )
theorem g99_ok (ih : FuncId → List HT → List AV → HT → Nat → R) (hI : ∀ f ro args T nx, GOk Tryd.prog envE f args ro T nx (ih f ro args T nx)) (ro : List HT) (a0 a1 a2 : AV) (T : HT) (nx : Nat) : GOk Tryd.prog envE 99 [a0, a1, a2] ro T nx (g99 ih ro a0 a1 a2 T nx) := by
 refine GOk.of_body Tryd.func99 rfl Tryd.ntmps99 (by kernel_rfl) rfl fun r T' n' h1 w0 base ρ0 its hS hP => ?_
 have X : CtxW envE ρ0 ro r T' n' := trivial
 unfold g99 at h1
 refine sr ?_
 refine as_ ?_
 refine dn ?_
 refine sr ?_
 refine mv ?_
 refine LV.call hS h1 (g57_ok _ _ _ _ _ ) hP rfl rfl rfl rfl fun x10_1 T1 n1 h2 ρ its hS => ?_
 refine dn ?_
 refine sr ?_
 refine mv ?_
 refine LV.call hS h2 (hI _ _ _ _ _) hP rfl rfl rfl rfl fun x12_2 T2 n2 h3 ρ its hS => ?_
 refine as_ ?_
 refine dn ?_
 refine sr ?_
 refine mv ?_
 refine LV.call hS h3 (g57_ok _ _ _ _ _ ) hP rfl rfl rfl rfl fun x14_3 T3 n3 h4 ρ its hS => ?_
 refine dn ?_
 refine sr ?_
 refine mv ?_
 refine mv ?_
 refine mv ?_
 refine LV.call hS h4 (hI _ _ _ _ _) hP rfl rfl rfl rfl fun x18_4 T4 n4 h5 ρ its hS => ?_
 refine LV.bslice hS h5 rfl rfl Paf.el29 rfl rfl rfl rfl fun x19_5 T5 n5 h6 ρ its hS hdr => ?_
 refine as_ ?_
 refine dn ?_
 refine cs4 X 0 1 6 8 [] (g99_k1 ih ro) ?_ ?_
 ·
  refine sr ?_
  refine mv ?_
  refine LV.call hS h6 (g43_ok _ _ _ _ _ ) hP rfl rfl rfl rfl fun x21_14 T10 n10 h17 ρ its hS => ?_
  refine dn ?_
  refine CV.cond h17 rfl (fun e h18 => ?_) (fun e h18 => ?_)
  ·
   clear h1 h2 h3 h4 h5 h6 h17
   subst e
   refine CV.region ?_
   refine mv ?_
   refine mv ?_
   refine LV.call hS h18 (hI _ _ _ _ _) hP rfl rfl rfl rfl fun x24_15 T11 n11 h19 ρ its hS => ?_
   refine LV.bslice hS h19 rfl rfl Paf.el29 rfl rfl rfl rfl fun x25_16 T12 n12 h20 ρ its hS hdr => ?_
   refine LV.app hS h20 rfl rfl rfl rfl Paf.el29 rfl rfl rfl fun x26_17 T13 n13 h21 ρ its hS => ?_
   refine as_ ?_
   refine LV.done ?_
   exact pa4 hS h21 ⟨rfl, rfl, rfl, rfl, trivial⟩
  ·
   clear h1 h2 h3 h4 h5 h6 h17
   subst e
   refine CV.skip ?_
   exact pa4 hS h18 ⟨rfl, rfl, rfl, rfl, trivial⟩
 ·
  intro y0 y1 y6 y8 T6 n6 ρ its hS h7
  unfold g99_k1 at h7
  clear h1 h2 h3 h4 h5 h6
  refine sr ?_
  refine mv ?_
  refine LV.call hS h7 (g57_ok _ _ _ _ _ ) hP rfl rfl rfl rfl fun x28_6 T7 n7 h8 ρ its hS => ?_
  refine dn ?_
  refine sr ?_
  refine mv ?_
  refine vy (V.nc h8 rfl) fun x30_7 h9 => ?_
  refine vy (V.fa h9 rfl Paf.fo49_3) fun x31_8 h10 => ?_
  refine vy (V.ld hS h10 rfl Paf.one3) fun x32_9 h11 => ?_
  refine vy (V.sub h11 rfl rfl) fun x33_10 h12 => ?_
  refine vy (V.nc h12 rfl) fun x34_11 h13 => ?_
  refine vy (V.fa h13 rfl Paf.fo49_3) fun x35_12 h14 => ?_
  refine LV.st hS h14 rfl rfl rfl Paf.siz3 rfl rfl fun T8 its h15 hS => ?_
  refine dn ?_
  refine sr ?_
  refine mv ?_
  refine mv ?_
  refine mv ?_
  refine LV.call hS h15 (g26_ok _ _ _ _ _ _ _ _ ) hP rfl rfl rfl rfl fun x39_13 T9 n9 h16 ρ its hS => ?_
  refine as_ ?_
  refine dn ?_
  refine CV.ret ?_
  cases h16
  exact PV.ret (by simp) Tryd.results99 hS (RS.tmp rfl RS.nil) rfl
noncomputable def g100 (ih : FuncId → List HT → List AV → HT → Nat → R) (ro : List HT) (a0 : AV) (T : HT) (nx : Nat) : R :=
 bsK 1000003 T nx 1 9 1 [(0, (.lit (.string ⟨⟨[45]⟩⟩)))] fun x6_1 T1 n1 =>
 callK (g35 ro a0 x6_1 T1 n1) fun x7_2 T2 n2 =>
 notK 1000005 x7_2 fun x8_3 =>
 condK 1000006 x8_3
 (
  callK (ih 88 ro [a0] T2 n2) fun x10_4 T3 n3 =>
  .ok (.val x10_4) T3 n3
 )
 (
  callK (g57 ro a0 (.lit (.string ⟨⟨[45]⟩⟩)) T2 n2) fun x12_5 T4 n4 =>
  callK (g56 ro a0 x12_5 T4 n4) fun x15_6 T5 n5 =>
  callK (ih 100 ro [a0] T5 n5) fun x17_7 T6 n6 =>
  ncK 1000020 a0 fun x19_8 =>
  faK 1000021 x19_8 3 fun x20_9 =>
  ldK 1000022 T6 ro x20_9 fun x21_10 =>
  subK Tryd.prog 3 (.tmp 21) (.const (.int .i64 (.ofNat 1))) 1000023 x21_10 (.lit (.int .i64 (.ofNat 1))) fun x22_11 =>
  ncK 1000024 a0 fun x23_12 =>
  faK 1000025 x23_12 3 fun x24_13 =>
  stK 1000026 T6 x24_13 x22_11 fun T7 =>
  bsK 1000030 T7 n6 1 3 1 [(0, x17_7)] fun x28_14 T8 n8 =>
  callK (g26 ro a0 (.lit (.int .i64 (.ofNat 16))) x12_5 (.lit (.string ⟨⟨[]⟩⟩)) x28_14 T8 n8) fun x29_15 T9 n9 =>
  .ok (.val x29_15) T9 n9
 )
theorem g100_ok (ih : FuncId → List HT → List AV → HT → Nat → R) (hI : ∀ f ro args T nx, GOk Tryd.prog envE f args ro T nx (ih f ro args T nx)) (ro : List HT) (a0 : AV) (T : HT) (nx : Nat) : GOk Tryd.prog envE 100 [a0] ro T nx (g100 ih ro a0 T nx) := by
 refine GOk.of_body Tryd.func100 rfl Tryd.ntmps100 (by kernel_rfl) rfl fun r T' n' h1 w0 base ρ0 its hS hP => ?_
 have X : CtxW envE ρ0 ro r T' n' := trivial
 unfold g100 at h1
 refine sr ?_
 refine as_ ?_
 refine dn ?_
 refine CV.seq ?_
 refine sr ?_
 refine mv ?_
 refine LV.bslice hS h1 rfl rfl Paf.el33 rfl rfl rfl rfl fun x6_1 T1 n1 h2 ρ its hS hdr => ?_
 refine LV.call hS h2 (g35_ok _ _ _ _ _ ) hP rfl rfl rfl rfl fun x7_2 T2 n2 h3 ρ its hS => ?_
 refine vy (V.not h3 rfl) fun x8_3 h4 => ?_
 refine dn ?_
 refine CV.cond h4 rfl (fun e h5 => ?_) (fun e h5 => ?_)
 ·
  clear h1 h2 h3 h4
  subst e
  refine sr ?_
  refine mv ?_
  refine LV.call hS h5 (hI _ _ _ _ _) hP rfl rfl rfl rfl fun x10_4 T3 n3 h6 ρ its hS => ?_
  refine as_ ?_
  refine dn ?_
  refine CV.ret ?_
  refine PV.thenR ?_
  cases h6
  exact PV.ret (by simp) Tryd.results100 hS (RS.tmp rfl RS.nil) rfl
 ·
  clear h1 h2 h3 h4
  subst e
  refine CV.skip ?_
  refine PV.thenN ?_
  refine sr ?_
  refine mv ?_
  refine LV.call hS h5 (g57_ok _ _ _ _ _ ) hP rfl rfl rfl rfl fun x12_5 T4 n4 h7 ρ its hS => ?_
  refine as_ ?_
  refine dn ?_
  refine sr ?_
  refine mv ?_
  refine mv ?_
  refine LV.call hS h7 (g56_ok _ _ _ _ _ ) hP rfl rfl rfl rfl fun x15_6 T5 n5 h8 ρ its hS => ?_
  refine dn ?_
  refine sr ?_
  refine mv ?_
  refine LV.call hS h8 (hI _ _ _ _ _) hP rfl rfl rfl rfl fun x17_7 T6 n6 h9 ρ its hS => ?_
  refine as_ ?_
  refine dn ?_
  refine sr ?_
  refine mv ?_
  refine vy (V.nc h9 rfl) fun x19_8 h10 => ?_
  refine vy (V.fa h10 rfl Paf.fo49_3) fun x20_9 h11 => ?_
  refine vy (V.ld hS h11 rfl Paf.one3) fun x21_10 h12 => ?_
  refine vy (V.sub h12 rfl rfl) fun x22_11 h13 => ?_
  refine vy (V.nc h13 rfl) fun x23_12 h14 => ?_
  refine vy (V.fa h14 rfl Paf.fo49_3) fun x24_13 h15 => ?_
  refine LV.st hS h15 rfl rfl rfl Paf.siz3 rfl rfl fun T7 its h16 hS => ?_
  refine dn ?_
  refine sr ?_
  refine mv ?_
  refine mv ?_
  refine mv ?_
  refine LV.bslice hS h16 rfl rfl Paf.el29 rfl rfl rfl rfl fun x28_14 T8 n8 h17 ρ its hS hdr => ?_
  refine LV.call hS h17 (g26_ok _ _ _ _ _ _ _ _ ) hP rfl rfl rfl rfl fun x29_15 T9 n9 h18 ρ its hS => ?_
  refine as_ ?_
  refine dn ?_
  refine CV.ret ?_
  cases h18
  exact PV.ret (by simp) Tryd.results100 hS (RS.tmp rfl RS.nil) rfl
noncomputable def ap2 (ih : FuncId → List HT → List AV → HT → Nat → R) (f : FuncId) (ro : List HT) (args : List AV) (T : HT) (nx : Nat) : R :=
  bif Nat.beq f 13 then (match args with | [a0] => g13 ih ro a0 T nx | _ => .bad 1) else bif Nat.beq f 14 then (match args with | [a0] => g14 ih ro a0 T nx | _ => .bad 1) else bif Nat.beq f 19 then (match args with | [a0] => g19 ih ro a0 T nx | _ => .bad 1) else bif Nat.beq f 20 then (match args with | [a0] => g20 ih ro a0 T nx | _ => .bad 1) else bif Nat.beq f 25 then (match args with | [a0, a1] => g25 ih ro a0 a1 T nx | _ => .bad 1) else bif Nat.beq f 29 then (match args with | [a0] => g29 ih ro a0 T nx | _ => .bad 1) else bif Nat.beq f 36 then (match args with | [a0] => g36 ih ro a0 T nx | _ => .bad 1) else bif Nat.beq f 37 then (match args with | [a0] => g37 ih ro a0 T nx | _ => .bad 1) else bif Nat.beq f 38 then (match args with | [a0] => g38 ih ro a0 T nx | _ => .bad 1) else bif Nat.beq f 39 then (match args with | [a0, a1] => g39 ih ro a0 a1 T nx | _ => .bad 1) else bif Nat.beq f 42 then (match args with | [a0] => g42 ih ro a0 T nx | _ => .bad 1) else bif Nat.beq f 55 then (match args with | [a0] => g55 ih ro a0 T nx | _ => .bad 1) else bif Nat.beq f 58 then (match args with | [a0, a1] => g58 ih ro a0 a1 T nx | _ => .bad 1) else bif Nat.beq f 60 then (match args with | [a0] => g60 ih ro a0 T nx | _ => .bad 1) else bif Nat.beq f 65 then (match args with | [a0] => g65 ih ro a0 T nx | _ => .bad 1) else bif Nat.beq f 74 then (match args with | [a0, a1] => g74 ih ro a0 a1 T nx | _ => .bad 1) else bif Nat.beq f 76 then (match args with | [a0, a1, a2] => g76 ih ro a0 a1 a2 T nx | _ => .bad 1) else bif Nat.beq f 77 then (match args with | [a0] => g77 ih ro a0 T nx | _ => .bad 1) else bif Nat.beq f 83 then (match args with | [a0] => g83 ih ro a0 T nx | _ => .bad 1) else bif Nat.beq f 85 then (match args with | [a0] => g85 ih ro a0 T nx | _ => .bad 1) else bif Nat.beq f 88 then (match args with | [a0] => g88 ih ro a0 T nx | _ => .bad 1) else bif Nat.beq f 90 then (match args with | [a0] => g90 ih ro a0 T nx | _ => .bad 1) else bif Nat.beq f 91 then (match args with | [a0] => g91 ih ro a0 T nx | _ => .bad 1) else bif Nat.beq f 92 then (match args with | [a0, a1] => g92 ih ro a0 a1 T nx | _ => .bad 1) else bif Nat.beq f 93 then (match args with | [a0, a1] => g93 ih ro a0 a1 T nx | _ => .bad 1) else bif Nat.beq f 94 then (match args with | [a0] => g94 ih ro a0 T nx | _ => .bad 1) else bif Nat.beq f 95 then (match args with | [a0] => g95 ih ro a0 T nx | _ => .bad 1) else bif Nat.beq f 96 then (match args with | [a0] => g96 ih ro a0 T nx | _ => .bad 1) else bif Nat.beq f 97 then (match args with | [a0] => g97 ih ro a0 T nx | _ => .bad 1) else bif Nat.beq f 98 then (match args with | [a0] => g98 ih ro a0 T nx | _ => .bad 1) else bif Nat.beq f 99 then (match args with | [a0, a1, a2] => g99 ih ro a0 a1 a2 T nx | _ => .bad 1) else bif Nat.beq f 100 then (match args with | [a0] => g100 ih ro a0 T nx | _ => .bad 1) else .bad 2
noncomputable def scc2 (fuel : Nat) : FuncId → List HT → List AV → HT → Nat → R :=
  Nat.rec (motive := fun _ => FuncId → List HT → List AV → HT → Nat → R) (fun _ _ _ _ _ => .bad 3) (fun _ ih => ap2 ih) fuel
theorem ap2_ok (ih : FuncId → List HT → List AV → HT → Nat → R) (hI : ∀ f ro args T nx, GOk Tryd.prog envE f args ro T nx (ih f ro args T nx)) (f : FuncId) (ro : List HT) (args : List AV) (T : HT) (nx : Nat) : GOk Tryd.prog envE f args ro T nx (ap2 ih f ro args T nx) := by
  unfold ap2
  refine bif_go (fun hb => ?_) (fun _ => ?_)
  · obtain rfl := beqT hb
    split
    · exact g13_ok _ hI _ _ _ _ 
    · exact GOk.bad
  refine bif_go (fun hb => ?_) (fun _ => ?_)
  · obtain rfl := beqT hb
    split
    · exact g14_ok _ hI _ _ _ _ 
    · exact GOk.bad
  refine bif_go (fun hb => ?_) (fun _ => ?_)
  · obtain rfl := beqT hb
    split
    · exact g19_ok _ hI _ _ _ _ 
    · exact GOk.bad
  refine bif_go (fun hb => ?_) (fun _ => ?_)
  · obtain rfl := beqT hb
    split
    · exact g20_ok _ hI _ _ _ _ 
    · exact GOk.bad
  refine bif_go (fun hb => ?_) (fun _ => ?_)
  · obtain rfl := beqT hb
    split
    · exact g25_ok _ hI _ _ _ _ _ 
    · exact GOk.bad
  refine bif_go (fun hb => ?_) (fun _ => ?_)
  · obtain rfl := beqT hb
    split
    · exact g29_ok _ hI _ _ _ _ 
    · exact GOk.bad
  refine bif_go (fun hb => ?_) (fun _ => ?_)
  · obtain rfl := beqT hb
    split
    · exact g36_ok _ hI _ _ _ _ 
    · exact GOk.bad
  refine bif_go (fun hb => ?_) (fun _ => ?_)
  · obtain rfl := beqT hb
    split
    · exact g37_ok _ hI _ _ _ _ 
    · exact GOk.bad
  refine bif_go (fun hb => ?_) (fun _ => ?_)
  · obtain rfl := beqT hb
    split
    · exact g38_ok _ hI _ _ _ _ 
    · exact GOk.bad
  refine bif_go (fun hb => ?_) (fun _ => ?_)
  · obtain rfl := beqT hb
    split
    · exact g39_ok _ hI _ _ _ _ _ 
    · exact GOk.bad
  refine bif_go (fun hb => ?_) (fun _ => ?_)
  · obtain rfl := beqT hb
    split
    · exact g42_ok _ hI _ _ _ _ 
    · exact GOk.bad
  refine bif_go (fun hb => ?_) (fun _ => ?_)
  · obtain rfl := beqT hb
    split
    · exact g55_ok _ hI _ _ _ _ 
    · exact GOk.bad
  refine bif_go (fun hb => ?_) (fun _ => ?_)
  · obtain rfl := beqT hb
    split
    · exact g58_ok _ hI _ _ _ _ _ 
    · exact GOk.bad
  refine bif_go (fun hb => ?_) (fun _ => ?_)
  · obtain rfl := beqT hb
    split
    · exact g60_ok _ hI _ _ _ _ 
    · exact GOk.bad
  refine bif_go (fun hb => ?_) (fun _ => ?_)
  · obtain rfl := beqT hb
    split
    · exact g65_ok _ hI _ _ _ _ 
    · exact GOk.bad
  refine bif_go (fun hb => ?_) (fun _ => ?_)
  · obtain rfl := beqT hb
    split
    · exact g74_ok _ hI _ _ _ _ _ 
    · exact GOk.bad
  refine bif_go (fun hb => ?_) (fun _ => ?_)
  · obtain rfl := beqT hb
    split
    · exact g76_ok _ hI _ _ _ _ _ _ 
    · exact GOk.bad
  refine bif_go (fun hb => ?_) (fun _ => ?_)
  · obtain rfl := beqT hb
    split
    · exact g77_ok _ hI _ _ _ _ 
    · exact GOk.bad
  refine bif_go (fun hb => ?_) (fun _ => ?_)
  · obtain rfl := beqT hb
    split
    · exact g83_ok _ hI _ _ _ _ 
    · exact GOk.bad
  refine bif_go (fun hb => ?_) (fun _ => ?_)
  · obtain rfl := beqT hb
    split
    · exact g85_ok _ hI _ _ _ _ 
    · exact GOk.bad
  refine bif_go (fun hb => ?_) (fun _ => ?_)
  · obtain rfl := beqT hb
    split
    · exact g88_ok _ hI _ _ _ _ 
    · exact GOk.bad
  refine bif_go (fun hb => ?_) (fun _ => ?_)
  · obtain rfl := beqT hb
    split
    · exact g90_ok _ hI _ _ _ _ 
    · exact GOk.bad
  refine bif_go (fun hb => ?_) (fun _ => ?_)
  · obtain rfl := beqT hb
    split
    · exact g91_ok _ hI _ _ _ _ 
    · exact GOk.bad
  refine bif_go (fun hb => ?_) (fun _ => ?_)
  · obtain rfl := beqT hb
    split
    · exact g92_ok _ hI _ _ _ _ _ 
    · exact GOk.bad
  refine bif_go (fun hb => ?_) (fun _ => ?_)
  · obtain rfl := beqT hb
    split
    · exact g93_ok _ hI _ _ _ _ _ 
    · exact GOk.bad
  refine bif_go (fun hb => ?_) (fun _ => ?_)
  · obtain rfl := beqT hb
    split
    · exact g94_ok _ hI _ _ _ _ 
    · exact GOk.bad
  refine bif_go (fun hb => ?_) (fun _ => ?_)
  · obtain rfl := beqT hb
    split
    · exact g95_ok _ hI _ _ _ _ 
    · exact GOk.bad
  refine bif_go (fun hb => ?_) (fun _ => ?_)
  · obtain rfl := beqT hb
    split
    · exact g96_ok _ hI _ _ _ _ 
    · exact GOk.bad
  refine bif_go (fun hb => ?_) (fun _ => ?_)
  · obtain rfl := beqT hb
    split
    · exact g97_ok _ hI _ _ _ _ 
    · exact GOk.bad
  refine bif_go (fun hb => ?_) (fun _ => ?_)
  · obtain rfl := beqT hb
    split
    · exact g98_ok _ hI _ _ _ _ 
    · exact GOk.bad
  refine bif_go (fun hb => ?_) (fun _ => ?_)
  · obtain rfl := beqT hb
    split
    · exact g99_ok _ hI _ _ _ _ _ _ 
    · exact GOk.bad
  refine bif_go (fun hb => ?_) (fun _ => ?_)
  · obtain rfl := beqT hb
    split
    · exact g100_ok _ hI _ _ _ _ 
    · exact GOk.bad
  exact GOk.bad
theorem scc2_ok : ∀ (fuel : Nat) (f : FuncId) (ro : List HT) (args : List AV) (T : HT) (nx : Nat), GOk Tryd.prog envE f args ro T nx (scc2 fuel f ro args T nx)
  | 0, _, _, _, _, _ => GOk.bad
  | fuel + 1, f, ro, args, T, nx => ap2_ok (scc2 fuel) (scc2_ok fuel) f ro args T nx
noncomputable def g34 (ro : List HT) (a0 a1 a2 a3 : AV) (T : HT) (nx : Nat) : R :=
 ncK 340003 a0 fun x10_1 =>
 faK 340004 x10_1 2 fun x11_2 =>
 ldK 340005 T ro x11_2 fun x12_3 =>
 optK 340009 (bld68 [(0, a1), (1, a2), (2, a3)]) fun x16_4 =>
 bsK 340010 T nx 1 68 3 [(0, x16_4)] fun x17_5 T1 n1 =>
 appK 340011 T1 ro n1 68 3 32 x12_3 x17_5 fun x18_6 T2 n2 =>
 ncK 340012 a0 fun x19_7 =>
 faK 340013 x19_7 2 fun x20_8 =>
 stK 340014 T2 x20_8 x18_6 fun T3 =>
 .ok (.val (.tup [])) T3 n2
theorem g34_ok (ro : List HT) (a0 a1 a2 a3 : AV) (T : HT) (nx : Nat) : GOk Tryd.prog envE 34 [a0, a1, a2, a3] ro T nx (g34 ro a0 a1 a2 a3 T nx) := by
 refine GOk.of_body Tryd.func34 rfl Tryd.ntmps34 (by kernel_rfl) rfl fun r T' n' h1 w0 base ρ0 its hS hP => ?_
 have X : CtxW envE ρ0 ro r T' n' := trivial
 unfold g34 at h1
 refine CV.region ?_
 refine mv ?_
 refine mv ?_
 refine vy (V.nc h1 rfl) fun x10_1 h2 => ?_
 refine vy (V.fa h2 rfl Paf.fo72_2) fun x11_2 h3 => ?_
 refine vy (V.ld hS h3 rfl Paf.one47) fun x12_3 h4 => ?_
 refine mv ?_
 refine mv ?_
 refine mv ?_
 refine vy (V.bld h4 rfl) fun x16_4 h5 => ?_
 refine LV.bslice hS h5 rfl rfl Paf.el47 rfl rfl rfl rfl fun x17_5 T1 n1 h6 ρ its hS hdr => ?_
 refine LV.app hS h6 rfl rfl rfl rfl Paf.el47 rfl rfl rfl fun x18_6 T2 n2 h7 ρ its hS => ?_
 refine vy (V.nc h7 rfl) fun x19_7 h8 => ?_
 refine vy (V.fa h8 rfl Paf.fo72_2) fun x20_8 h9 => ?_
 refine LV.st hS h9 rfl rfl rfl Paf.siz47 rfl rfl fun T3 its h10 hS => ?_
 refine LV.done ?_
 cases h10
 exact PV.ret (by simp) Tryd.results34 hS RS.nil rfl
noncomputable def g33_k1 (ro : List HT) (y0 : AV) (T1 : HT) (n1 : Nat) : R :=
 ncK 330002 y0 fun x13_1 =>
 faK 330003 x13_1 5 fun x14_2 =>
 stK 330004 T1 x14_2 (.lit (.bool false)) fun T2 =>
 .ok (.val (.tup [])) T2 n1
noncomputable def g33 (ro : List HT) (a0 : AV) (T : HT) (nx : Nat) : R :=
 ncK 330006 a0 fun x3_3 =>
 faK 330007 x3_3 5 fun x4_4 =>
 ldK 330008 T ro x4_4 fun x5_5 =>
 condK 330009 x5_5
 (
  ncK 330012 a0 fun x8_6 =>
  faK 330013 x8_6 1 fun x9_7 =>
  ldK 330014 T ro x9_7 fun x10_8 =>
  callK (g34 ro a0 (.lit (.int .i64 (.ofNat 5))) (.lit (.string ⟨⟨[]⟩⟩)) x10_8 T nx) fun x11_9 T3 n3 =>
  g33_k1 ro a0 T3 n3
 )
 (
  g33_k1 ro a0 T nx
 )
theorem g33_ok (ro : List HT) (a0 : AV) (T : HT) (nx : Nat) : GOk Tryd.prog envE 33 [a0] ro T nx (g33 ro a0 T nx) := by
 refine GOk.of_body Tryd.func33 rfl Tryd.ntmps33 (by kernel_rfl) rfl fun r T' n' h1 w0 base ρ0 its hS hP => ?_
 have X : CtxW envE ρ0 ro r T' n' := trivial
 unfold g33 at h1
 refine cs1 X 0 [] (g33_k1 ro) ?_ ?_
 ·
  refine sr ?_
  refine mv ?_
  refine vy (V.nc h1 rfl) fun x3_3 h6 => ?_
  refine vy (V.fa h6 rfl Paf.fo72_5) fun x4_4 h7 => ?_
  refine vy (V.ld hS h7 rfl Paf.one4) fun x5_5 h8 => ?_
  refine dn ?_
  refine CV.cond h8 rfl (fun e h9 => ?_) (fun e h9 => ?_)
  ·
   clear h1 h6 h7 h8
   subst e
   refine CV.region ?_
   refine mv ?_
   refine mv ?_
   refine vy (V.nc h9 rfl) fun x8_6 h10 => ?_
   refine vy (V.fa h10 rfl Paf.fo72_1) fun x9_7 h11 => ?_
   refine vy (V.ld hS h11 rfl Paf.one3) fun x10_8 h12 => ?_
   refine LV.call hS h12 (g34_ok _ _ _ _ _ _ _ ) hP rfl rfl rfl rfl fun x11_9 T3 n3 h13 ρ its hS => ?_
   refine LV.done ?_
   exact pa1 hS h13 ⟨rfl, trivial⟩
  ·
   clear h1 h6 h7 h8
   subst e
   refine CV.skip ?_
   exact pa1 hS h9 ⟨rfl, trivial⟩
 ·
  intro y0 T1 n1 ρ its hS h2
  unfold g33_k1 at h2
  clear h1
  refine CV.region ?_
  refine mv ?_
  refine vy (V.nc h2 rfl) fun x13_1 h3 => ?_
  refine vy (V.fa h3 rfl Paf.fo72_5) fun x14_2 h4 => ?_
  refine LV.st hS h4 rfl rfl rfl Paf.siz4 rfl rfl fun T2 its h5 hS => ?_
  refine LV.done ?_
  cases h5
  exact PV.ret (by simp) Tryd.results33 hS RS.nil rfl
noncomputable def g32 (ro : List HT) (a0 : AV) (T : HT) (nx : Nat) : R :=
 optK 320004 (bld80 [(0, a0), (1, (.iface 108 (.opq 0)))]) fun x5_1 =>
 boxK 320005 T nx x5_1 80 fun x6_2 T1 n1 =>
 .ok (.val (.iface 54 x6_2)) T1 n1
theorem g32_ok (ro : List HT) (a0 : AV) (T : HT) (nx : Nat) : GOk Tryd.prog envE 32 [a0] ro T nx (g32 ro a0 T nx) := by
 refine GOk.of_body Tryd.func32 rfl Tryd.ntmps32 (by kernel_rfl) rfl fun r T' n' h1 w0 base ρ0 its hS hP => ?_
 have X : CtxW envE ρ0 ro r T' n' := trivial
 unfold g32 at h1
 refine sr ?_
 refine as_ ?_
 refine dn ?_
 refine sr ?_
 refine mv ?_
 refine sv (VAL.ldG hS (by rfl) Paf.one25) ?_
 refine vy (V.bld h1 rfl) fun x5_1 h2 => ?_
 refine LV.box hS h2 rfl rfl rfl rfl rfl fun x6_2 T1 n1 h3 ρ its hS hdr => ?_
 refine sv (VAL.mkI rfl Paf.ni54) ?_
 refine as_ ?_
 refine dn ?_
 refine CV.ret ?_
 cases h3
 exact PV.ret (by simp) Tryd.results32 hS (RS.tmp rfl RS.nil) rfl

end Go.Proofs.YtdepmlcnllofiaaDoor.Pa
