/-
  Proved here: plain functions that do what the program's functions do, each with its proof.
-/
import Derived.Test.YtdepmlcnllofiaaDoorPac
namespace Go.Proofs.YtdepmlcnllofiaaDoor.Pa
open Go.EY Go.EX Go.SX Go.RowKit
noncomputable def g46_k2 (ro : List HT) (lp1 : AV → AV → HT → Nat → R) (y0 y2 y40 : AV) (T2 : HT) (n2 : Nat) : R :=
 condK 460040 y40
 (
  ncK 460042 y0 fun x42_25 =>
  faK 460043 x42_25 1 fun x43_26 =>
  ldK 460044 T2 ro x43_26 fun x44_27 =>
  callK (g32 ro x44_27 T2 n2) fun x45_28 T3 n3 =>
  .ok (.val x45_28) T3 n3
 )
 (
  ncK 460048 y0 fun x47_29 =>
  faK 460049 x47_29 1 fun x48_30 =>
  ldK 460050 T2 ro x48_30 fun x49_31 =>
  addK Tryd.prog 3 (.tmp 49) (.const (.int .i64 (.ofNat 1))) 460051 x49_31 (.lit (.int .i64 (.ofNat 1))) fun x50_32 =>
  ncK 460052 y0 fun x51_33 =>
  faK 460053 x51_33 1 fun x52_34 =>
  stK 460054 T2 x52_34 x50_32 fun T4 =>
  lp1 y0 y2 T4 n2
 )
noncomputable def g46_b1 (ro : List HT) (lp1 : AV → AV → HT → Nat → R) (y0 y2 : AV) (T1 : HT) (n1 : Nat) : R :=
 ncK 460004 y0 fun x5_1 =>
 faK 460005 x5_1 1 fun x6_2 =>
 ldK 460006 T1 ro x6_2 fun x7_3 =>
 ncK 460008 y0 fun x9_4 =>
 faK 460009 x9_4 0 fun x10_5 =>
 ldK 460010 T1 ro x10_5 fun x11_6 =>
 lenTK 460011 x11_6 fun x12_7 =>
 ltK Tryd.prog 3 (.tmp 7) (.tmp 12) 460012 x7_3 x12_7 fun x13_8 =>
 condK 460014 x13_8
 (
  ncK 460016 y0 fun x16_9 =>
  faK 460017 x16_9 0 fun x17_10 =>
  ldK 460018 T1 ro x17_10 fun x18_11 =>
  ncK 460020 y0 fun x20_12 =>
  faK 460021 x20_12 1 fun x21_13 =>
  ldK 460022 T1 ro x21_13 fun x22_14 =>
  ixK 460023 x18_11 x22_14 fun x23_15 =>
  neK Tryd.prog 5 (.tmp 23) (.const (.int .u8 (.ofNat 10))) 460024 x23_15 (.lit (.int .u8 (.ofNat 10))) fun x24_16 =>
  condK 460026 x24_16
  (
   ncK 460028 y0 fun x27_17 =>
   faK 460029 x27_17 0 fun x28_18 =>
   ldK 460030 T1 ro x28_18 fun x29_19 =>
   ncK 460032 y0 fun x31_20 =>
   faK 460033 x31_20 1 fun x32_21 =>
   ldK 460034 T1 ro x32_21 fun x33_22 =>
   ixK 460035 x29_19 x33_22 fun x34_23 =>
   ltK Tryd.prog 5 (.tmp 35) (.const (.int .u8 (.ofNat 32))) 460038 x34_23 (.lit (.int .u8 (.ofNat 32))) fun x36_24 =>
   condK 460055 x36_24
   (
    g46_k2 ro lp1 y0 y2 (.lit (.bool true)) T1 n1
   )
   (
    eqK Tryd.prog 5 (.tmp 38) (.const (.int .u8 (.ofNat 127))) 460058 x34_23 (.lit (.int .u8 (.ofNat 127))) fun x39_35 =>
    g46_k2 ro lp1 y0 y2 x39_35 T1 n1
   )
  )
  (
   .ok (.val (.lit (.nilIface))) T1 n1
  )
 )
 (
  condK 460062 (.lit (.bool false))
  (
   .bad 0
  )
  (
   .ok (.val (.lit (.nilIface))) T1 n1
  )
 )
noncomputable def g46 (ro : List HT) (a0 : AV) (T : HT) (nx : Nat) : R :=
 lpf2 460002 (g46_b1 ro) 100000 a0 (.lit (.nilIface)) T nx
theorem g46_ok (ro : List HT) (a0 : AV) (T : HT) (nx : Nat) : GOk Tryd.prog envE 46 [a0] ro T nx (g46 ro a0 T nx) := by
 refine GOk.of_body Tryd.func46 rfl Tryd.ntmps46 (by kernel_rfl) rfl fun r T' n' h1 w0 base ρ0 its hS hP => ?_
 have X : CtxW envE ρ0 ro r T' n' := trivial
 unfold g46 at h1
 refine sr ?_
 refine as_ ?_
 refine dn ?_
 refine CV.seq ?_
 refine CV.block ?_
 refine cl2 X 0 2 [] hS h1 ⟨rfl, rfl, trivial⟩ ?_
 intro f1 y0 y2 T1 n1 ρ its hS h2
 unfold g46_b1 at h2
 clear h1
 refine CV.seq ?_
 refine CV.seq ?_
 refine CV.regionM [(0, .anywhere), (1, .anywhere), (2, .anywhere), (3, .held), (4, .anywhere), (5, .anywhere), (6, .anywhere), (7, .held), (8, .held), (9, .held), (10, .held), (11, .held), (12, .held), (13, .held), (14, .held), (15, .anywhere), (16, .anywhere), (17, .anywhere), (18, .held), (19, .held), (20, .held), (21, .held)] rfl (fun c a a' w hd hq => PanicOk.root (P := Tryd.prog) (fn := Tryd.f46) (w0 := w0) (base := base) (E := envE) (ro := ro) (r := r) (T' := T') (n' := n') (ρ0 := ρ0) c a a' w hd hq) (by kernel_rfl) ?_
 refine MV.step0 (i := 0) rfl (VAL.move rfl) rfl rfl rfl ?_
 refine MV.lift0 (i := 1) rfl (V.nc h2 rfl) rfl rfl rfl fun x5_1 h3 => ?_
 refine MV.lift0 (i := 2) rfl (V.fa h3 rfl Paf.fo72_1) rfl rfl rfl fun x6_2 h4 => ?_
 refine MV.lift1 (i := 3) rfl (fun _ z => z) (V.ld hS h4 rfl Paf.one3) rfl rfl rfl [] (by kernel_rfl) fun x7_3 h5 => ?_
 refine MV.step0 (i := 4) rfl (VAL.move rfl) rfl rfl rfl ?_
 refine MV.lift0 (i := 5) rfl (V.nc h5 rfl) rfl rfl rfl fun x9_4 h6 => ?_
 refine MV.lift0 (i := 6) rfl (V.fa h6 rfl Paf.fo72_0) rfl rfl rfl fun x10_5 h7 => ?_
 refine MV.lift1 (i := 7) rfl (fun _ z => z) (V.ld hS h7 rfl Paf.one9) rfl rfl rfl [3] (by kernel_rfl) fun x11_6 h8 => ?_
 refine MV.lift1 (i := 8) rfl (fun _ z => z) (V.lenT h8 rfl Paf.ls9) rfl rfl rfl [3] (by kernel_rfl) fun x12_7 h9 => ?_
 refine MV.lift1 (i := 9) rfl (fun _ z => z) (V.lt h9 rfl rfl) rfl rfl rfl [] (by kernel_rfl) fun x13_8 h10 => ?_
 refine MV.step1 (i := 10) rfl (fun _ z => z) (VAL.move rfl) rfl rfl rfl [] (by kernel_rfl) ?_
 rcases condK_inv h10 with ⟨e, h11⟩ | ⟨e, h11⟩
 ·
  clear h2 h3 h4 h5 h6 h7 h8 h9 h10
  subst e
  refine MV.step1 (i := 11) rfl (fun _ z => z) (VAL.move rfl) rfl rfl rfl [] (by kernel_rfl) ?_
  refine MV.lift1 (i := 12) rfl (fun _ z => z) (V.nc h11 rfl) rfl rfl rfl [] (by kernel_rfl) fun x16_9 h12 => ?_
  refine MV.lift1 (i := 13) rfl (fun _ z => z) (V.fa h12 rfl Paf.fo72_0) rfl rfl rfl [] (by kernel_rfl) fun x17_10 h13 => ?_
  refine MV.lift1 (i := 14) rfl (fun _ z => z) (V.ld hS h13 rfl Paf.one9) rfl rfl rfl [] (by kernel_rfl) fun x18_11 h14 => ?_
  refine MV.step0 (i := 15) rfl (VAL.move rfl) rfl rfl rfl ?_
  refine MV.lift0 (i := 16) rfl (V.nc h14 rfl) rfl rfl rfl fun x20_12 h15 => ?_
  refine MV.lift0 (i := 17) rfl (V.fa h15 rfl Paf.fo72_1) rfl rfl rfl fun x21_13 h16 => ?_
  refine MV.lift1 (i := 18) rfl (fun _ z => z) (V.ld hS h16 rfl Paf.one3) rfl rfl rfl [14] (by kernel_rfl) fun x22_14 h17 => ?_
  refine MV.lift1 (i := 19) rfl (fun _ z => z) (V.ix h17 rfl rfl Paf.st9) rfl rfl rfl [] (by kernel_rfl) fun x23_15 h18 => ?_
  refine MV.lift1 (i := 20) rfl (fun _ z => z) (V.ne h18 rfl rfl) rfl rfl rfl [] (by kernel_rfl) fun x24_16 h19 => ?_
  refine MV.step1 (i := 21) rfl (fun _ z => z) (VAL.pure rfl) rfl rfl rfl [] (by kernel_rfl) ?_
  refine mdn ?_
  refine CV.cond h19 rfl (fun e h20 => ?_) (fun e h20 => ?_)
  ·
   clear h11 h12 h13 h14 h15 h16 h17 h18 h19
   subst e
   refine CV.skip ?_
   refine PV.thenN ?_
   refine CV.block ?_
   refine CV.seq ?_
   refine CV.seq ?_
   refine CV.regionM [(0, .anywhere), (1, .anywhere), (2, .anywhere), (3, .held), (4, .anywhere), (5, .anywhere), (6, .anywhere), (7, .held), (8, .held), (9, .held)] rfl (fun c a a' w hd hq => PanicOk.root (P := Tryd.prog) (fn := Tryd.f46) (w0 := w0) (base := base) (E := envE) (ro := ro) (r := r) (T' := T') (n' := n') (ρ0 := ρ0) c a a' w hd hq) (by kernel_rfl) ?_
   refine MV.step0 (i := 0) rfl (VAL.move rfl) rfl rfl rfl ?_
   refine MV.lift0 (i := 1) rfl (V.nc h20 rfl) rfl rfl rfl fun x27_17 h21 => ?_
   refine MV.lift0 (i := 2) rfl (V.fa h21 rfl Paf.fo72_0) rfl rfl rfl fun x28_18 h22 => ?_
   refine MV.lift1 (i := 3) rfl (fun _ z => z) (V.ld hS h22 rfl Paf.one9) rfl rfl rfl [] (by kernel_rfl) fun x29_19 h23 => ?_
   refine MV.step0 (i := 4) rfl (VAL.move rfl) rfl rfl rfl ?_
   refine MV.lift0 (i := 5) rfl (V.nc h23 rfl) rfl rfl rfl fun x31_20 h24 => ?_
   refine MV.lift0 (i := 6) rfl (V.fa h24 rfl Paf.fo72_1) rfl rfl rfl fun x32_21 h25 => ?_
   refine MV.lift1 (i := 7) rfl (fun _ z => z) (V.ld hS h25 rfl Paf.one3) rfl rfl rfl [3] (by kernel_rfl) fun x33_22 h26 => ?_
   refine MV.lift1 (i := 8) rfl (fun _ z => z) (V.ix h26 rfl rfl Paf.st9) rfl rfl rfl [] (by kernel_rfl) fun x34_23 h27 => ?_
   refine MV.step1 (i := 9) rfl (fun _ z => z) (VAL.assign rfl) rfl rfl rfl [] (by kernel_rfl) ?_
   refine mdn ?_
   refine sr ?_
   refine mv ?_
   refine vy (V.lt h27 rfl rfl) fun x36_24 h28 => ?_
   refine mv ?_
   refine ls3 X 0 2 40 [] (g46_k2 ro (lpf2 460002 (g46_b1 ro) f1)) 3 ?_ ?_
   ·
    rcases condK_inv h28 with ⟨e, h42⟩ | ⟨e, h42⟩
    ·
     clear h20 h21 h22 h23 h24 h25 h26 h27 h28
     subst e
     refine sk ?_
     refine sk ?_
     refine pu ?_
     exact la3 hS h42 ⟨rfl, rfl, rfl, trivial⟩
    ·
     clear h20 h21 h22 h23 h24 h25 h26 h27 h28
     subst e
     refine mv ?_
     refine vy (V.eq h42 rfl rfl) fun x39_35 h43 => ?_
     refine pu ?_
     exact la3 hS h43 ⟨rfl, rfl, rfl, trivial⟩
   ·
    intro y0 y2 y40 T2 n2 ρ its hS h29
    unfold g46_k2 at h29
    clear h20 h21 h22 h23 h24 h25 h26 h27 h28
    refine dn ?_
    refine CV.cond h29 rfl (fun e h30 => ?_) (fun e h30 => ?_)
    ·
     clear h29
     subst e
     refine sr ?_
     refine mv ?_
     refine vy (V.nc h30 rfl) fun x42_25 h31 => ?_
     refine vy (V.fa h31 rfl Paf.fo72_1) fun x43_26 h32 => ?_
     refine vy (V.ld hS h32 rfl Paf.one3) fun x44_27 h33 => ?_
     refine LV.call hS h33 (g32_ok _ _ _ _ ) hP rfl rfl rfl rfl fun x45_28 T3 n3 h34 ρ its hS => ?_
     refine as_ ?_
     refine dn ?_
     refine CV.ret ?_
     refine PV.thenR ?_
     refine PV.blockR ?_
     refine PV.thenR ?_
     refine PV.blockR ?_
     refine PV.thenR ?_
     cases h34
     exact PV.ret (by simp) Tryd.results46 hS (RS.tmp rfl RS.nil) rfl
    ·
     clear h29
     subst e
     refine CV.skip ?_
     refine PV.thenN ?_
     refine CV.region ?_
     refine mv ?_
     refine vy (V.nc h30 rfl) fun x47_29 h35 => ?_
     refine vy (V.fa h35 rfl Paf.fo72_1) fun x48_30 h36 => ?_
     refine vy (V.ld hS h36 rfl Paf.one3) fun x49_31 h37 => ?_
     refine vy (V.add h37 rfl rfl) fun x50_32 h38 => ?_
     refine vy (V.nc h38 rfl) fun x51_33 h39 => ?_
     refine vy (V.fa h39 rfl Paf.fo72_1) fun x52_34 h40 => ?_
     refine LV.st hS h40 rfl rfl rfl Paf.siz3 rfl rfl fun T4 its h41 hS => ?_
     refine LV.done ?_
     refine PV.blockN ?_
     exact pb2 hS h41 ⟨rfl, rfl, trivial⟩
  ·
   clear h11 h12 h13 h14 h15 h16 h17 h18 h19
   subst e
   refine CV.exit ?_
   refine PV.thenE ?_
   refine PV.thenE ?_
   refine PV.blockE ?_
   refine PV.thenN ?_
   refine sr ?_
   refine as_ ?_
   refine dn ?_
   refine CV.ret ?_
   cases h20
   exact PV.ret (by simp) Tryd.results46 hS (RS.tmp rfl RS.nil) rfl
 ·
  clear h2 h3 h4 h5 h6 h7 h8 h9 h10
  subst e
  refine MV.skip1 (i := 11) rfl (fun _ z => z) rfl rfl rfl [] (by kernel_rfl) ?_
  refine MV.skip1 (i := 12) rfl (fun _ z => z) rfl rfl rfl [] (by kernel_rfl) ?_
  refine MV.skip1 (i := 13) rfl (fun _ z => z) rfl rfl rfl [] (by kernel_rfl) ?_
  refine MV.skip1 (i := 14) rfl (fun _ z => z) rfl rfl rfl [] (by kernel_rfl) ?_
  refine MV.skip0 (i := 15) rfl rfl rfl rfl ?_
  refine MV.skip0 (i := 16) rfl rfl rfl rfl ?_
  refine MV.skip0 (i := 17) rfl rfl rfl rfl ?_
  refine MV.skip1 (i := 18) rfl (fun _ z => z) rfl rfl rfl [14] (by kernel_rfl) ?_
  refine MV.skip1 (i := 19) rfl (fun _ z => z) rfl rfl rfl [] (by kernel_rfl) ?_
  refine MV.skip1 (i := 20) rfl (fun _ z => z) rfl rfl rfl [] (by kernel_rfl) ?_
  refine MV.step1 (i := 21) rfl (fun _ z => z) (VAL.pure rfl) rfl rfl rfl [] (by kernel_rfl) ?_
  refine mdn ?_
  refine CV.cond h11 rfl (fun e h44 => ?_) (fun e h44 => ?_)
  ·
   clear h11
   cases e
  ·
   clear h11
   refine CV.exit ?_
   refine PV.thenE ?_
   refine PV.thenE ?_
   refine PV.blockE ?_
   refine PV.thenN ?_
   refine sr ?_
   refine as_ ?_
   refine dn ?_
   refine CV.ret ?_
   cases h44
   exact PV.ret (by simp) Tryd.results46 hS (RS.tmp rfl RS.nil) rfl
noncomputable def g80 (ro : List HT) (T : HT) (nx : Nat) : R :=
 bsK 800002 T nx 22 9 1 [(0, (.lit (.string ⟨⟨[61, 61]⟩⟩))), (1, (.lit (.string ⟨⟨[33, 61]⟩⟩))), (2, (.lit (.string ⟨⟨[60, 61]⟩⟩))), (3, (.lit (.string ⟨⟨[62, 61]⟩⟩))), (4, (.lit (.string ⟨⟨[43, 61]⟩⟩))), (5, (.lit (.string ⟨⟨[47, 47]⟩⟩))), (6, (.lit (.string ⟨⟨[60]⟩⟩))), (7, (.lit (.string ⟨⟨[62]⟩⟩))), (8, (.lit (.string ⟨⟨[61]⟩⟩))), (9, (.lit (.string ⟨⟨[43]⟩⟩))), (10, (.lit (.string ⟨⟨[45]⟩⟩))), (11, (.lit (.string ⟨⟨[42]⟩⟩))), (12, (.lit (.string ⟨⟨[37]⟩⟩))), (13, (.lit (.string ⟨⟨[40]⟩⟩))), (14, (.lit (.string ⟨⟨[41]⟩⟩))), (15, (.lit (.string ⟨⟨[91]⟩⟩))), (16, (.lit (.string ⟨⟨[93]⟩⟩))), (17, (.lit (.string ⟨⟨[123]⟩⟩))), (18, (.lit (.string ⟨⟨[125]⟩⟩))), (19, (.lit (.string ⟨⟨[44]⟩⟩))), (20, (.lit (.string ⟨⟨[58]⟩⟩))), (21, (.lit (.string ⟨⟨[46]⟩⟩)))] fun x1_1 T1 n1 =>
 .ok (.val x1_1) T1 n1
theorem g80_ok (ro : List HT) (T : HT) (nx : Nat) : GOk Tryd.prog envE 80 [] ro T nx (g80 ro T nx) := by
 refine GOk.of_body Tryd.func80 rfl Tryd.ntmps80 (by kernel_rfl) rfl fun r T' n' h1 w0 base ρ0 its hS hP => ?_
 have X : CtxW envE ρ0 ro r T' n' := trivial
 unfold g80 at h1
 refine sr ?_
 refine as_ ?_
 refine dn ?_
 refine sr ?_
 refine LV.bslice hS h1 rfl rfl Paf.el33 rfl rfl rfl rfl fun x1_1 T1 n1 h2 ρ its hS hdr => ?_
 refine as_ ?_
 refine dn ?_
 refine CV.ret ?_
 cases h2
 exact PV.ret (by simp) Tryd.results80 hS (RS.tmp rfl RS.nil) rfl
noncomputable def g86_k1 (ro : List HT) (y17 : AV) (T1 : HT) (n1 : Nat) : R :=
 .ok (.val y17) T1 n1
noncomputable def g86 (ro : List HT) (a0 a1 : AV) (T : HT) (nx : Nat) : R :=
 lenTK 860003 a0 fun x6_1 =>
 lenTK 860005 a1 fun x8_2 =>
 geK Tryd.prog 3 (.tmp 6) (.tmp 8) 860006 x6_1 x8_2 fun x9_3 =>
 condK 860009 x9_3
 (
  lenTK 860012 a1 fun x13_4 =>
  sliceK 860013 a0 none (some x13_4) fun x14_5 =>
  eqSK Tryd.prog 9 (.tmp 14) (.tmp 15) 860015 x14_5 a1 fun x16_6 =>
  g86_k1 ro x16_6 T nx
 )
 (
  g86_k1 ro (.lit (.bool false)) T nx
 )
theorem g86_ok (ro : List HT) (a0 a1 : AV) (T : HT) (nx : Nat) : GOk Tryd.prog envE 86 [a0, a1] ro T nx (g86 ro a0 a1 T nx) := by
 refine GOk.of_body Tryd.func86 rfl Tryd.ntmps86 (by kernel_rfl) rfl fun r T' n' h1 w0 base ρ0 its hS hP => ?_
 have X : CtxW envE ρ0 ro r T' n' := trivial
 unfold g86 at h1
 refine sr ?_
 refine as_ ?_
 refine dn ?_
 refine sr ?_
 refine mv ?_
 refine vy (V.lenT h1 rfl Paf.ls9) fun x6_1 h2 => ?_
 refine mv ?_
 refine vy (V.lenT h2 rfl Paf.ls9) fun x8_2 h3 => ?_
 refine vy (V.ge h3 rfl rfl) fun x9_3 h4 => ?_
 refine mv ?_
 refine ls1 X 17 [(4, (.lit (.bool false)))] (g86_k1 ro) 7 ?_ ?_
 ·
  rcases condK_inv h4 with ⟨e, h6⟩ | ⟨e, h6⟩
  ·
   clear h1 h2 h3 h4
   subst e
   refine mv ?_
   refine mv ?_
   refine vy (V.lenT h6 rfl Paf.ls9) fun x13_4 h7 => ?_
   refine vy (V.slHi h7 rfl rfl Paf.st9) fun x14_5 h8 => ?_
   refine mv ?_
   refine vy (V.eqS h8 rfl rfl) fun x16_6 h9 => ?_
   refine pu ?_
   exact la1 hS h9 ⟨rfl, rfl, trivial⟩
  ·
   clear h1 h2 h3 h4
   subst e
   refine sk ?_
   refine sk ?_
   refine sk ?_
   refine sk ?_
   refine sk ?_
   refine sk ?_
   refine pu ?_
   exact la1 hS h6 ⟨rfl, rfl, trivial⟩
 ·
  intro y17 T1 n1 ρ its hS h5
  unfold g86_k1 at h5
  clear h1 h2 h3 h4
  refine as_ ?_
  refine dn ?_
  refine CV.ret ?_
  cases h5
  exact PV.ret (by simp) Tryd.results86 hS (RS.tmp rfl RS.nil) rfl
noncomputable def g81 (ro : List HT) (a0 a1 : AV) (T : HT) (nx : Nat) : R :=
 callK (g86 ro a0 a1 T nx) fun x7_1 T1 n1 =>
 .ok (.val x7_1) T1 n1
theorem g81_ok (ro : List HT) (a0 a1 : AV) (T : HT) (nx : Nat) : GOk Tryd.prog envE 81 [a0, a1] ro T nx (g81 ro a0 a1 T nx) := by
 refine GOk.of_body Tryd.func81 rfl Tryd.ntmps81 (by kernel_rfl) rfl fun r T' n' h1 w0 base ρ0 its hS hP => ?_
 have X : CtxW envE ρ0 ro r T' n' := trivial
 unfold g81 at h1
 refine sr ?_
 refine as_ ?_
 refine dn ?_
 refine sr ?_
 refine mv ?_
 refine mv ?_
 refine LV.call hS h1 (g86_ok _ _ _ _ _ ) hP rfl rfl rfl rfl fun x7_1 T1 n1 h2 ρ its hS => ?_
 refine as_ ?_
 refine dn ?_
 refine CV.ret ?_
 cases h2
 exact PV.ret (by simp) Tryd.results81 hS (RS.tmp rfl RS.nil) rfl
noncomputable def g71_b1 (ro : List HT) (lp1 : AV → AV → AV → AV → AV → HT → Nat → R) (y0 y2 y5 y6 y7 : AV) (T2 : HT) (n2 : Nat) : R :=
 ltK Tryd.prog 3 (.tmp 7) (.tmp 6) 710006 y7 y6 fun x8_3 =>
 condK 710007 x8_3
 (
  iaK 710008 y5 y7 1 fun x9_4 =>
  ldK 710009 T2 ro x9_4 fun x10_5 =>
  ncK 710012 y0 fun x12_6 =>
  faK 710013 x12_6 0 fun x13_7 =>
  ldK 710014 T2 ro x13_7 fun x14_8 =>
  ncK 710016 y0 fun x16_9 =>
  faK 710017 x16_9 1 fun x17_10 =>
  ldK 710018 T2 ro x17_10 fun x18_11 =>
  sliceK 710019 x14_8 (some x18_11) none fun x19_12 =>
  callK (g81 ro x19_12 x10_5 T2 n2) fun x21_13 T3 n3 =>
  condK 710022 x21_13
  (
   .ok (.val x10_5) T3 n3
  )
  (
   addK Tryd.prog 3 (.tmp 7) (.const (.int .i64 (.ofNat 1))) 710025 y7 (.lit (.int .i64 (.ofNat 1))) fun x23_14 =>
   lp1 y0 y2 y5 y6 x23_14 T3 n3
  )
 )
 (
  .ok (.val (.lit (.string ⟨⟨[]⟩⟩))) T2 n2
 )
noncomputable def g71 (ro : List HT) (a0 : AV) (T : HT) (nx : Nat) : R :=
 callK (g80 ro T nx) fun x5_1 T1 n1 =>
 lenSK 710003 x5_1 fun x6_2 =>
 lpf5 710005 (g71_b1 ro) 100000 a0 (.lit (.string ⟨⟨[]⟩⟩)) x5_1 x6_2 (.lit (.int .i64 (.ofNat 0))) T1 n1
theorem g71_ok (ro : List HT) (a0 : AV) (T : HT) (nx : Nat) : GOk Tryd.prog envE 71 [a0] ro T nx (g71 ro a0 T nx) := by
 refine GOk.of_body Tryd.func71 rfl Tryd.ntmps71 (by kernel_rfl) rfl fun r T' n' h1 w0 base ρ0 its hS hP => ?_
 have X : CtxW envE ρ0 ro r T' n' := trivial
 unfold g71 at h1
 refine sr ?_
 refine as_ ?_
 refine dn ?_
 refine CV.seq ?_
 refine sr ?_
 refine LV.call hS h1 (g80_ok _ _ _ ) hP rfl rfl rfl rfl fun x5_1 T1 n1 h2 ρ its hS => ?_
 refine vy (V.lenS h2 rfl Paf.ls33) fun x6_2 h3 => ?_
 refine mv ?_
 refine dn ?_
 refine CV.block ?_
 refine cl5 X 0 2 5 6 7 [] hS h3 ⟨rfl, rfl, rfl, rfl, rfl, trivial⟩ ?_
 intro f1 y0 y2 y5 y6 y7 T2 n2 ρ its hS h4
 unfold g71_b1 at h4
 clear h1 h2 h3
 refine sr ?_
 refine vy (V.lt h4 rfl rfl) fun x8_3 h5 => ?_
 refine dn ?_
 refine CV.seq ?_
 refine CV.cond h5 rfl (fun e h6 => ?_) (fun e h6 => ?_)
 ·
  clear h4 h5
  subst e
  refine CV.skip ?_
  refine PV.thenN ?_
  refine CV.seq ?_
  refine CV.block ?_
  refine sr ?_
  refine vy (V.ia h6 rfl rfl Paf.el33) fun x9_4 h7 => ?_
  refine vy (V.ld hS h7 rfl Paf.one9) fun x10_5 h8 => ?_
  refine as_ ?_
  refine dn ?_
  refine CV.seq ?_
  refine CV.regionM [(0, .anywhere), (1, .anywhere), (2, .anywhere), (3, .held), (4, .anywhere), (5, .anywhere), (6, .anywhere), (7, .held), (8, .held), (9, .anywhere), (10, .alone)] rfl (fun c a a' w hd hq => PanicOk.root (P := Tryd.prog) (fn := Tryd.f71) (w0 := w0) (base := base) (E := envE) (ro := ro) (r := r) (T' := T') (n' := n') (ρ0 := ρ0) c a a' w hd hq) (by kernel_rfl) ?_
  refine MV.step0 (i := 0) rfl (VAL.move rfl) rfl rfl rfl ?_
  refine MV.lift0 (i := 1) rfl (V.nc h8 rfl) rfl rfl rfl fun x12_6 h9 => ?_
  refine MV.lift0 (i := 2) rfl (V.fa h9 rfl Paf.fo72_0) rfl rfl rfl fun x13_7 h10 => ?_
  refine MV.lift1 (i := 3) rfl (fun _ z => z) (V.ld hS h10 rfl Paf.one9) rfl rfl rfl [] (by kernel_rfl) fun x14_8 h11 => ?_
  refine MV.step0 (i := 4) rfl (VAL.move rfl) rfl rfl rfl ?_
  refine MV.lift0 (i := 5) rfl (V.nc h11 rfl) rfl rfl rfl fun x16_9 h12 => ?_
  refine MV.lift0 (i := 6) rfl (V.fa h12 rfl Paf.fo72_1) rfl rfl rfl fun x17_10 h13 => ?_
  refine MV.lift1 (i := 7) rfl (fun _ z => z) (V.ld hS h13 rfl Paf.one3) rfl rfl rfl [3] (by kernel_rfl) fun x18_11 h14 => ?_
  refine MV.lift1 (i := 8) rfl (fun _ z => z) (V.slLo h14 rfl rfl Paf.st9) rfl rfl rfl [] (by kernel_rfl) fun x19_12 h15 => ?_
  refine MV.step0 (i := 9) rfl (VAL.move rfl) rfl rfl rfl ?_
  refine MV.force (i := 10) rfl ?_
  refine LV.call hS h15 (g81_ok _ _ _ _ _ ) hP rfl rfl rfl rfl fun x21_13 T3 n3 h16 ρ its hS => ?_
  refine LV.nextM [] (by kernel_rfl) (fun z => absurd rfl z) ?_
  refine mdn ?_
  refine CV.cond h16 rfl (fun e h17 => ?_) (fun e h17 => ?_)
  ·
   clear h6 h7 h8 h9 h10 h11 h12 h13 h14 h15 h16
   subst e
   refine sr ?_
   refine mv ?_
   refine as_ ?_
   refine dn ?_
   refine CV.ret ?_
   refine PV.blockR ?_
   refine PV.thenR ?_
   refine PV.thenR ?_
   refine PV.blockR ?_
   refine PV.thenR ?_
   cases h17
   exact PV.ret (by simp) Tryd.results71 hS (RS.tmp rfl RS.nil) rfl
  ·
   clear h6 h7 h8 h9 h10 h11 h12 h13 h14 h15 h16
   subst e
   refine CV.skip ?_
   refine PV.blockN ?_
   refine PV.thenN ?_
   refine CV.region ?_
   refine vy (V.add h17 rfl rfl) fun x23_14 h18 => ?_
   refine mv ?_
   refine LV.done ?_
   exact pb5 hS h18 ⟨rfl, rfl, rfl, rfl, rfl, trivial⟩
 ·
  clear h4 h5
  subst e
  refine CV.exit ?_
  refine PV.thenE ?_
  refine PV.thenE ?_
  refine PV.blockE ?_
  refine PV.thenN ?_
  refine sr ?_
  refine as_ ?_
  refine dn ?_
  refine CV.ret ?_
  cases h6
  exact PV.ret (by simp) Tryd.results71 hS (RS.tmp rfl RS.nil) rfl
noncomputable def g66_k3 (ro : List HT) (y0 y26 : AV) (T4 : HT) (n4 : Nat) : R :=
 condK 660017 y26
 (
  .ok (.val (.lit (.bool true))) T4 n4
 )
 (
  callK (g71 ro y0 T4 n4) fun x28_9 T5 n5 =>
  neSK Tryd.prog 9 (.tmp 28) (.const (.string ⟨⟨[]⟩⟩)) 660021 x28_9 (.lit (.string ⟨⟨[]⟩⟩)) fun x29_10 =>
  .ok (.val x29_10) T5 n5
 )
noncomputable def g66_k2 (ro : List HT) (y0 y3 y22 : AV) (T3 : HT) (n3 : Nat) : R :=
 condK 660023 y22
 (
  g66_k3 ro y0 (.lit (.bool true)) T3 n3
 )
 (
  eqK Tryd.prog 5 (.tmp 24) (.const (.int .u8 (.ofNat 39))) 660026 y3 (.lit (.int .u8 (.ofNat 39))) fun x25_11 =>
  g66_k3 ro y0 x25_11 T3 n3
 )
noncomputable def g66_k1 (ro : List HT) (y0 y3 y18 : AV) (T2 : HT) (n2 : Nat) : R :=
 condK 660028 y18
 (
  g66_k2 ro y0 y3 (.lit (.bool true)) T2 n2
 )
 (
  eqK Tryd.prog 5 (.tmp 20) (.const (.int .u8 (.ofNat 34))) 660031 y3 (.lit (.int .u8 (.ofNat 34))) fun x21_12 =>
  g66_k2 ro y0 y3 x21_12 T2 n2
 )
noncomputable def g66 (ro : List HT) (a0 : AV) (T : HT) (nx : Nat) : R :=
 ncK 660003 a0 fun x5_1 =>
 faK 660004 x5_1 0 fun x6_2 =>
 ldK 660005 T ro x6_2 fun x7_3 =>
 ncK 660007 a0 fun x9_4 =>
 faK 660008 x9_4 1 fun x10_5 =>
 ldK 660009 T ro x10_5 fun x11_6 =>
 ixK 660010 x7_3 x11_6 fun x12_7 =>
 callK (g48 ro x12_7 T nx) fun x14_8 T1 n1 =>
 condK 660033 x14_8
 (
  g66_k1 ro a0 x12_7 (.lit (.bool true)) T1 n1
 )
 (
  callK (g50 ro x12_7 T1 n1) fun x17_13 T6 n6 =>
  g66_k1 ro a0 x12_7 x17_13 T6 n6
 )
theorem g66_ok (ro : List HT) (a0 : AV) (T : HT) (nx : Nat) : GOk Tryd.prog envE 66 [a0] ro T nx (g66 ro a0 T nx) := by
 refine GOk.of_body Tryd.func66 rfl Tryd.ntmps66 (by kernel_rfl) rfl fun r T' n' h1 w0 base ρ0 its hS hP => ?_
 have X : CtxW envE ρ0 ro r T' n' := trivial
 unfold g66 at h1
 refine sr ?_
 refine as_ ?_
 refine dn ?_
 refine CV.seq ?_
 refine CV.regionM [(0, .anywhere), (1, .anywhere), (2, .anywhere), (3, .held), (4, .anywhere), (5, .anywhere), (6, .anywhere), (7, .held), (8, .held), (9, .held)] rfl (fun c a a' w hd hq => PanicOk.root (P := Tryd.prog) (fn := Tryd.f66) (w0 := w0) (base := base) (E := envE) (ro := ro) (r := r) (T' := T') (n' := n') (ρ0 := ρ0) c a a' w hd hq) (by kernel_rfl) ?_
 refine MV.step0 (i := 0) rfl (VAL.move rfl) rfl rfl rfl ?_
 refine MV.lift0 (i := 1) rfl (V.nc h1 rfl) rfl rfl rfl fun x5_1 h2 => ?_
 refine MV.lift0 (i := 2) rfl (V.fa h2 rfl Paf.fo72_0) rfl rfl rfl fun x6_2 h3 => ?_
 refine MV.lift1 (i := 3) rfl (fun _ z => z) (V.ld hS h3 rfl Paf.one9) rfl rfl rfl [] (by kernel_rfl) fun x7_3 h4 => ?_
 refine MV.step0 (i := 4) rfl (VAL.move rfl) rfl rfl rfl ?_
 refine MV.lift0 (i := 5) rfl (V.nc h4 rfl) rfl rfl rfl fun x9_4 h5 => ?_
 refine MV.lift0 (i := 6) rfl (V.fa h5 rfl Paf.fo72_1) rfl rfl rfl fun x10_5 h6 => ?_
 refine MV.lift1 (i := 7) rfl (fun _ z => z) (V.ld hS h6 rfl Paf.one3) rfl rfl rfl [3] (by kernel_rfl) fun x11_6 h7 => ?_
 refine MV.lift1 (i := 8) rfl (fun _ z => z) (V.ix h7 rfl rfl Paf.st9) rfl rfl rfl [] (by kernel_rfl) fun x12_7 h8 => ?_
 refine MV.step1 (i := 9) rfl (fun _ z => z) (VAL.assign rfl) rfl rfl rfl [] (by kernel_rfl) ?_
 refine mdn ?_
 refine CV.seq ?_
 refine sr ?_
 refine mv ?_
 refine LV.call hS h8 (g48_ok _ _ _ _ ) hP rfl rfl rfl rfl fun x14_8 T1 n1 h9 ρ its hS => ?_
 refine mv ?_
 refine ls3 X 0 3 18 [(2, (.lit (.bool false)))] (g66_k1 ro) 3 ?_ ?_
 ·
  rcases condK_inv h9 with ⟨e, h20⟩ | ⟨e, h20⟩
  ·
   clear h1 h2 h3 h4 h5 h6 h7 h8 h9
   subst e
   refine sk ?_
   refine sk ?_
   refine pu ?_
   exact la3 hS h20 ⟨rfl, rfl, rfl, rfl, trivial⟩
  ·
   clear h1 h2 h3 h4 h5 h6 h7 h8 h9
   subst e
   refine mv ?_
   refine LV.call hS h20 (g50_ok _ _ _ _ ) hP rfl rfl rfl rfl fun x17_13 T6 n6 h21 ρ its hS => ?_
   refine pu ?_
   exact la3 hS h21 ⟨rfl, rfl, rfl, rfl, trivial⟩
 ·
  intro y0 y3 y18 T2 n2 ρ its hS h10
  unfold g66_k1 at h10
  clear h1 h2 h3 h4 h5 h6 h7 h8 h9
  refine mv ?_
  refine ls3 X 0 3 22 [(2, (.lit (.bool false)))] (g66_k2 ro) 3 ?_ ?_
  ·
   rcases condK_inv h10 with ⟨e, h18⟩ | ⟨e, h18⟩
   ·
    clear h10
    subst e
    refine sk ?_
    refine sk ?_
    refine pu ?_
    exact la3 hS h18 ⟨rfl, rfl, rfl, rfl, trivial⟩
   ·
    clear h10
    subst e
    refine mv ?_
    refine vy (V.eq h18 rfl rfl) fun x21_12 h19 => ?_
    refine pu ?_
    exact la3 hS h19 ⟨rfl, rfl, rfl, rfl, trivial⟩
  ·
   intro y0 y3 y22 T3 n3 ρ its hS h11
   unfold g66_k2 at h11
   clear h10
   refine mv ?_
   refine ls2 X 0 26 [(2, (.lit (.bool false)))] (g66_k3 ro) 3 ?_ ?_
   ·
    rcases condK_inv h11 with ⟨e, h16⟩ | ⟨e, h16⟩
    ·
     clear h11
     subst e
     refine sk ?_
     refine sk ?_
     refine pu ?_
     exact la2 hS h16 ⟨rfl, rfl, rfl, trivial⟩
    ·
     clear h11
     subst e
     refine mv ?_
     refine vy (V.eq h16 rfl rfl) fun x25_11 h17 => ?_
     refine pu ?_
     exact la2 hS h17 ⟨rfl, rfl, rfl, trivial⟩
   ·
    intro y0 y26 T4 n4 ρ its hS h12
    unfold g66_k3 at h12
    clear h11
    refine dn ?_
    refine CV.cond h12 rfl (fun e h13 => ?_) (fun e h13 => ?_)
    ·
     clear h12
     subst e
     refine sr ?_
     refine as_ ?_
     refine dn ?_
     refine CV.ret ?_
     refine PV.thenR ?_
     cases h13
     exact PV.ret (by simp) Tryd.results66 hS (RS.tmp rfl RS.nil) rfl
    ·
     clear h12
     subst e
     refine CV.skip ?_
     refine PV.thenN ?_
     refine sr ?_
     refine mv ?_
     refine LV.call hS h13 (g71_ok _ _ _ _ ) hP rfl rfl rfl rfl fun x28_9 T5 n5 h14 ρ its hS => ?_
     refine vy (V.neS h14 rfl rfl) fun x29_10 h15 => ?_
     refine as_ ?_
     refine dn ?_
     refine CV.ret ?_
     cases h15
     exact PV.ret (by simp) Tryd.results66 hS (RS.tmp rfl RS.nil) rfl
noncomputable def g78_b1 (ro : List HT) (lp1 : AV → AV → AV → AV → HT → Nat → R) (y0 y1 y4 y5 : AV) (T1 : HT) (n1 : Nat) : R :=
 geK Tryd.prog 3 (.tmp 9) (.const (.int .i64 (.ofNat 0))) 780008 y5 (.lit (.int .i64 (.ofNat 0))) fun x10_3 =>
 condK 780009 x10_3
 (
  ixK 780012 y0 y5 fun x15_4 =>
  eqK Tryd.prog 5 (.tmp 15) (.tmp 16) 780014 x15_4 y1 fun x17_5 =>
  condK 780015 x17_5
  (
   .ok (.val y5) T1 n1
  )
  (
   subK Tryd.prog 3 (.tmp 11) (.const (.int .i64 (.ofNat 1))) 780019 y5 (.lit (.int .i64 (.ofNat 1))) fun x12_6 =>
   lp1 y0 y1 y4 x12_6 T1 n1
  )
 )
 (
  .ok (.val (.lit (.int .i64 (.negSucc 0)))) T1 n1
 )
noncomputable def g78 (ro : List HT) (a0 a1 : AV) (T : HT) (nx : Nat) : R :=
 lenTK 780003 a0 fun x7_1 =>
 subK Tryd.prog 3 (.tmp 7) (.const (.int .i64 (.ofNat 1))) 780004 x7_1 (.lit (.int .i64 (.ofNat 1))) fun x8_2 =>
 lpf4 780006 (g78_b1 ro) 100000 a0 a1 (.lit (.int .i64 (.ofNat 0))) x8_2 T nx
theorem g78_ok (ro : List HT) (a0 a1 : AV) (T : HT) (nx : Nat) : GOk Tryd.prog envE 78 [a0, a1] ro T nx (g78 ro a0 a1 T nx) := by
 refine GOk.of_body Tryd.func78 rfl Tryd.ntmps78 (by kernel_rfl) rfl fun r T' n' h1 w0 base ρ0 its hS hP => ?_
 have X : CtxW envE ρ0 ro r T' n' := trivial
 unfold g78 at h1
 refine sr ?_
 refine as_ ?_
 refine dn ?_
 refine CV.seq ?_
 refine sr ?_
 refine mv ?_
 refine vy (V.lenT h1 rfl Paf.ls9) fun x7_1 h2 => ?_
 refine vy (V.sub h2 rfl rfl) fun x8_2 h3 => ?_
 refine as_ ?_
 refine dn ?_
 refine CV.block ?_
 refine cl4 X 0 1 4 5 [] hS h3 ⟨rfl, rfl, rfl, rfl, trivial⟩ ?_
 intro f1 y0 y1 y4 y5 T1 n1 ρ its hS h4
 unfold g78_b1 at h4
 clear h1 h2 h3
 refine CV.seq ?_
 refine sr ?_
 refine mv ?_
 refine vy (V.ge h4 rfl rfl) fun x10_3 h5 => ?_
 refine dn ?_
 refine CV.cond h5 rfl (fun e h6 => ?_) (fun e h6 => ?_)
 ·
  clear h4 h5
  subst e
  refine CV.skip ?_
  refine PV.thenN ?_
  refine CV.seq ?_
  refine CV.block ?_
  refine sr ?_
  refine mv ?_
  refine mv ?_
  refine vy (V.ix h6 rfl rfl Paf.st9) fun x15_4 h7 => ?_
  refine mv ?_
  refine vy (V.eq h7 rfl rfl) fun x17_5 h8 => ?_
  refine dn ?_
  refine CV.cond h8 rfl (fun e h9 => ?_) (fun e h9 => ?_)
  ·
   clear h6 h7 h8
   subst e
   refine sr ?_
   refine mv ?_
   refine as_ ?_
   refine dn ?_
   refine CV.ret ?_
   refine PV.blockR ?_
   refine PV.thenR ?_
   refine PV.thenR ?_
   refine PV.blockR ?_
   refine PV.thenR ?_
   cases h9
   exact PV.ret (by simp) Tryd.results78 hS (RS.tmp rfl RS.nil) rfl
  ·
   clear h6 h7 h8
   subst e
   refine CV.skip ?_
   refine PV.blockN ?_
   refine PV.thenN ?_
   refine CV.region ?_
   refine mv ?_
   refine vy (V.sub h9 rfl rfl) fun x12_6 h10 => ?_
   refine as_ ?_
   refine LV.done ?_
   exact pb4 hS h10 ⟨rfl, rfl, rfl, rfl, trivial⟩
 ·
  clear h4 h5
  subst e
  refine CV.exit ?_
  refine PV.thenE ?_
  refine PV.thenE ?_
  refine PV.blockE ?_
  refine PV.thenN ?_
  refine sr ?_
  refine as_ ?_
  refine dn ?_
  refine CV.ret ?_
  cases h6
  exact PV.ret (by simp) Tryd.results78 hS (RS.tmp rfl RS.nil) rfl
noncomputable def g67 (ro : List HT) (a0 a1 : AV) (T : HT) (nx : Nat) : R :=
 callK (g78 ro a0 a1 T nx) fun x7_1 T1 n1 =>
 .ok (.val x7_1) T1 n1
theorem g67_ok (ro : List HT) (a0 a1 : AV) (T : HT) (nx : Nat) : GOk Tryd.prog envE 67 [a0, a1] ro T nx (g67 ro a0 a1 T nx) := by
 refine GOk.of_body Tryd.func67 rfl Tryd.ntmps67 (by kernel_rfl) rfl fun r T' n' h1 w0 base ρ0 its hS hP => ?_
 have X : CtxW envE ρ0 ro r T' n' := trivial
 unfold g67 at h1
 refine sr ?_
 refine as_ ?_
 refine dn ?_
 refine sr ?_
 refine mv ?_
 refine mv ?_
 refine LV.call hS h1 (g78_ok _ _ _ _ _ ) hP rfl rfl rfl rfl fun x7_1 T1 n1 h2 ρ its hS => ?_
 refine as_ ?_
 refine dn ?_
 refine CV.ret ?_
 cases h2
 exact PV.ret (by simp) Tryd.results67 hS (RS.tmp rfl RS.nil) rfl
noncomputable def g47_b2 (ro : List HT) (lp2 : AV → AV → AV → HT → Nat → R) (y0 y2 y3 : AV) (T5 : HT) (n5 : Nat) : R :=
 ncK 470049 y0 fun x76_32 =>
 faK 470050 x76_32 3 fun x77_33 =>
 ldK 470051 T5 ro x77_33 fun x78_34 =>
 ncK 470053 y0 fun x80_35 =>
 faK 470054 x80_35 3 fun x81_36 =>
 ldK 470055 T5 ro x81_36 fun x82_37 =>
 lenSK 470056 x82_37 fun x83_38 =>
 subK Tryd.prog 3 (.tmp 83) (.const (.int .i64 (.ofNat 1))) 470057 x83_38 (.lit (.int .i64 (.ofNat 1))) fun x84_39 =>
 iaK 470058 x78_34 x84_39 1 fun x85_40 =>
 ldK 470059 T5 ro x85_40 fun x86_41 =>
 ltK Tryd.prog 3 (.tmp 74) (.tmp 86) 470060 y3 x86_41 fun x87_42 =>
 condK 470061 x87_42
 (
  ncK 470064 y0 fun x90_43 =>
  faK 470065 x90_43 3 fun x91_44 =>
  ldK 470066 T5 ro x91_44 fun x92_45 =>
  ncK 470068 y0 fun x94_46 =>
  faK 470069 x94_46 3 fun x95_47 =>
  ldK 470070 T5 ro x95_47 fun x96_48 =>
  lenSK 470071 x96_48 fun x97_49 =>
  subK Tryd.prog 3 (.tmp 97) (.const (.int .i64 (.ofNat 1))) 470072 x97_49 (.lit (.int .i64 (.ofNat 1))) fun x98_50 =>
  cutHiK 470073 T5 ro x92_45 x98_50 fun x99_51 =>
  ncK 470074 y0 fun x100_52 =>
  faK 470075 x100_52 3 fun x101_53 =>
  stK 470076 T5 x101_53 x99_51 fun T6 =>
  ncK 470079 y0 fun x104_54 =>
  faK 470080 x104_54 1 fun x105_55 =>
  ldK 470081 T6 ro x105_55 fun x106_56 =>
  callK (g34 ro y0 (.lit (.int .i64 (.ofNat 7))) (.lit (.string ⟨⟨[]⟩⟩)) x106_56 T6 n5) fun x107_57 T7 n7 =>
  lp2 y0 y2 y3 T7 n7
 )
 (
  ncK 470085 y0 fun x110_58 =>
  faK 470086 x110_58 3 fun x111_59 =>
  ldK 470087 T5 ro x111_59 fun x112_60 =>
  ncK 470089 y0 fun x114_61 =>
  faK 470090 x114_61 3 fun x115_62 =>
  ldK 470091 T5 ro x115_62 fun x116_63 =>
  lenSK 470092 x116_63 fun x117_64 =>
  subK Tryd.prog 3 (.tmp 117) (.const (.int .i64 (.ofNat 1))) 470093 x117_64 (.lit (.int .i64 (.ofNat 1))) fun x118_65 =>
  iaK 470094 x112_60 x118_65 1 fun x119_66 =>
  ldK 470095 T5 ro x119_66 fun x120_67 =>
  neK Tryd.prog 3 (.tmp 108) (.tmp 120) 470096 y3 x120_67 fun x121_68 =>
  condK 470097 x121_68
  (
   ncK 470099 y0 fun x123_69 =>
   faK 470100 x123_69 1 fun x124_70 =>
   ldK 470101 T5 ro x124_70 fun x125_71 =>
   callK (g32 ro x125_71 T5 n5) fun x126_72 T8 n8 =>
   .ok (.val x126_72) T8 n8
  )
  (
   .ok (.val (.lit (.nilIface))) T5 n5
  )
 )
noncomputable def g47_k1 (ro : List HT) (y0 y2 y3 : AV) (T4 : HT) (n4 : Nat) : R :=
 lpf3 470046 (g47_b2 ro) 100000 y0 y2 y3 T4 n4
noncomputable def g47 (ro : List HT) (a0 : AV) (T : HT) (nx : Nat) : R :=
 callK (g66 ro a0 T nx) fun x6_1 T1 n1 =>
 notK 470004 x6_1 fun x7_2 =>
 condK 470005 x7_2
 (
  ncK 470007 a0 fun x9_3 =>
  faK 470008 x9_3 1 fun x10_4 =>
  ldK 470009 T1 ro x10_4 fun x11_5 =>
  callK (g32 ro x11_5 T1 n1) fun x12_6 T2 n2 =>
  .ok (.val x12_6) T2 n2
 )
 (
  ncK 470013 a0 fun x14_7 =>
  faK 470014 x14_7 5 fun x15_8 =>
  stK 470015 T1 x15_8 (.lit (.bool true)) fun T3 =>
  ncK 470017 a0 fun x17_9 =>
  faK 470018 x17_9 1 fun x18_10 =>
  ldK 470019 T3 ro x18_10 fun x19_11 =>
  ncK 470021 a0 fun x21_12 =>
  faK 470022 x21_12 0 fun x22_13 =>
  ldK 470023 T3 ro x22_13 fun x23_14 =>
  ncK 470025 a0 fun x25_15 =>
  faK 470026 x25_15 1 fun x26_16 =>
  ldK 470027 T3 ro x26_16 fun x27_17 =>
  sliceK 470028 x23_14 none (some x27_17) fun x28_18 =>
  callQ 470029 (g67 (T3 :: ro) x28_18 (.lit (.int .u8 (.ofNat 10))) .nil n1) fun x29_19 =>
  addK Tryd.prog 3 (.tmp 29) (.const (.int .i64 (.ofNat 1))) 470030 x29_19 (.lit (.int .i64 (.ofNat 1))) fun x30_20 =>
  subK Tryd.prog 3 (.tmp 19) (.tmp 30) 470031 x19_11 x30_20 fun x31_21 =>
  ncK 470034 a0 fun x33_22 =>
  faK 470035 x33_22 3 fun x34_23 =>
  ldK 470036 T3 ro x34_23 fun x35_24 =>
  ncK 470038 a0 fun x37_25 =>
  faK 470039 x37_25 3 fun x38_26 =>
  ldK 470040 T3 ro x38_26 fun x39_27 =>
  lenSK 470041 x39_27 fun x40_28 =>
  subK Tryd.prog 3 (.tmp 40) (.const (.int .i64 (.ofNat 1))) 470042 x40_28 (.lit (.int .i64 (.ofNat 1))) fun x41_29 =>
  iaK 470043 x35_24 x41_29 1 fun x42_30 =>
  ldK 470044 T3 ro x42_30 fun x43_31 =>
  gtK Tryd.prog 3 (.tmp 44) (.tmp 45) 470107 x31_21 x43_31 fun x46_73 =>
  condK 470108 x46_73
  (
   ncK 470110 a0 fun x48_74 =>
   faK 470111 x48_74 3 fun x49_75 =>
   ldK 470112 T3 ro x49_75 fun x50_76 =>
   lenSK 470113 x50_76 fun x51_77 =>
   gtK Tryd.prog 3 (.tmp 51) (.const (.int .i64 (.ofNat 60))) 470114 x51_77 (.lit (.int .i64 (.ofNat 60))) fun x52_78 =>
   condK 470115 x52_78
   (
    ncK 470117 a0 fun x54_79 =>
    faK 470118 x54_79 1 fun x55_80 =>
    ldK 470119 T3 ro x55_80 fun x56_81 =>
    callK (g32 ro x56_81 T3 n1) fun x57_82 T9 n9 =>
    .ok (.val x57_82) T9 n9
   )
   (
    ncK 470124 a0 fun x60_83 =>
    faK 470125 x60_83 3 fun x61_84 =>
    ldK 470126 T3 ro x61_84 fun x62_85 =>
    bsK 470128 T3 n1 1 3 1 [(0, x31_21)] fun x64_86 T10 n10 =>
    appK 470129 T10 ro n10 3 1 8 x62_85 x64_86 fun x65_87 T11 n11 =>
    ncK 470130 a0 fun x66_88 =>
    faK 470131 x66_88 3 fun x67_89 =>
    stK 470132 T11 x67_89 x65_87 fun T12 =>
    ncK 470135 a0 fun x70_90 =>
    faK 470136 x70_90 1 fun x71_91 =>
    ldK 470137 T12 ro x71_91 fun x72_92 =>
    callK (g34 ro a0 (.lit (.int .i64 (.ofNat 6))) (.lit (.string ⟨⟨[]⟩⟩)) x72_92 T12 n11) fun x73_93 T13 n13 =>
    g47_k1 ro a0 (.lit (.nilIface)) x31_21 T13 n13
   )
  )
  (
   g47_k1 ro a0 (.lit (.nilIface)) x31_21 T3 n1
  )
 )
theorem g47_ok (ro : List HT) (a0 : AV) (T : HT) (nx : Nat) : GOk Tryd.prog envE 47 [a0] ro T nx (g47 ro a0 T nx) := by
 refine GOk.of_body Tryd.func47 rfl Tryd.ntmps47 (by kernel_rfl) rfl fun r T' n' h1 w0 base ρ0 its hS hP => ?_
 have X : CtxW envE ρ0 ro r T' n' := trivial
 unfold g47 at h1
 refine sr ?_
 refine as_ ?_
 refine dn ?_
 refine CV.seq ?_
 refine sr ?_
 refine mv ?_
 refine LV.call hS h1 (g66_ok _ _ _ _ ) hP rfl rfl rfl rfl fun x6_1 T1 n1 h2 ρ its hS => ?_
 refine vy (V.not h2 rfl) fun x7_2 h3 => ?_
 refine dn ?_
 refine CV.cond h3 rfl (fun e h4 => ?_) (fun e h4 => ?_)
 ·
  clear h1 h2 h3
  subst e
  refine sr ?_
  refine mv ?_
  refine vy (V.nc h4 rfl) fun x9_3 h5 => ?_
  refine vy (V.fa h5 rfl Paf.fo72_1) fun x10_4 h6 => ?_
  refine vy (V.ld hS h6 rfl Paf.one3) fun x11_5 h7 => ?_
  refine LV.call hS h7 (g32_ok _ _ _ _ ) hP rfl rfl rfl rfl fun x12_6 T2 n2 h8 ρ its hS => ?_
  refine as_ ?_
  refine dn ?_
  refine CV.ret ?_
  refine PV.thenR ?_
  cases h8
  exact PV.ret (by simp) Tryd.results47 hS (RS.tmp rfl RS.nil) rfl
 ·
  clear h1 h2 h3
  subst e
  refine CV.skip ?_
  refine PV.thenN ?_
  refine sr ?_
  refine mv ?_
  refine vy (V.nc h4 rfl) fun x14_7 h9 => ?_
  refine vy (V.fa h9 rfl Paf.fo72_5) fun x15_8 h10 => ?_
  refine LV.st hS h10 rfl rfl rfl Paf.siz4 rfl rfl fun T3 its h11 hS => ?_
  refine dn ?_
  refine CV.seq ?_
  refine CV.regionM [(0, .anywhere), (1, .anywhere), (2, .anywhere), (3, .held), (4, .anywhere), (5, .anywhere), (6, .anywhere), (7, .held), (8, .anywhere), (9, .anywhere), (10, .anywhere), (11, .held), (12, .held), (13, .alone), (14, .alone), (15, .alone), (16, .alone)] rfl (fun c a a' w hd hq => PanicOk.root (P := Tryd.prog) (fn := Tryd.f47) (w0 := w0) (base := base) (E := envE) (ro := ro) (r := r) (T' := T') (n' := n') (ρ0 := ρ0) c a a' w hd hq) (by kernel_rfl) ?_
  refine MV.step0 (i := 0) rfl (VAL.move rfl) rfl rfl rfl ?_
  refine MV.lift0 (i := 1) rfl (V.nc h11 rfl) rfl rfl rfl fun x17_9 h12 => ?_
  refine MV.lift0 (i := 2) rfl (V.fa h12 rfl Paf.fo72_1) rfl rfl rfl fun x18_10 h13 => ?_
  refine MV.lift1 (i := 3) rfl (fun _ z => z) (V.ld hS h13 rfl Paf.one3) rfl rfl rfl [] (by kernel_rfl) fun x19_11 h14 => ?_
  refine MV.step0 (i := 4) rfl (VAL.move rfl) rfl rfl rfl ?_
  refine MV.lift0 (i := 5) rfl (V.nc h14 rfl) rfl rfl rfl fun x21_12 h15 => ?_
  refine MV.lift0 (i := 6) rfl (V.fa h15 rfl Paf.fo72_0) rfl rfl rfl fun x22_13 h16 => ?_
  refine MV.lift1 (i := 7) rfl (fun _ z => z) (V.ld hS h16 rfl Paf.one9) rfl rfl rfl [3] (by kernel_rfl) fun x23_14 h17 => ?_
  refine MV.step0 (i := 8) rfl (VAL.move rfl) rfl rfl rfl ?_
  refine MV.lift0 (i := 9) rfl (V.nc h17 rfl) rfl rfl rfl fun x25_15 h18 => ?_
  refine MV.lift0 (i := 10) rfl (V.fa h18 rfl Paf.fo72_1) rfl rfl rfl fun x26_16 h19 => ?_
  refine MV.lift1 (i := 11) rfl (fun _ z => z) (V.ld hS h19 rfl Paf.one3) rfl rfl rfl [7, 3] (by kernel_rfl) fun x27_17 h20 => ?_
  refine MV.lift1 (i := 12) rfl (fun _ z => z) (V.slHi h20 rfl rfl Paf.st9) rfl rfl rfl [3] (by kernel_rfl) fun x28_18 h21 => ?_
  refine MV.force (i := 13) rfl ?_
  refine LV.callQ hS h21 (g67_ok _ _ _ _ _ ) rfl rfl rfl rfl fun x29_19 h22 => ?_
  refine LV.nextM [3] (by kernel_rfl) (fun _ => fun _ z => z) ?_
  refine MV.force (i := 14) rfl ?_
  refine vy (V.add h22 rfl rfl) fun x30_20 h23 => ?_
  refine LV.nextM [3] (by kernel_rfl) (fun _ => fun _ z => z) ?_
  refine MV.force (i := 15) rfl ?_
  refine vy (V.sub h23 rfl rfl) fun x31_21 h24 => ?_
  refine LV.nextM [] (by kernel_rfl) (fun z => absurd rfl z) ?_
  refine MV.force (i := 16) rfl ?_
  refine as_ ?_
  refine LV.nextM [] (by kernel_rfl) (fun z => absurd rfl z) ?_
  refine mdn ?_
  refine CV.seq ?_
  refine CV.regionM [(0, .anywhere), (1, .anywhere), (2, .anywhere), (3, .held), (4, .anywhere), (5, .anywhere), (6, .anywhere), (7, .held), (8, .held), (9, .held), (10, .held), (11, .held), (12, .held)] rfl (fun c a a' w hd hq => PanicOk.root (P := Tryd.prog) (fn := Tryd.f47) (w0 := w0) (base := base) (E := envE) (ro := ro) (r := r) (T' := T') (n' := n') (ρ0 := ρ0) c a a' w hd hq) (by kernel_rfl) ?_
  refine MV.step0 (i := 0) rfl (VAL.move rfl) rfl rfl rfl ?_
  refine MV.lift0 (i := 1) rfl (V.nc h24 rfl) rfl rfl rfl fun x33_22 h25 => ?_
  refine MV.lift0 (i := 2) rfl (V.fa h25 rfl Paf.fo72_3) rfl rfl rfl fun x34_23 h26 => ?_
  refine MV.lift1 (i := 3) rfl (fun _ z => z) (V.ld hS h26 rfl Paf.one29) rfl rfl rfl [] (by kernel_rfl) fun x35_24 h27 => ?_
  refine MV.step0 (i := 4) rfl (VAL.move rfl) rfl rfl rfl ?_
  refine MV.lift0 (i := 5) rfl (V.nc h27 rfl) rfl rfl rfl fun x37_25 h28 => ?_
  refine MV.lift0 (i := 6) rfl (V.fa h28 rfl Paf.fo72_3) rfl rfl rfl fun x38_26 h29 => ?_
  refine MV.lift1 (i := 7) rfl (fun _ z => z) (V.ld hS h29 rfl Paf.one29) rfl rfl rfl [3] (by kernel_rfl) fun x39_27 h30 => ?_
  refine MV.lift1 (i := 8) rfl (fun _ z => z) (V.lenS h30 rfl Paf.ls29) rfl rfl rfl [3] (by kernel_rfl) fun x40_28 h31 => ?_
  refine MV.lift1 (i := 9) rfl (fun _ z => z) (V.sub h31 rfl rfl) rfl rfl rfl [3] (by kernel_rfl) fun x41_29 h32 => ?_
  refine MV.lift1 (i := 10) rfl (fun _ z => z) (V.ia h32 rfl rfl Paf.el29) rfl rfl rfl [] (by kernel_rfl) fun x42_30 h33 => ?_
  refine MV.lift1 (i := 11) rfl (fun _ z => z) (V.ld hS h33 rfl Paf.one3) rfl rfl rfl [] (by kernel_rfl) fun x43_31 h34 => ?_
  refine MV.step1 (i := 12) rfl (fun _ z => z) (VAL.assign rfl) rfl rfl rfl [] (by kernel_rfl) ?_
  refine mdn ?_
  refine cs3 X 0 2 3 [] (g47_k1 ro) ?_ ?_
  ·
   refine sr ?_
   refine mv ?_
   refine mv ?_
   refine vy (V.gt h34 rfl rfl) fun x46_73 h81 => ?_
   refine dn ?_
   refine CV.cond h81 rfl (fun e h82 => ?_) (fun e h82 => ?_)
   ·
    clear h4 h9 h10 h11 h12 h13 h14 h15 h16 h17 h18 h19 h20 h21 h22 h23 h24 h25 h26 h27 h28 h29 h30 h31 h32 h33 h34 h81
    subst e
    refine CV.seq ?_
    refine sr ?_
    refine mv ?_
    refine vy (V.nc h82 rfl) fun x48_74 h83 => ?_
    refine vy (V.fa h83 rfl Paf.fo72_3) fun x49_75 h84 => ?_
    refine vy (V.ld hS h84 rfl Paf.one29) fun x50_76 h85 => ?_
    refine vy (V.lenS h85 rfl Paf.ls29) fun x51_77 h86 => ?_
    refine vy (V.gt h86 rfl rfl) fun x52_78 h87 => ?_
    refine dn ?_
    refine CV.cond h87 rfl (fun e h88 => ?_) (fun e h88 => ?_)
    ·
     clear h82 h83 h84 h85 h86 h87
     subst e
     refine sr ?_
     refine mv ?_
     refine vy (V.nc h88 rfl) fun x54_79 h89 => ?_
     refine vy (V.fa h89 rfl Paf.fo72_1) fun x55_80 h90 => ?_
     refine vy (V.ld hS h90 rfl Paf.one3) fun x56_81 h91 => ?_
     refine LV.call hS h91 (g32_ok _ _ _ _ ) hP rfl rfl rfl rfl fun x57_82 T9 n9 h92 ρ its hS => ?_
     refine as_ ?_
     refine dn ?_
     refine CV.ret ?_
     refine PV.thenR ?_
     refine PV.thenR ?_
     cases h92
     exact PV.ret (by simp) Tryd.results47 hS (RS.tmp rfl RS.nil) rfl
    ·
     clear h82 h83 h84 h85 h86 h87
     subst e
     refine CV.skip ?_
     refine PV.thenN ?_
     refine sr ?_
     refine mv ?_
     refine mv ?_
     refine vy (V.nc h88 rfl) fun x60_83 h93 => ?_
     refine vy (V.fa h93 rfl Paf.fo72_3) fun x61_84 h94 => ?_
     refine vy (V.ld hS h94 rfl Paf.one29) fun x62_85 h95 => ?_
     refine mv ?_
     refine LV.bslice hS h95 rfl rfl Paf.el29 rfl rfl rfl rfl fun x64_86 T10 n10 h96 ρ its hS hdr => ?_
     refine LV.app hS h96 rfl rfl rfl rfl Paf.el29 rfl rfl rfl fun x65_87 T11 n11 h97 ρ its hS => ?_
     refine vy (V.nc h97 rfl) fun x66_88 h98 => ?_
     refine vy (V.fa h98 rfl Paf.fo72_3) fun x67_89 h99 => ?_
     refine LV.st hS h99 rfl rfl rfl Paf.siz29 rfl rfl fun T12 its h100 hS => ?_
     refine dn ?_
     refine CV.region ?_
     refine mv ?_
     refine mv ?_
     refine vy (V.nc h100 rfl) fun x70_90 h101 => ?_
     refine vy (V.fa h101 rfl Paf.fo72_1) fun x71_91 h102 => ?_
     refine vy (V.ld hS h102 rfl Paf.one3) fun x72_92 h103 => ?_
     refine LV.call hS h103 (g34_ok _ _ _ _ _ _ _ ) hP rfl rfl rfl rfl fun x73_93 T13 n13 h104 ρ its hS => ?_
     refine LV.done ?_
     exact pa3 hS h104 ⟨rfl, rfl, rfl, trivial⟩
   ·
    clear h4 h9 h10 h11 h12 h13 h14 h15 h16 h17 h18 h19 h20 h21 h22 h23 h24 h25 h26 h27 h28 h29 h30 h31 h32 h33 h34 h81
    subst e
    refine CV.skip ?_
    exact pa3 hS h82 ⟨rfl, rfl, rfl, trivial⟩
  ·
   intro y0 y2 y3 T4 n4 ρ its hS h35
   unfold g47_k1 at h35
   clear h4 h9 h10 h11 h12 h13 h14 h15 h16 h17 h18 h19 h20 h21 h22 h23 h24 h25 h26 h27 h28 h29 h30 h31 h32 h33 h34
   refine CV.seq ?_
   refine CV.block ?_
   refine cl3 X 0 2 3 [] hS h35 ⟨rfl, rfl, rfl, trivial⟩ ?_
   intro f2 y0 y2 y3 T5 n5 ρ its hS h36
   unfold g47_b2 at h36
   clear h35
   refine CV.seq ?_
   refine CV.seq ?_
   refine CV.regionM [(0, .anywhere), (1, .anywhere), (2, .anywhere), (3, .anywhere), (4, .held), (5, .anywhere), (6, .anywhere), (7, .anywhere), (8, .held), (9, .held), (10, .held), (11, .held), (12, .held), (13, .held)] rfl (fun c a a' w hd hq => PanicOk.root (P := Tryd.prog) (fn := Tryd.f47) (w0 := w0) (base := base) (E := envE) (ro := ro) (r := r) (T' := T') (n' := n') (ρ0 := ρ0) c a a' w hd hq) (by kernel_rfl) ?_
   refine MV.step0 (i := 0) rfl (VAL.move rfl) rfl rfl rfl ?_
   refine MV.step0 (i := 1) rfl (VAL.move rfl) rfl rfl rfl ?_
   refine MV.lift0 (i := 2) rfl (V.nc h36 rfl) rfl rfl rfl fun x76_32 h37 => ?_
   refine MV.lift0 (i := 3) rfl (V.fa h37 rfl Paf.fo72_3) rfl rfl rfl fun x77_33 h38 => ?_
   refine MV.lift1 (i := 4) rfl (fun _ z => z) (V.ld hS h38 rfl Paf.one29) rfl rfl rfl [] (by kernel_rfl) fun x78_34 h39 => ?_
   refine MV.step0 (i := 5) rfl (VAL.move rfl) rfl rfl rfl ?_
   refine MV.lift0 (i := 6) rfl (V.nc h39 rfl) rfl rfl rfl fun x80_35 h40 => ?_
   refine MV.lift0 (i := 7) rfl (V.fa h40 rfl Paf.fo72_3) rfl rfl rfl fun x81_36 h41 => ?_
   refine MV.lift1 (i := 8) rfl (fun _ z => z) (V.ld hS h41 rfl Paf.one29) rfl rfl rfl [4] (by kernel_rfl) fun x82_37 h42 => ?_
   refine MV.lift1 (i := 9) rfl (fun _ z => z) (V.lenS h42 rfl Paf.ls29) rfl rfl rfl [4] (by kernel_rfl) fun x83_38 h43 => ?_
   refine MV.lift1 (i := 10) rfl (fun _ z => z) (V.sub h43 rfl rfl) rfl rfl rfl [4] (by kernel_rfl) fun x84_39 h44 => ?_
   refine MV.lift1 (i := 11) rfl (fun _ z => z) (V.ia h44 rfl rfl Paf.el29) rfl rfl rfl [] (by kernel_rfl) fun x85_40 h45 => ?_
   refine MV.lift1 (i := 12) rfl (fun _ z => z) (V.ld hS h45 rfl Paf.one3) rfl rfl rfl [] (by kernel_rfl) fun x86_41 h46 => ?_
   refine MV.lift1 (i := 13) rfl (fun _ z => z) (V.lt h46 rfl rfl) rfl rfl rfl [] (by kernel_rfl) fun x87_42 h47 => ?_
   refine mdn ?_
   refine CV.cond h47 rfl (fun e h48 => ?_) (fun e h48 => ?_)
   ·
    clear h36 h37 h38 h39 h40 h41 h42 h43 h44 h45 h46 h47
    subst e
    refine CV.skip ?_
    refine PV.thenN ?_
    refine CV.block ?_
    refine CV.seq ?_
    refine CV.regionM [(0, .anywhere), (1, .anywhere), (2, .anywhere), (3, .anywhere), (4, .held), (5, .anywhere), (6, .anywhere), (7, .anywhere), (8, .held), (9, .held), (10, .held), (11, .held), (12, .held), (13, .held), (14, .alone)] rfl (fun c a a' w hd hq => PanicOk.root (P := Tryd.prog) (fn := Tryd.f47) (w0 := w0) (base := base) (E := envE) (ro := ro) (r := r) (T' := T') (n' := n') (ρ0 := ρ0) c a a' w hd hq) (by kernel_rfl) ?_
    refine MV.step0 (i := 0) rfl (VAL.move rfl) rfl rfl rfl ?_
    refine MV.step0 (i := 1) rfl (VAL.move rfl) rfl rfl rfl ?_
    refine MV.lift0 (i := 2) rfl (V.nc h48 rfl) rfl rfl rfl fun x90_43 h49 => ?_
    refine MV.lift0 (i := 3) rfl (V.fa h49 rfl Paf.fo72_3) rfl rfl rfl fun x91_44 h50 => ?_
    refine MV.lift1 (i := 4) rfl (fun _ z => z) (V.ld hS h50 rfl Paf.one29) rfl rfl rfl [] (by kernel_rfl) fun x92_45 h51 => ?_
    refine MV.step0 (i := 5) rfl (VAL.move rfl) rfl rfl rfl ?_
    refine MV.lift0 (i := 6) rfl (V.nc h51 rfl) rfl rfl rfl fun x94_46 h52 => ?_
    refine MV.lift0 (i := 7) rfl (V.fa h52 rfl Paf.fo72_3) rfl rfl rfl fun x95_47 h53 => ?_
    refine MV.lift1 (i := 8) rfl (fun _ z => z) (V.ld hS h53 rfl Paf.one29) rfl rfl rfl [4] (by kernel_rfl) fun x96_48 h54 => ?_
    refine MV.lift1 (i := 9) rfl (fun _ z => z) (V.lenS h54 rfl Paf.ls29) rfl rfl rfl [4] (by kernel_rfl) fun x97_49 h55 => ?_
    refine MV.lift1 (i := 10) rfl (fun _ z => z) (V.sub h55 rfl rfl) rfl rfl rfl [4] (by kernel_rfl) fun x98_50 h56 => ?_
    refine MV.lift1 (i := 11) rfl (fun _ z => z) (V.cutHi hS h56 rfl rfl Paf.el29) rfl rfl rfl [] (by kernel_rfl) fun x99_51 h57 => ?_
    refine MV.lift1 (i := 12) rfl (fun _ z => z) (V.nc h57 rfl) rfl rfl rfl [] (by kernel_rfl) fun x100_52 h58 => ?_
    refine MV.lift1 (i := 13) rfl (fun _ z => z) (V.fa h58 rfl Paf.fo72_3) rfl rfl rfl [] (by kernel_rfl) fun x101_53 h59 => ?_
    refine MV.force (i := 14) rfl ?_
    refine LV.st hS h59 rfl rfl rfl Paf.siz29 rfl rfl fun T6 its h60 hS => ?_
    refine LV.nextM [] (by kernel_rfl) (fun z => absurd rfl z) ?_
    refine mdn ?_
    refine CV.region ?_
    refine mv ?_
    refine mv ?_
    refine vy (V.nc h60 rfl) fun x104_54 h61 => ?_
    refine vy (V.fa h61 rfl Paf.fo72_1) fun x105_55 h62 => ?_
    refine vy (V.ld hS h62 rfl Paf.one3) fun x106_56 h63 => ?_
    refine LV.call hS h63 (g34_ok _ _ _ _ _ _ _ ) hP rfl rfl rfl rfl fun x107_57 T7 n7 h64 ρ its hS => ?_
    refine LV.done ?_
    refine PV.blockN ?_
    exact pb3 hS h64 ⟨rfl, rfl, rfl, trivial⟩
   ·
    clear h36 h37 h38 h39 h40 h41 h42 h43 h44 h45 h46 h47
    subst e
    refine CV.exit ?_
    refine PV.thenE ?_
    refine PV.thenE ?_
    refine PV.blockE ?_
    refine PV.thenN ?_
    refine CV.seq ?_
    refine CV.seq ?_
    refine CV.regionM [(0, .anywhere), (1, .anywhere), (2, .anywhere), (3, .anywhere), (4, .held), (5, .anywhere), (6, .anywhere), (7, .anywhere), (8, .held), (9, .held), (10, .held), (11, .held), (12, .held), (13, .held)] rfl (fun c a a' w hd hq => PanicOk.root (P := Tryd.prog) (fn := Tryd.f47) (w0 := w0) (base := base) (E := envE) (ro := ro) (r := r) (T' := T') (n' := n') (ρ0 := ρ0) c a a' w hd hq) (by kernel_rfl) ?_
    refine MV.step0 (i := 0) rfl (VAL.move rfl) rfl rfl rfl ?_
    refine MV.step0 (i := 1) rfl (VAL.move rfl) rfl rfl rfl ?_
    refine MV.lift0 (i := 2) rfl (V.nc h48 rfl) rfl rfl rfl fun x110_58 h65 => ?_
    refine MV.lift0 (i := 3) rfl (V.fa h65 rfl Paf.fo72_3) rfl rfl rfl fun x111_59 h66 => ?_
    refine MV.lift1 (i := 4) rfl (fun _ z => z) (V.ld hS h66 rfl Paf.one29) rfl rfl rfl [] (by kernel_rfl) fun x112_60 h67 => ?_
    refine MV.step0 (i := 5) rfl (VAL.move rfl) rfl rfl rfl ?_
    refine MV.lift0 (i := 6) rfl (V.nc h67 rfl) rfl rfl rfl fun x114_61 h68 => ?_
    refine MV.lift0 (i := 7) rfl (V.fa h68 rfl Paf.fo72_3) rfl rfl rfl fun x115_62 h69 => ?_
    refine MV.lift1 (i := 8) rfl (fun _ z => z) (V.ld hS h69 rfl Paf.one29) rfl rfl rfl [4] (by kernel_rfl) fun x116_63 h70 => ?_
    refine MV.lift1 (i := 9) rfl (fun _ z => z) (V.lenS h70 rfl Paf.ls29) rfl rfl rfl [4] (by kernel_rfl) fun x117_64 h71 => ?_
    refine MV.lift1 (i := 10) rfl (fun _ z => z) (V.sub h71 rfl rfl) rfl rfl rfl [4] (by kernel_rfl) fun x118_65 h72 => ?_
    refine MV.lift1 (i := 11) rfl (fun _ z => z) (V.ia h72 rfl rfl Paf.el29) rfl rfl rfl [] (by kernel_rfl) fun x119_66 h73 => ?_
    refine MV.lift1 (i := 12) rfl (fun _ z => z) (V.ld hS h73 rfl Paf.one3) rfl rfl rfl [] (by kernel_rfl) fun x120_67 h74 => ?_
    refine MV.lift1 (i := 13) rfl (fun _ z => z) (V.ne h74 rfl rfl) rfl rfl rfl [] (by kernel_rfl) fun x121_68 h75 => ?_
    refine mdn ?_
    refine CV.cond h75 rfl (fun e h76 => ?_) (fun e h76 => ?_)
    ·
     clear h48 h65 h66 h67 h68 h69 h70 h71 h72 h73 h74 h75
     subst e
     refine sr ?_
     refine mv ?_
     refine vy (V.nc h76 rfl) fun x123_69 h77 => ?_
     refine vy (V.fa h77 rfl Paf.fo72_1) fun x124_70 h78 => ?_
     refine vy (V.ld hS h78 rfl Paf.one3) fun x125_71 h79 => ?_
     refine LV.call hS h79 (g32_ok _ _ _ _ ) hP rfl rfl rfl rfl fun x126_72 T8 n8 h80 ρ its hS => ?_
     refine as_ ?_
     refine dn ?_
     refine CV.ret ?_
     refine PV.thenR ?_
     cases h80
     exact PV.ret (by simp) Tryd.results47 hS (RS.tmp rfl RS.nil) rfl
    ·
     clear h48 h65 h66 h67 h68 h69 h70 h71 h72 h73 h74 h75
     subst e
     refine CV.skip ?_
     refine PV.thenN ?_
     refine sr ?_
     refine as_ ?_
     refine dn ?_
     refine CV.ret ?_
     cases h76
     exact PV.ret (by simp) Tryd.results47 hS (RS.tmp rfl RS.nil) rfl
noncomputable def g49_b1 (ro : List HT) (lp1 : AV → AV → HT → Nat → R) (y0 y2 : AV) (T1 : HT) (n1 : Nat) : R :=
 ncK 490008 y0 fun x9_4 =>
 faK 490009 x9_4 1 fun x10_5 =>
 ldK 490010 T1 ro x10_5 fun x11_6 =>
 ncK 490012 y0 fun x13_7 =>
 faK 490013 x13_7 0 fun x14_8 =>
 ldK 490014 T1 ro x14_8 fun x15_9 =>
 lenTK 490015 x15_9 fun x16_10 =>
 ltK Tryd.prog 3 (.tmp 11) (.tmp 16) 490016 x11_6 x16_10 fun x17_11 =>
 condK 490018 x17_11
 (
  ncK 490020 y0 fun x20_12 =>
  faK 490021 x20_12 0 fun x21_13 =>
  ldK 490022 T1 ro x21_13 fun x22_14 =>
  ncK 490024 y0 fun x24_15 =>
  faK 490025 x24_15 1 fun x25_16 =>
  ldK 490026 T1 ro x25_16 fun x26_17 =>
  ixK 490027 x22_14 x26_17 fun x27_18 =>
  callQ 490028 (g48 (T1 :: ro) x27_18 .nil n1) fun x28_19 =>
  condK 490030 x28_19
  (
   condK 490033 (.lit (.bool true))
   (
    ncK 490035 y0 fun x43_20 =>
    faK 490036 x43_20 1 fun x44_21 =>
    ldK 490037 T1 ro x44_21 fun x45_22 =>
    addK Tryd.prog 3 (.tmp 45) (.const (.int .i64 (.ofNat 1))) 490038 x45_22 (.lit (.int .i64 (.ofNat 1))) fun x46_23 =>
    ncK 490039 y0 fun x47_24 =>
    faK 490040 x47_24 1 fun x48_25 =>
    stK 490041 T1 x48_25 x46_23 fun T2 =>
    lp1 y0 y2 T2 n1
   )
   (
    .bad 0
   )
  )
  (
   ncK 490043 y0 fun x31_26 =>
   faK 490044 x31_26 0 fun x32_27 =>
   ldK 490045 T1 ro x32_27 fun x33_28 =>
   ncK 490047 y0 fun x35_29 =>
   faK 490048 x35_29 1 fun x36_30 =>
   ldK 490049 T1 ro x36_30 fun x37_31 =>
   ixK 490050 x33_28 x37_31 fun x38_32 =>
   callQ 490051 (g50 (T1 :: ro) x38_32 .nil n1) fun x39_33 =>
   condK 490054 x39_33
   (
    ncK 490056 y0 fun x43_34 =>
    faK 490057 x43_34 1 fun x44_35 =>
    ldK 490058 T1 ro x44_35 fun x45_36 =>
    addK Tryd.prog 3 (.tmp 45) (.const (.int .i64 (.ofNat 1))) 490059 x45_36 (.lit (.int .i64 (.ofNat 1))) fun x46_37 =>
    ncK 490060 y0 fun x47_38 =>
    faK 490061 x47_38 1 fun x48_39 =>
    stK 490062 T1 x48_39 x46_37 fun T3 =>
    lp1 y0 y2 T3 n1
   )
   (
    ncK 490064 y0 fun x50_40 =>
    faK 490065 x50_40 0 fun x51_41 =>
    ldK 490066 T1 ro x51_41 fun x52_42 =>
    ncK 490069 y0 fun x55_43 =>
    faK 490070 x55_43 1 fun x56_44 =>
    ldK 490071 T1 ro x56_44 fun x57_45 =>
    sliceK 490072 x52_42 (some y2) (some x57_45) fun x58_46 =>
    callK (g68 ro T1 n1) fun x59_47 T4 n4 =>
    callK (g54 ro x59_47 x58_46 T4 n4) fun x61_48 T5 n5 =>
    condK 490077 x61_48
    (
     callK (g34 ro y0 (.lit (.int .i64 (.ofNat 4))) x58_46 y2 T5 n5) fun x65_49 T6 n6 =>
     .ok (.val (.tup [])) T6 n6
    )
    (
     callK (g34 ro y0 (.lit (.int .i64 (.ofNat 1))) x58_46 y2 T5 n5) fun x69_50 T7 n7 =>
     .ok (.val (.tup [])) T7 n7
    )
   )
  )
 )
 (
  condK 490087 (.lit (.bool false))
  (
   .bad 0
  )
  (
   ncK 490089 y0 fun x50_51 =>
   faK 490090 x50_51 0 fun x51_52 =>
   ldK 490091 T1 ro x51_52 fun x52_53 =>
   ncK 490094 y0 fun x55_54 =>
   faK 490095 x55_54 1 fun x56_55 =>
   ldK 490096 T1 ro x56_55 fun x57_56 =>
   sliceK 490097 x52_53 (some y2) (some x57_56) fun x58_57 =>
   callK (g68 ro T1 n1) fun x59_58 T8 n8 =>
   callK (g54 ro x59_58 x58_57 T8 n8) fun x61_59 T9 n9 =>
   condK 490102 x61_59
   (
    callK (g34 ro y0 (.lit (.int .i64 (.ofNat 4))) x58_57 y2 T9 n9) fun x65_60 T10 n10 =>
    .ok (.val (.tup [])) T10 n10
   )
   (
    callK (g34 ro y0 (.lit (.int .i64 (.ofNat 1))) x58_57 y2 T9 n9) fun x69_61 T11 n11 =>
    .ok (.val (.tup [])) T11 n11
   )
  )
 )
noncomputable def g49 (ro : List HT) (a0 : AV) (T : HT) (nx : Nat) : R :=
 ncK 490002 a0 fun x5_1 =>
 faK 490003 x5_1 1 fun x6_2 =>
 ldK 490004 T ro x6_2 fun x7_3 =>
 lpf2 490006 (g49_b1 ro) 100000 a0 x7_3 T nx
theorem g49_ok (ro : List HT) (a0 : AV) (T : HT) (nx : Nat) : GOk Tryd.prog envE 49 [a0] ro T nx (g49 ro a0 T nx) := by
 refine GOk.of_body Tryd.func49 rfl Tryd.ntmps49 (by kernel_rfl) rfl fun r T' n' h1 w0 base ρ0 its hS hP => ?_
 have X : CtxW envE ρ0 ro r T' n' := trivial
 unfold g49 at h1
 refine sr ?_
 refine mv ?_
 refine vy (V.nc h1 rfl) fun x5_1 h2 => ?_
 refine vy (V.fa h2 rfl Paf.fo72_1) fun x6_2 h3 => ?_
 refine vy (V.ld hS h3 rfl Paf.one3) fun x7_3 h4 => ?_
 refine as_ ?_
 refine dn ?_
 refine CV.seq ?_
 refine CV.block ?_
 refine cl2 X 0 2 [] hS h4 ⟨rfl, rfl, trivial⟩ ?_
 intro f1 y0 y2 T1 n1 ρ its hS h5
 unfold g49_b1 at h5
 clear h1 h2 h3 h4
 refine CV.seq ?_
 refine CV.seq ?_
 refine CV.regionM [(0, .anywhere), (1, .anywhere), (2, .anywhere), (3, .held), (4, .anywhere), (5, .anywhere), (6, .anywhere), (7, .held), (8, .held), (9, .held), (10, .held), (11, .held), (12, .held), (13, .held), (14, .held), (15, .anywhere), (16, .anywhere), (17, .anywhere), (18, .held), (19, .held), (20, .alone), (21, .anywhere), (22, .anywhere), (23, .anywhere), (24, .anywhere), (25, .held), (26, .anywhere), (27, .anywhere), (28, .anywhere), (29, .held), (30, .held), (31, .alone), (32, .anywhere), (33, .anywhere)] rfl (fun c a a' w hd hq => PanicOk.root (P := Tryd.prog) (fn := Tryd.f49) (w0 := w0) (base := base) (E := envE) (ro := ro) (r := r) (T' := T') (n' := n') (ρ0 := ρ0) c a a' w hd hq) (by kernel_rfl) ?_
 refine MV.step0 (i := 0) rfl (VAL.move rfl) rfl rfl rfl ?_
 refine MV.lift0 (i := 1) rfl (V.nc h5 rfl) rfl rfl rfl fun x9_4 h6 => ?_
 refine MV.lift0 (i := 2) rfl (V.fa h6 rfl Paf.fo72_1) rfl rfl rfl fun x10_5 h7 => ?_
 refine MV.lift1 (i := 3) rfl (fun _ z => z) (V.ld hS h7 rfl Paf.one3) rfl rfl rfl [] (by kernel_rfl) fun x11_6 h8 => ?_
 refine MV.step0 (i := 4) rfl (VAL.move rfl) rfl rfl rfl ?_
 refine MV.lift0 (i := 5) rfl (V.nc h8 rfl) rfl rfl rfl fun x13_7 h9 => ?_
 refine MV.lift0 (i := 6) rfl (V.fa h9 rfl Paf.fo72_0) rfl rfl rfl fun x14_8 h10 => ?_
 refine MV.lift1 (i := 7) rfl (fun _ z => z) (V.ld hS h10 rfl Paf.one9) rfl rfl rfl [3] (by kernel_rfl) fun x15_9 h11 => ?_
 refine MV.lift1 (i := 8) rfl (fun _ z => z) (V.lenT h11 rfl Paf.ls9) rfl rfl rfl [3] (by kernel_rfl) fun x16_10 h12 => ?_
 refine MV.lift1 (i := 9) rfl (fun _ z => z) (V.lt h12 rfl rfl) rfl rfl rfl [] (by kernel_rfl) fun x17_11 h13 => ?_
 refine MV.step1 (i := 10) rfl (fun _ z => z) (VAL.move rfl) rfl rfl rfl [] (by kernel_rfl) ?_
 rcases condK_inv h13 with ⟨e, h14⟩ | ⟨e, h14⟩
 ·
  clear h5 h6 h7 h8 h9 h10 h11 h12 h13
  subst e
  refine MV.step1 (i := 11) rfl (fun _ z => z) (VAL.move rfl) rfl rfl rfl [] (by kernel_rfl) ?_
  refine MV.lift1 (i := 12) rfl (fun _ z => z) (V.nc h14 rfl) rfl rfl rfl [] (by kernel_rfl) fun x20_12 h15 => ?_
  refine MV.lift1 (i := 13) rfl (fun _ z => z) (V.fa h15 rfl Paf.fo72_0) rfl rfl rfl [] (by kernel_rfl) fun x21_13 h16 => ?_
  refine MV.lift1 (i := 14) rfl (fun _ z => z) (V.ld hS h16 rfl Paf.one9) rfl rfl rfl [] (by kernel_rfl) fun x22_14 h17 => ?_
  refine MV.step0 (i := 15) rfl (VAL.move rfl) rfl rfl rfl ?_
  refine MV.lift0 (i := 16) rfl (V.nc h17 rfl) rfl rfl rfl fun x24_15 h18 => ?_
  refine MV.lift0 (i := 17) rfl (V.fa h18 rfl Paf.fo72_1) rfl rfl rfl fun x25_16 h19 => ?_
  refine MV.lift1 (i := 18) rfl (fun _ z => z) (V.ld hS h19 rfl Paf.one3) rfl rfl rfl [14] (by kernel_rfl) fun x26_17 h20 => ?_
  refine MV.lift1 (i := 19) rfl (fun _ z => z) (V.ix h20 rfl rfl Paf.st9) rfl rfl rfl [] (by kernel_rfl) fun x27_18 h21 => ?_
  refine MV.force (i := 20) rfl ?_
  refine LV.callQ hS h21 (g48_ok _ _ _ _ ) rfl rfl rfl rfl fun x28_19 h22 => ?_
  refine LV.nextM [] (by kernel_rfl) (fun z => absurd rfl z) ?_
  refine MV.step0 (i := 21) rfl (VAL.move rfl) rfl rfl rfl ?_
  rcases condK_inv h22 with ⟨e, h23⟩ | ⟨e, h23⟩
  ·
   clear h14 h15 h16 h17 h18 h19 h20 h21 h22
   subst e
   refine MV.skip0 (i := 22) rfl rfl rfl rfl ?_
   refine MV.skip0 (i := 23) rfl rfl rfl rfl ?_
   refine MV.skip0 (i := 24) rfl rfl rfl rfl ?_
   refine MV.skip1 (i := 25) rfl (fun _ z => z) rfl rfl rfl [] (by kernel_rfl) ?_
   refine MV.skip0 (i := 26) rfl rfl rfl rfl ?_
   refine MV.skip0 (i := 27) rfl rfl rfl rfl ?_
   refine MV.skip0 (i := 28) rfl rfl rfl rfl ?_
   refine MV.skip1 (i := 29) rfl (fun _ z => z) rfl rfl rfl [25] (by kernel_rfl) ?_
   refine MV.skip1 (i := 30) rfl (fun _ z => z) rfl rfl rfl [] (by kernel_rfl) ?_
   refine MV.force (i := 31) rfl ?_
   refine sk ?_
   refine LV.nextM [] (by kernel_rfl) (fun z => absurd rfl z) ?_
   refine MV.step0 (i := 32) rfl (VAL.pure rfl) rfl rfl rfl ?_
   refine MV.step0 (i := 33) rfl (VAL.pure rfl) rfl rfl rfl ?_
   refine mdn ?_
   refine CV.cond h23 rfl (fun e h24 => ?_) (fun e h24 => ?_)
   ·
    clear h23
    refine CV.skip ?_
    refine PV.thenN ?_
    refine CV.block ?_
    refine CV.region ?_
    refine mv ?_
    refine vy (V.nc h24 rfl) fun x43_20 h25 => ?_
    refine vy (V.fa h25 rfl Paf.fo72_1) fun x44_21 h26 => ?_
    refine vy (V.ld hS h26 rfl Paf.one3) fun x45_22 h27 => ?_
    refine vy (V.add h27 rfl rfl) fun x46_23 h28 => ?_
    refine vy (V.nc h28 rfl) fun x47_24 h29 => ?_
    refine vy (V.fa h29 rfl Paf.fo72_1) fun x48_25 h30 => ?_
    refine LV.st hS h30 rfl rfl rfl Paf.siz3 rfl rfl fun T2 its h31 hS => ?_
    refine LV.done ?_
    refine PV.blockN ?_
    exact pb2 hS h31 ⟨rfl, rfl, trivial⟩
   ·
    clear h23
    cases e
  ·
   clear h14 h15 h16 h17 h18 h19 h20 h21 h22
   subst e
   refine MV.step0 (i := 22) rfl (VAL.move rfl) rfl rfl rfl ?_
   refine MV.lift0 (i := 23) rfl (V.nc h23 rfl) rfl rfl rfl fun x31_26 h32 => ?_
   refine MV.lift0 (i := 24) rfl (V.fa h32 rfl Paf.fo72_0) rfl rfl rfl fun x32_27 h33 => ?_
   refine MV.lift1 (i := 25) rfl (fun _ z => z) (V.ld hS h33 rfl Paf.one9) rfl rfl rfl [] (by kernel_rfl) fun x33_28 h34 => ?_
   refine MV.step0 (i := 26) rfl (VAL.move rfl) rfl rfl rfl ?_
   refine MV.lift0 (i := 27) rfl (V.nc h34 rfl) rfl rfl rfl fun x35_29 h35 => ?_
   refine MV.lift0 (i := 28) rfl (V.fa h35 rfl Paf.fo72_1) rfl rfl rfl fun x36_30 h36 => ?_
   refine MV.lift1 (i := 29) rfl (fun _ z => z) (V.ld hS h36 rfl Paf.one3) rfl rfl rfl [25] (by kernel_rfl) fun x37_31 h37 => ?_
   refine MV.lift1 (i := 30) rfl (fun _ z => z) (V.ix h37 rfl rfl Paf.st9) rfl rfl rfl [] (by kernel_rfl) fun x38_32 h38 => ?_
   refine MV.force (i := 31) rfl ?_
   refine LV.callQ hS h38 (g50_ok _ _ _ _ ) rfl rfl rfl rfl fun x39_33 h39 => ?_
   refine LV.nextM [] (by kernel_rfl) (fun z => absurd rfl z) ?_
   refine MV.step0 (i := 32) rfl (VAL.pure rfl) rfl rfl rfl ?_
   refine MV.step0 (i := 33) rfl (VAL.pure rfl) rfl rfl rfl ?_
   refine mdn ?_
   refine CV.cond h39 rfl (fun e h40 => ?_) (fun e h40 => ?_)
   ·
    clear h23 h32 h33 h34 h35 h36 h37 h38 h39
    subst e
    refine CV.skip ?_
    refine PV.thenN ?_
    refine CV.block ?_
    refine CV.region ?_
    refine mv ?_
    refine vy (V.nc h40 rfl) fun x43_34 h41 => ?_
    refine vy (V.fa h41 rfl Paf.fo72_1) fun x44_35 h42 => ?_
    refine vy (V.ld hS h42 rfl Paf.one3) fun x45_36 h43 => ?_
    refine vy (V.add h43 rfl rfl) fun x46_37 h44 => ?_
    refine vy (V.nc h44 rfl) fun x47_38 h45 => ?_
    refine vy (V.fa h45 rfl Paf.fo72_1) fun x48_39 h46 => ?_
    refine LV.st hS h46 rfl rfl rfl Paf.siz3 rfl rfl fun T3 its h47 hS => ?_
    refine LV.done ?_
    refine PV.blockN ?_
    exact pb2 hS h47 ⟨rfl, rfl, trivial⟩
   ·
    clear h23 h32 h33 h34 h35 h36 h37 h38 h39
    subst e
    refine CV.exit ?_
    refine PV.thenE ?_
    refine PV.thenE ?_
    refine PV.blockE ?_
    refine PV.thenN ?_
    refine CV.seq ?_
    refine CV.regionM [(0, .anywhere), (1, .anywhere), (2, .anywhere), (3, .held), (4, .anywhere), (5, .anywhere), (6, .anywhere), (7, .anywhere), (8, .held), (9, .held), (10, .held)] rfl (fun c a a' w hd hq => PanicOk.root (P := Tryd.prog) (fn := Tryd.f49) (w0 := w0) (base := base) (E := envE) (ro := ro) (r := r) (T' := T') (n' := n') (ρ0 := ρ0) c a a' w hd hq) (by kernel_rfl) ?_
    refine MV.step0 (i := 0) rfl (VAL.move rfl) rfl rfl rfl ?_
    refine MV.lift0 (i := 1) rfl (V.nc h40 rfl) rfl rfl rfl fun x50_40 h48 => ?_
    refine MV.lift0 (i := 2) rfl (V.fa h48 rfl Paf.fo72_0) rfl rfl rfl fun x51_41 h49 => ?_
    refine MV.lift1 (i := 3) rfl (fun _ z => z) (V.ld hS h49 rfl Paf.one9) rfl rfl rfl [] (by kernel_rfl) fun x52_42 h50 => ?_
    refine MV.step0 (i := 4) rfl (VAL.move rfl) rfl rfl rfl ?_
    refine MV.step0 (i := 5) rfl (VAL.move rfl) rfl rfl rfl ?_
    refine MV.lift0 (i := 6) rfl (V.nc h50 rfl) rfl rfl rfl fun x55_43 h51 => ?_
    refine MV.lift0 (i := 7) rfl (V.fa h51 rfl Paf.fo72_1) rfl rfl rfl fun x56_44 h52 => ?_
    refine MV.lift1 (i := 8) rfl (fun _ z => z) (V.ld hS h52 rfl Paf.one3) rfl rfl rfl [3] (by kernel_rfl) fun x57_45 h53 => ?_
    refine MV.lift1 (i := 9) rfl (fun _ z => z) (V.slBo h53 rfl rfl rfl Paf.st9) rfl rfl rfl [] (by kernel_rfl) fun x58_46 h54 => ?_
    refine MV.step1 (i := 10) rfl (fun _ z => z) (VAL.assign rfl) rfl rfl rfl [] (by kernel_rfl) ?_
    refine mdn ?_
    refine CV.seq ?_
    refine sr ?_
    refine LV.call hS h54 (g68_ok _ _ _ ) hP rfl rfl rfl rfl fun x59_47 T4 n4 h55 ρ its hS => ?_
    refine mv ?_
    refine LV.call hS h55 (g54_ok _ _ _ _ _ ) hP rfl rfl rfl rfl fun x61_48 T5 n5 h56 ρ its hS => ?_
    refine dn ?_
    refine CV.cond h56 rfl (fun e h57 => ?_) (fun e h57 => ?_)
    ·
     clear h40 h48 h49 h50 h51 h52 h53 h54 h55 h56
     subst e
     refine sr ?_
     refine mv ?_
     refine mv ?_
     refine mv ?_
     refine LV.call hS h57 (g34_ok _ _ _ _ _ _ _ ) hP rfl rfl rfl rfl fun x65_49 T6 n6 h58 ρ its hS => ?_
     refine dn ?_
     refine CV.ret ?_
     refine PV.thenR ?_
     cases h58
     exact PV.ret (by simp) Tryd.results49 hS RS.nil rfl
    ·
     clear h40 h48 h49 h50 h51 h52 h53 h54 h55 h56
     subst e
     refine CV.skip ?_
     refine PV.thenN ?_
     refine CV.region ?_
     refine mv ?_
     refine mv ?_
     refine mv ?_
     refine LV.call hS h57 (g34_ok _ _ _ _ _ _ _ ) hP rfl rfl rfl rfl fun x69_50 T7 n7 h59 ρ its hS => ?_
     refine LV.done ?_
     cases h59
     exact PV.ret (by simp) Tryd.results49 hS RS.nil rfl
 ·
  clear h5 h6 h7 h8 h9 h10 h11 h12 h13
  subst e
  refine MV.skip1 (i := 11) rfl (fun _ z => z) rfl rfl rfl [] (by kernel_rfl) ?_
  refine MV.skip1 (i := 12) rfl (fun _ z => z) rfl rfl rfl [] (by kernel_rfl) ?_
  refine MV.skip1 (i := 13) rfl (fun _ z => z) rfl rfl rfl [] (by kernel_rfl) ?_
  refine MV.skip1 (i := 14) rfl (fun _ z => z) rfl rfl rfl [] (by kernel_rfl) ?_
  refine MV.skip0 (i := 15) rfl rfl rfl rfl ?_
  refine MV.skip0 (i := 16) rfl rfl rfl rfl ?_
  refine MV.skip0 (i := 17) rfl rfl rfl rfl ?_
  refine MV.skip1 (i := 18) rfl (fun _ z => z) rfl rfl rfl [14] (by kernel_rfl) ?_
  refine MV.skip1 (i := 19) rfl (fun _ z => z) rfl rfl rfl [] (by kernel_rfl) ?_
  refine MV.force (i := 20) rfl ?_
  refine sk ?_
  refine LV.nextM [] (by kernel_rfl) (fun z => absurd rfl z) ?_
  refine MV.skip0 (i := 21) rfl rfl rfl rfl ?_
  refine MV.skip0 (i := 22) rfl rfl rfl rfl ?_
  refine MV.skip0 (i := 23) rfl rfl rfl rfl ?_
  refine MV.skip0 (i := 24) rfl rfl rfl rfl ?_
  refine MV.skip1 (i := 25) rfl (fun _ z => z) rfl rfl rfl [] (by kernel_rfl) ?_
  refine MV.skip0 (i := 26) rfl rfl rfl rfl ?_
  refine MV.skip0 (i := 27) rfl rfl rfl rfl ?_
  refine MV.skip0 (i := 28) rfl rfl rfl rfl ?_
  refine MV.skip1 (i := 29) rfl (fun _ z => z) rfl rfl rfl [25] (by kernel_rfl) ?_
  refine MV.skip1 (i := 30) rfl (fun _ z => z) rfl rfl rfl [] (by kernel_rfl) ?_
  refine MV.force (i := 31) rfl ?_
  refine sk ?_
  refine LV.nextM [] (by kernel_rfl) (fun z => absurd rfl z) ?_
  refine MV.skip0 (i := 32) rfl rfl rfl rfl ?_
  refine MV.step0 (i := 33) rfl (VAL.pure rfl) rfl rfl rfl ?_
  refine mdn ?_
  refine CV.cond h14 rfl (fun e h60 => ?_) (fun e h60 => ?_)
  ·
   clear h14
   cases e
  ·
   clear h14
   refine CV.exit ?_
   refine PV.thenE ?_
   refine PV.thenE ?_
   refine PV.blockE ?_
   refine PV.thenN ?_
   refine CV.seq ?_
   refine CV.regionM [(0, .anywhere), (1, .anywhere), (2, .anywhere), (3, .held), (4, .anywhere), (5, .anywhere), (6, .anywhere), (7, .anywhere), (8, .held), (9, .held), (10, .held)] rfl (fun c a a' w hd hq => PanicOk.root (P := Tryd.prog) (fn := Tryd.f49) (w0 := w0) (base := base) (E := envE) (ro := ro) (r := r) (T' := T') (n' := n') (ρ0 := ρ0) c a a' w hd hq) (by kernel_rfl) ?_
   refine MV.step0 (i := 0) rfl (VAL.move rfl) rfl rfl rfl ?_
   refine MV.lift0 (i := 1) rfl (V.nc h60 rfl) rfl rfl rfl fun x50_51 h61 => ?_
   refine MV.lift0 (i := 2) rfl (V.fa h61 rfl Paf.fo72_0) rfl rfl rfl fun x51_52 h62 => ?_
   refine MV.lift1 (i := 3) rfl (fun _ z => z) (V.ld hS h62 rfl Paf.one9) rfl rfl rfl [] (by kernel_rfl) fun x52_53 h63 => ?_
   refine MV.step0 (i := 4) rfl (VAL.move rfl) rfl rfl rfl ?_
   refine MV.step0 (i := 5) rfl (VAL.move rfl) rfl rfl rfl ?_
   refine MV.lift0 (i := 6) rfl (V.nc h63 rfl) rfl rfl rfl fun x55_54 h64 => ?_
   refine MV.lift0 (i := 7) rfl (V.fa h64 rfl Paf.fo72_1) rfl rfl rfl fun x56_55 h65 => ?_
   refine MV.lift1 (i := 8) rfl (fun _ z => z) (V.ld hS h65 rfl Paf.one3) rfl rfl rfl [3] (by kernel_rfl) fun x57_56 h66 => ?_
   refine MV.lift1 (i := 9) rfl (fun _ z => z) (V.slBo h66 rfl rfl rfl Paf.st9) rfl rfl rfl [] (by kernel_rfl) fun x58_57 h67 => ?_
   refine MV.step1 (i := 10) rfl (fun _ z => z) (VAL.assign rfl) rfl rfl rfl [] (by kernel_rfl) ?_
   refine mdn ?_
   refine CV.seq ?_
   refine sr ?_
   refine LV.call hS h67 (g68_ok _ _ _ ) hP rfl rfl rfl rfl fun x59_58 T8 n8 h68 ρ its hS => ?_
   refine mv ?_
   refine LV.call hS h68 (g54_ok _ _ _ _ _ ) hP rfl rfl rfl rfl fun x61_59 T9 n9 h69 ρ its hS => ?_
   refine dn ?_
   refine CV.cond h69 rfl (fun e h70 => ?_) (fun e h70 => ?_)
   ·
    clear h60 h61 h62 h63 h64 h65 h66 h67 h68 h69
    subst e
    refine sr ?_
    refine mv ?_
    refine mv ?_
    refine mv ?_
    refine LV.call hS h70 (g34_ok _ _ _ _ _ _ _ ) hP rfl rfl rfl rfl fun x65_60 T10 n10 h71 ρ its hS => ?_
    refine dn ?_
    refine CV.ret ?_
    refine PV.thenR ?_
    cases h71
    exact PV.ret (by simp) Tryd.results49 hS RS.nil rfl
   ·
    clear h60 h61 h62 h63 h64 h65 h66 h67 h68 h69
    subst e
    refine CV.skip ?_
    refine PV.thenN ?_
    refine CV.region ?_
    refine mv ?_
    refine mv ?_
    refine mv ?_
    refine LV.call hS h70 (g34_ok _ _ _ _ _ _ _ ) hP rfl rfl rfl rfl fun x69_61 T11 n11 h72 ρ its hS => ?_
    refine LV.done ?_
    cases h72
    exact PV.ret (by simp) Tryd.results49 hS RS.nil rfl
noncomputable def g51_k2 (ro : List HT) (y0 y2 y3 y4 y84 : AV) (T8 : HT) (n8 : Nat) : R :=
 condK 510107 y84
 (
  callK (g32 ro y3 T8 n8) fun x86_67 T9 n9 =>
  .ok (.val x86_67) T9 n9
 )
 (
  callK (g34 ro y0 (.lit (.int .i64 (.ofNat 2))) y4 y3 T8 n8) fun x90_68 T10 n10 =>
  .ok (.val (.lit (.nilIface))) T10 n10
 )
noncomputable def g51_k3 (ro : List HT) (y0 y2 y3 y4 y83 : AV) (T11 : HT) (n11 : Nat) : R :=
 g51_k2 ro y0 y2 y3 y4 y83 T11 n11
noncomputable def g51_k4 (ro : List HT) (y0 y2 y3 y4 y84 : AV) (T12 : HT) (n12 : Nat) : R :=
 condK 510146 y84
 (
  callK (g32 ro y3 T12 n12) fun x86_82 T13 n13 =>
  .ok (.val x86_82) T13 n13
 )
 (
  callK (g34 ro y0 (.lit (.int .i64 (.ofNat 2))) y4 y3 T12 n12) fun x90_83 T14 n14 =>
  .ok (.val (.lit (.nilIface))) T14 n14
 )
noncomputable def g51_k5 (ro : List HT) (y0 y2 y3 y4 y83 : AV) (T15 : HT) (n15 : Nat) : R :=
 g51_k4 ro y0 y2 y3 y4 y83 T15 n15
noncomputable def g51_b1 (ro : List HT) (lp1 : AV → AV → AV → HT → Nat → R) (y0 y2 y3 : AV) (T1 : HT) (n1 : Nat) : R :=
 ncK 510009 y0 fun x10_4 =>
 faK 510010 x10_4 1 fun x11_5 =>
 ldK 510011 T1 ro x11_5 fun x12_6 =>
 ncK 510013 y0 fun x14_7 =>
 faK 510014 x14_7 0 fun x15_8 =>
 ldK 510015 T1 ro x15_8 fun x16_9 =>
 lenTK 510016 x16_9 fun x17_10 =>
 ltK Tryd.prog 3 (.tmp 12) (.tmp 17) 510017 x12_6 x17_10 fun x18_11 =>
 condK 510019 x18_11
 (
  ncK 510021 y0 fun x21_12 =>
  faK 510022 x21_12 0 fun x22_13 =>
  ldK 510023 T1 ro x22_13 fun x23_14 =>
  ncK 510025 y0 fun x25_15 =>
  faK 510026 x25_15 1 fun x26_16 =>
  ldK 510027 T1 ro x26_16 fun x27_17 =>
  ixK 510028 x23_14 x27_17 fun x28_18 =>
  callQ 510029 (g48 (T1 :: ro) x28_18 .nil n1) fun x29_19 =>
  condK 510031 x29_19
  (
   condK 510034 (.lit (.bool true))
   (
    ncK 510036 y0 fun x44_20 =>
    faK 510037 x44_20 0 fun x45_21 =>
    ldK 510038 T1 ro x45_21 fun x46_22 =>
    ncK 510040 y0 fun x48_23 =>
    faK 510041 x48_23 1 fun x49_24 =>
    ldK 510042 T1 ro x49_24 fun x50_25 =>
    ixK 510043 x46_22 x50_25 fun x51_26 =>
    callK (g48 ro x51_26 T1 n1) fun x52_27 T2 n2 =>
    condK 510045 x52_27
    (
     callK (g32 ro y3 T2 n2) fun x54_28 T3 n3 =>
     .ok (.val x54_28) T3 n3
    )
    (
     ncK 510050 y0 fun x56_29 =>
     faK 510051 x56_29 1 fun x57_30 =>
     ldK 510052 T2 ro x57_30 fun x58_31 =>
     addK Tryd.prog 3 (.tmp 58) (.const (.int .i64 (.ofNat 1))) 510053 x58_31 (.lit (.int .i64 (.ofNat 1))) fun x59_32 =>
     ncK 510054 y0 fun x60_33 =>
     faK 510055 x60_33 1 fun x61_34 =>
     stK 510056 T2 x61_34 x59_32 fun T4 =>
     lp1 y0 y2 y3 T4 n2
    )
   )
   (
    .bad 0
   )
  )
  (
   ncK 510058 y0 fun x32_35 =>
   faK 510059 x32_35 0 fun x33_36 =>
   ldK 510060 T1 ro x33_36 fun x34_37 =>
   ncK 510062 y0 fun x36_38 =>
   faK 510063 x36_38 1 fun x37_39 =>
   ldK 510064 T1 ro x37_39 fun x38_40 =>
   ixK 510065 x34_37 x38_40 fun x39_41 =>
   callQ 510066 (g50 (T1 :: ro) x39_41 .nil n1) fun x40_42 =>
   condK 510069 x40_42
   (
    ncK 510071 y0 fun x44_43 =>
    faK 510072 x44_43 0 fun x45_44 =>
    ldK 510073 T1 ro x45_44 fun x46_45 =>
    ncK 510075 y0 fun x48_46 =>
    faK 510076 x48_46 1 fun x49_47 =>
    ldK 510077 T1 ro x49_47 fun x50_48 =>
    ixK 510078 x46_45 x50_48 fun x51_49 =>
    callK (g48 ro x51_49 T1 n1) fun x52_50 T5 n5 =>
    condK 510080 x52_50
    (
     callK (g32 ro y3 T5 n5) fun x54_51 T6 n6 =>
     .ok (.val x54_51) T6 n6
    )
    (
     ncK 510085 y0 fun x56_52 =>
     faK 510086 x56_52 1 fun x57_53 =>
     ldK 510087 T5 ro x57_53 fun x58_54 =>
     addK Tryd.prog 3 (.tmp 58) (.const (.int .i64 (.ofNat 1))) 510088 x58_54 (.lit (.int .i64 (.ofNat 1))) fun x59_55 =>
     ncK 510089 y0 fun x60_56 =>
     faK 510090 x60_56 1 fun x61_57 =>
     stK 510091 T5 x61_57 x59_55 fun T7 =>
     lp1 y0 y2 y3 T7 n5
    )
   )
   (
    ncK 510093 y0 fun x63_58 =>
    faK 510094 x63_58 0 fun x64_59 =>
    ldK 510095 T1 ro x64_59 fun x65_60 =>
    ncK 510098 y0 fun x68_61 =>
    faK 510099 x68_61 1 fun x69_62 =>
    ldK 510100 T1 ro x69_62 fun x70_63 =>
    sliceK 510101 x65_60 (some y3) (some x70_63) fun x71_64 =>
    lenTK 510104 x71_64 fun x73_65 =>
    gtK Tryd.prog 3 (.tmp 73) (.const (.int .i64 (.ofNat 600))) 510105 x73_65 (.lit (.int .i64 (.ofNat 600))) fun x74_66 =>
    condK 510116 x74_66
    (
     g51_k2 ro y0 y2 y3 x71_64 (.lit (.bool true)) T1 n1
    )
    (
     ixK 510119 x71_64 (.lit (.int .i64 (.ofNat 0))) fun x77_69 =>
     eqK Tryd.prog 5 (.tmp 77) (.const (.int .u8 (.ofNat 48))) 510120 x77_69 (.lit (.int .u8 (.ofNat 48))) fun x78_70 =>
     condK 510123 x78_70
     (
      lenTK 510125 x71_64 fun x81_71 =>
      gtK Tryd.prog 3 (.tmp 81) (.const (.int .i64 (.ofNat 1))) 510126 x81_71 (.lit (.int .i64 (.ofNat 1))) fun x82_72 =>
      g51_k3 ro y0 y2 y3 x71_64 x82_72 T1 n1
     )
     (
      g51_k3 ro y0 y2 y3 x71_64 (.lit (.bool false)) T1 n1
     )
    )
   )
  )
 )
 (
  condK 510130 (.lit (.bool false))
  (
   .bad 0
  )
  (
   ncK 510132 y0 fun x63_73 =>
   faK 510133 x63_73 0 fun x64_74 =>
   ldK 510134 T1 ro x64_74 fun x65_75 =>
   ncK 510137 y0 fun x68_76 =>
   faK 510138 x68_76 1 fun x69_77 =>
   ldK 510139 T1 ro x69_77 fun x70_78 =>
   sliceK 510140 x65_75 (some y3) (some x70_78) fun x71_79 =>
   lenTK 510143 x71_79 fun x73_80 =>
   gtK Tryd.prog 3 (.tmp 73) (.const (.int .i64 (.ofNat 600))) 510144 x73_80 (.lit (.int .i64 (.ofNat 600))) fun x74_81 =>
   condK 510155 x74_81
   (
    g51_k4 ro y0 y2 y3 x71_79 (.lit (.bool true)) T1 n1
   )
   (
    ixK 510158 x71_79 (.lit (.int .i64 (.ofNat 0))) fun x77_84 =>
    eqK Tryd.prog 5 (.tmp 77) (.const (.int .u8 (.ofNat 48))) 510159 x77_84 (.lit (.int .u8 (.ofNat 48))) fun x78_85 =>
    condK 510162 x78_85
    (
     lenTK 510164 x71_79 fun x81_86 =>
     gtK Tryd.prog 3 (.tmp 81) (.const (.int .i64 (.ofNat 1))) 510165 x81_86 (.lit (.int .i64 (.ofNat 1))) fun x82_87 =>
     g51_k5 ro y0 y2 y3 x71_79 x82_87 T1 n1
    )
    (
     g51_k5 ro y0 y2 y3 x71_79 (.lit (.bool false)) T1 n1
    )
   )
  )
 )
noncomputable def g51 (ro : List HT) (a0 : AV) (T : HT) (nx : Nat) : R :=
 ncK 510003 a0 fun x6_1 =>
 faK 510004 x6_1 1 fun x7_2 =>
 ldK 510005 T ro x7_2 fun x8_3 =>
 lpf3 510007 (g51_b1 ro) 100000 a0 (.lit (.nilIface)) x8_3 T nx
theorem g51_ok (ro : List HT) (a0 : AV) (T : HT) (nx : Nat) : GOk Tryd.prog envE 51 [a0] ro T nx (g51 ro a0 T nx) := by
 refine GOk.of_body Tryd.func51 rfl Tryd.ntmps51 (by kernel_rfl) rfl fun r T' n' h1 w0 base ρ0 its hS hP => ?_
 have X : CtxW envE ρ0 ro r T' n' := trivial
 unfold g51 at h1
 refine sr ?_
 refine as_ ?_
 refine dn ?_
 refine sr ?_
 refine mv ?_
 refine vy (V.nc h1 rfl) fun x6_1 h2 => ?_
 refine vy (V.fa h2 rfl Paf.fo72_1) fun x7_2 h3 => ?_
 refine vy (V.ld hS h3 rfl Paf.one3) fun x8_3 h4 => ?_
 refine as_ ?_
 refine dn ?_
 refine CV.seq ?_
 refine CV.block ?_
 refine cl3 X 0 2 3 [] hS h4 ⟨rfl, rfl, rfl, trivial⟩ ?_
 intro f1 y0 y2 y3 T1 n1 ρ its hS h5
 unfold g51_b1 at h5
 clear h1 h2 h3 h4
 refine CV.seq ?_
 refine CV.seq ?_
 refine CV.regionM [(0, .anywhere), (1, .anywhere), (2, .anywhere), (3, .held), (4, .anywhere), (5, .anywhere), (6, .anywhere), (7, .held), (8, .held), (9, .held), (10, .held), (11, .held), (12, .held), (13, .held), (14, .held), (15, .anywhere), (16, .anywhere), (17, .anywhere), (18, .held), (19, .held), (20, .alone), (21, .anywhere), (22, .anywhere), (23, .anywhere), (24, .anywhere), (25, .held), (26, .anywhere), (27, .anywhere), (28, .anywhere), (29, .held), (30, .held), (31, .alone), (32, .anywhere), (33, .anywhere)] rfl (fun c a a' w hd hq => PanicOk.root (P := Tryd.prog) (fn := Tryd.f51) (w0 := w0) (base := base) (E := envE) (ro := ro) (r := r) (T' := T') (n' := n') (ρ0 := ρ0) c a a' w hd hq) (by kernel_rfl) ?_
 refine MV.step0 (i := 0) rfl (VAL.move rfl) rfl rfl rfl ?_
 refine MV.lift0 (i := 1) rfl (V.nc h5 rfl) rfl rfl rfl fun x10_4 h6 => ?_
 refine MV.lift0 (i := 2) rfl (V.fa h6 rfl Paf.fo72_1) rfl rfl rfl fun x11_5 h7 => ?_
 refine MV.lift1 (i := 3) rfl (fun _ z => z) (V.ld hS h7 rfl Paf.one3) rfl rfl rfl [] (by kernel_rfl) fun x12_6 h8 => ?_
 refine MV.step0 (i := 4) rfl (VAL.move rfl) rfl rfl rfl ?_
 refine MV.lift0 (i := 5) rfl (V.nc h8 rfl) rfl rfl rfl fun x14_7 h9 => ?_
 refine MV.lift0 (i := 6) rfl (V.fa h9 rfl Paf.fo72_0) rfl rfl rfl fun x15_8 h10 => ?_
 refine MV.lift1 (i := 7) rfl (fun _ z => z) (V.ld hS h10 rfl Paf.one9) rfl rfl rfl [3] (by kernel_rfl) fun x16_9 h11 => ?_
 refine MV.lift1 (i := 8) rfl (fun _ z => z) (V.lenT h11 rfl Paf.ls9) rfl rfl rfl [3] (by kernel_rfl) fun x17_10 h12 => ?_
 refine MV.lift1 (i := 9) rfl (fun _ z => z) (V.lt h12 rfl rfl) rfl rfl rfl [] (by kernel_rfl) fun x18_11 h13 => ?_
 refine MV.step1 (i := 10) rfl (fun _ z => z) (VAL.move rfl) rfl rfl rfl [] (by kernel_rfl) ?_
 rcases condK_inv h13 with ⟨e, h14⟩ | ⟨e, h14⟩
 ·
  clear h5 h6 h7 h8 h9 h10 h11 h12 h13
  subst e
  refine MV.step1 (i := 11) rfl (fun _ z => z) (VAL.move rfl) rfl rfl rfl [] (by kernel_rfl) ?_
  refine MV.lift1 (i := 12) rfl (fun _ z => z) (V.nc h14 rfl) rfl rfl rfl [] (by kernel_rfl) fun x21_12 h15 => ?_
  refine MV.lift1 (i := 13) rfl (fun _ z => z) (V.fa h15 rfl Paf.fo72_0) rfl rfl rfl [] (by kernel_rfl) fun x22_13 h16 => ?_
  refine MV.lift1 (i := 14) rfl (fun _ z => z) (V.ld hS h16 rfl Paf.one9) rfl rfl rfl [] (by kernel_rfl) fun x23_14 h17 => ?_
  refine MV.step0 (i := 15) rfl (VAL.move rfl) rfl rfl rfl ?_
  refine MV.lift0 (i := 16) rfl (V.nc h17 rfl) rfl rfl rfl fun x25_15 h18 => ?_
  refine MV.lift0 (i := 17) rfl (V.fa h18 rfl Paf.fo72_1) rfl rfl rfl fun x26_16 h19 => ?_
  refine MV.lift1 (i := 18) rfl (fun _ z => z) (V.ld hS h19 rfl Paf.one3) rfl rfl rfl [14] (by kernel_rfl) fun x27_17 h20 => ?_
  refine MV.lift1 (i := 19) rfl (fun _ z => z) (V.ix h20 rfl rfl Paf.st9) rfl rfl rfl [] (by kernel_rfl) fun x28_18 h21 => ?_
  refine MV.force (i := 20) rfl ?_
  refine LV.callQ hS h21 (g48_ok _ _ _ _ ) rfl rfl rfl rfl fun x29_19 h22 => ?_
  refine LV.nextM [] (by kernel_rfl) (fun z => absurd rfl z) ?_
  refine MV.step0 (i := 21) rfl (VAL.move rfl) rfl rfl rfl ?_
  rcases condK_inv h22 with ⟨e, h23⟩ | ⟨e, h23⟩
  ·
   clear h14 h15 h16 h17 h18 h19 h20 h21 h22
   subst e
   refine MV.skip0 (i := 22) rfl rfl rfl rfl ?_
   refine MV.skip0 (i := 23) rfl rfl rfl rfl ?_
   refine MV.skip0 (i := 24) rfl rfl rfl rfl ?_
   refine MV.skip1 (i := 25) rfl (fun _ z => z) rfl rfl rfl [] (by kernel_rfl) ?_
   refine MV.skip0 (i := 26) rfl rfl rfl rfl ?_
   refine MV.skip0 (i := 27) rfl rfl rfl rfl ?_
   refine MV.skip0 (i := 28) rfl rfl rfl rfl ?_
   refine MV.skip1 (i := 29) rfl (fun _ z => z) rfl rfl rfl [25] (by kernel_rfl) ?_
   refine MV.skip1 (i := 30) rfl (fun _ z => z) rfl rfl rfl [] (by kernel_rfl) ?_
   refine MV.force (i := 31) rfl ?_
   refine sk ?_
   refine LV.nextM [] (by kernel_rfl) (fun z => absurd rfl z) ?_
   refine MV.step0 (i := 32) rfl (VAL.pure rfl) rfl rfl rfl ?_
   refine MV.step0 (i := 33) rfl (VAL.pure rfl) rfl rfl rfl ?_
   refine mdn ?_
   refine CV.cond h23 rfl (fun e h24 => ?_) (fun e h24 => ?_)
   ·
    clear h23
    refine CV.skip ?_
    refine PV.thenN ?_
    refine CV.block ?_
    refine CV.seq ?_
    refine CV.seq ?_
    refine CV.regionM [(0, .anywhere), (1, .anywhere), (2, .anywhere), (3, .held), (4, .anywhere), (5, .anywhere), (6, .anywhere), (7, .held), (8, .held), (9, .alone)] rfl (fun c a a' w hd hq => PanicOk.root (P := Tryd.prog) (fn := Tryd.f51) (w0 := w0) (base := base) (E := envE) (ro := ro) (r := r) (T' := T') (n' := n') (ρ0 := ρ0) c a a' w hd hq) (by kernel_rfl) ?_
    refine MV.step0 (i := 0) rfl (VAL.move rfl) rfl rfl rfl ?_
    refine MV.lift0 (i := 1) rfl (V.nc h24 rfl) rfl rfl rfl fun x44_20 h25 => ?_
    refine MV.lift0 (i := 2) rfl (V.fa h25 rfl Paf.fo72_0) rfl rfl rfl fun x45_21 h26 => ?_
    refine MV.lift1 (i := 3) rfl (fun _ z => z) (V.ld hS h26 rfl Paf.one9) rfl rfl rfl [] (by kernel_rfl) fun x46_22 h27 => ?_
    refine MV.step0 (i := 4) rfl (VAL.move rfl) rfl rfl rfl ?_
    refine MV.lift0 (i := 5) rfl (V.nc h27 rfl) rfl rfl rfl fun x48_23 h28 => ?_
    refine MV.lift0 (i := 6) rfl (V.fa h28 rfl Paf.fo72_1) rfl rfl rfl fun x49_24 h29 => ?_
    refine MV.lift1 (i := 7) rfl (fun _ z => z) (V.ld hS h29 rfl Paf.one3) rfl rfl rfl [3] (by kernel_rfl) fun x50_25 h30 => ?_
    refine MV.lift1 (i := 8) rfl (fun _ z => z) (V.ix h30 rfl rfl Paf.st9) rfl rfl rfl [] (by kernel_rfl) fun x51_26 h31 => ?_
    refine MV.force (i := 9) rfl ?_
    refine LV.call hS h31 (g48_ok _ _ _ _ ) hP rfl rfl rfl rfl fun x52_27 T2 n2 h32 ρ its hS => ?_
    refine LV.nextM [] (by kernel_rfl) (fun z => absurd rfl z) ?_
    refine mdn ?_
    refine CV.cond h32 rfl (fun e h33 => ?_) (fun e h33 => ?_)
    ·
     clear h24 h25 h26 h27 h28 h29 h30 h31 h32
     subst e
     refine sr ?_
     refine mv ?_
     refine LV.call hS h33 (g32_ok _ _ _ _ ) hP rfl rfl rfl rfl fun x54_28 T3 n3 h34 ρ its hS => ?_
     refine as_ ?_
     refine dn ?_
     refine CV.ret ?_
     refine PV.thenR ?_
     refine PV.blockR ?_
     refine PV.thenR ?_
     refine PV.blockR ?_
     refine PV.thenR ?_
     cases h34
     exact PV.ret (by simp) Tryd.results51 hS (RS.tmp rfl RS.nil) rfl
    ·
     clear h24 h25 h26 h27 h28 h29 h30 h31 h32
     subst e
     refine CV.skip ?_
     refine PV.thenN ?_
     refine CV.region ?_
     refine mv ?_
     refine vy (V.nc h33 rfl) fun x56_29 h35 => ?_
     refine vy (V.fa h35 rfl Paf.fo72_1) fun x57_30 h36 => ?_
     refine vy (V.ld hS h36 rfl Paf.one3) fun x58_31 h37 => ?_
     refine vy (V.add h37 rfl rfl) fun x59_32 h38 => ?_
     refine vy (V.nc h38 rfl) fun x60_33 h39 => ?_
     refine vy (V.fa h39 rfl Paf.fo72_1) fun x61_34 h40 => ?_
     refine LV.st hS h40 rfl rfl rfl Paf.siz3 rfl rfl fun T4 its h41 hS => ?_
     refine LV.done ?_
     refine PV.blockN ?_
     exact pb3 hS h41 ⟨rfl, rfl, rfl, trivial⟩
   ·
    clear h23
    cases e
  ·
   clear h14 h15 h16 h17 h18 h19 h20 h21 h22
   subst e
   refine MV.step0 (i := 22) rfl (VAL.move rfl) rfl rfl rfl ?_
   refine MV.lift0 (i := 23) rfl (V.nc h23 rfl) rfl rfl rfl fun x32_35 h42 => ?_
   refine MV.lift0 (i := 24) rfl (V.fa h42 rfl Paf.fo72_0) rfl rfl rfl fun x33_36 h43 => ?_
   refine MV.lift1 (i := 25) rfl (fun _ z => z) (V.ld hS h43 rfl Paf.one9) rfl rfl rfl [] (by kernel_rfl) fun x34_37 h44 => ?_
   refine MV.step0 (i := 26) rfl (VAL.move rfl) rfl rfl rfl ?_
   refine MV.lift0 (i := 27) rfl (V.nc h44 rfl) rfl rfl rfl fun x36_38 h45 => ?_
   refine MV.lift0 (i := 28) rfl (V.fa h45 rfl Paf.fo72_1) rfl rfl rfl fun x37_39 h46 => ?_
   refine MV.lift1 (i := 29) rfl (fun _ z => z) (V.ld hS h46 rfl Paf.one3) rfl rfl rfl [25] (by kernel_rfl) fun x38_40 h47 => ?_
   refine MV.lift1 (i := 30) rfl (fun _ z => z) (V.ix h47 rfl rfl Paf.st9) rfl rfl rfl [] (by kernel_rfl) fun x39_41 h48 => ?_
   refine MV.force (i := 31) rfl ?_
   refine LV.callQ hS h48 (g50_ok _ _ _ _ ) rfl rfl rfl rfl fun x40_42 h49 => ?_
   refine LV.nextM [] (by kernel_rfl) (fun z => absurd rfl z) ?_
   refine MV.step0 (i := 32) rfl (VAL.pure rfl) rfl rfl rfl ?_
   refine MV.step0 (i := 33) rfl (VAL.pure rfl) rfl rfl rfl ?_
   refine mdn ?_
   refine CV.cond h49 rfl (fun e h50 => ?_) (fun e h50 => ?_)
   ·
    clear h23 h42 h43 h44 h45 h46 h47 h48 h49
    subst e
    refine CV.skip ?_
    refine PV.thenN ?_
    refine CV.block ?_
    refine CV.seq ?_
    refine CV.seq ?_
    refine CV.regionM [(0, .anywhere), (1, .anywhere), (2, .anywhere), (3, .held), (4, .anywhere), (5, .anywhere), (6, .anywhere), (7, .held), (8, .held), (9, .alone)] rfl (fun c a a' w hd hq => PanicOk.root (P := Tryd.prog) (fn := Tryd.f51) (w0 := w0) (base := base) (E := envE) (ro := ro) (r := r) (T' := T') (n' := n') (ρ0 := ρ0) c a a' w hd hq) (by kernel_rfl) ?_
    refine MV.step0 (i := 0) rfl (VAL.move rfl) rfl rfl rfl ?_
    refine MV.lift0 (i := 1) rfl (V.nc h50 rfl) rfl rfl rfl fun x44_43 h51 => ?_
    refine MV.lift0 (i := 2) rfl (V.fa h51 rfl Paf.fo72_0) rfl rfl rfl fun x45_44 h52 => ?_
    refine MV.lift1 (i := 3) rfl (fun _ z => z) (V.ld hS h52 rfl Paf.one9) rfl rfl rfl [] (by kernel_rfl) fun x46_45 h53 => ?_
    refine MV.step0 (i := 4) rfl (VAL.move rfl) rfl rfl rfl ?_
    refine MV.lift0 (i := 5) rfl (V.nc h53 rfl) rfl rfl rfl fun x48_46 h54 => ?_
    refine MV.lift0 (i := 6) rfl (V.fa h54 rfl Paf.fo72_1) rfl rfl rfl fun x49_47 h55 => ?_
    refine MV.lift1 (i := 7) rfl (fun _ z => z) (V.ld hS h55 rfl Paf.one3) rfl rfl rfl [3] (by kernel_rfl) fun x50_48 h56 => ?_
    refine MV.lift1 (i := 8) rfl (fun _ z => z) (V.ix h56 rfl rfl Paf.st9) rfl rfl rfl [] (by kernel_rfl) fun x51_49 h57 => ?_
    refine MV.force (i := 9) rfl ?_
    refine LV.call hS h57 (g48_ok _ _ _ _ ) hP rfl rfl rfl rfl fun x52_50 T5 n5 h58 ρ its hS => ?_
    refine LV.nextM [] (by kernel_rfl) (fun z => absurd rfl z) ?_
    refine mdn ?_
    refine CV.cond h58 rfl (fun e h59 => ?_) (fun e h59 => ?_)
    ·
     clear h50 h51 h52 h53 h54 h55 h56 h57 h58
     subst e
     refine sr ?_
     refine mv ?_
     refine LV.call hS h59 (g32_ok _ _ _ _ ) hP rfl rfl rfl rfl fun x54_51 T6 n6 h60 ρ its hS => ?_
     refine as_ ?_
     refine dn ?_
     refine CV.ret ?_
     refine PV.thenR ?_
     refine PV.blockR ?_
     refine PV.thenR ?_
     refine PV.blockR ?_
     refine PV.thenR ?_
     cases h60
     exact PV.ret (by simp) Tryd.results51 hS (RS.tmp rfl RS.nil) rfl
    ·
     clear h50 h51 h52 h53 h54 h55 h56 h57 h58
     subst e
     refine CV.skip ?_
     refine PV.thenN ?_
     refine CV.region ?_
     refine mv ?_
     refine vy (V.nc h59 rfl) fun x56_52 h61 => ?_
     refine vy (V.fa h61 rfl Paf.fo72_1) fun x57_53 h62 => ?_
     refine vy (V.ld hS h62 rfl Paf.one3) fun x58_54 h63 => ?_
     refine vy (V.add h63 rfl rfl) fun x59_55 h64 => ?_
     refine vy (V.nc h64 rfl) fun x60_56 h65 => ?_
     refine vy (V.fa h65 rfl Paf.fo72_1) fun x61_57 h66 => ?_
     refine LV.st hS h66 rfl rfl rfl Paf.siz3 rfl rfl fun T7 its h67 hS => ?_
     refine LV.done ?_
     refine PV.blockN ?_
     exact pb3 hS h67 ⟨rfl, rfl, rfl, trivial⟩
   ·
    clear h23 h42 h43 h44 h45 h46 h47 h48 h49
    subst e
    refine CV.exit ?_
    refine PV.thenE ?_
    refine PV.thenE ?_
    refine PV.blockE ?_
    refine PV.thenN ?_
    refine CV.seq ?_
    refine CV.regionM [(0, .anywhere), (1, .anywhere), (2, .anywhere), (3, .held), (4, .anywhere), (5, .anywhere), (6, .anywhere), (7, .anywhere), (8, .held), (9, .held), (10, .held)] rfl (fun c a a' w hd hq => PanicOk.root (P := Tryd.prog) (fn := Tryd.f51) (w0 := w0) (base := base) (E := envE) (ro := ro) (r := r) (T' := T') (n' := n') (ρ0 := ρ0) c a a' w hd hq) (by kernel_rfl) ?_
    refine MV.step0 (i := 0) rfl (VAL.move rfl) rfl rfl rfl ?_
    refine MV.lift0 (i := 1) rfl (V.nc h50 rfl) rfl rfl rfl fun x63_58 h68 => ?_
    refine MV.lift0 (i := 2) rfl (V.fa h68 rfl Paf.fo72_0) rfl rfl rfl fun x64_59 h69 => ?_
    refine MV.lift1 (i := 3) rfl (fun _ z => z) (V.ld hS h69 rfl Paf.one9) rfl rfl rfl [] (by kernel_rfl) fun x65_60 h70 => ?_
    refine MV.step0 (i := 4) rfl (VAL.move rfl) rfl rfl rfl ?_
    refine MV.step0 (i := 5) rfl (VAL.move rfl) rfl rfl rfl ?_
    refine MV.lift0 (i := 6) rfl (V.nc h70 rfl) rfl rfl rfl fun x68_61 h71 => ?_
    refine MV.lift0 (i := 7) rfl (V.fa h71 rfl Paf.fo72_1) rfl rfl rfl fun x69_62 h72 => ?_
    refine MV.lift1 (i := 8) rfl (fun _ z => z) (V.ld hS h72 rfl Paf.one3) rfl rfl rfl [3] (by kernel_rfl) fun x70_63 h73 => ?_
    refine MV.lift1 (i := 9) rfl (fun _ z => z) (V.slBo h73 rfl rfl rfl Paf.st9) rfl rfl rfl [] (by kernel_rfl) fun x71_64 h74 => ?_
    refine MV.step1 (i := 10) rfl (fun _ z => z) (VAL.assign rfl) rfl rfl rfl [] (by kernel_rfl) ?_
    refine mdn ?_
    refine CV.seq ?_
    refine sr ?_
    refine mv ?_
    refine vy (V.lenT h74 rfl Paf.ls9) fun x73_65 h75 => ?_
    refine vy (V.gt h75 rfl rfl) fun x74_66 h76 => ?_
    refine mv ?_
    refine ls5 X 0 2 3 4 84 [] (g51_k2 ro) 9 ?_ ?_
    ·
     rcases condK_inv h76 with ⟨e, h81⟩ | ⟨e, h81⟩
     ·
      clear h50 h68 h69 h70 h71 h72 h73 h74 h75 h76
      subst e
      refine sk ?_
      refine sk ?_
      refine sk ?_
      refine sk ?_
      refine sk ?_
      refine sk ?_
      refine sk ?_
      refine sk ?_
      refine pu ?_
      exact la5 hS h81 ⟨rfl, rfl, rfl, rfl, rfl, trivial⟩
     ·
      clear h50 h68 h69 h70 h71 h72 h73 h74 h75 h76
      subst e
      refine mv ?_
      refine vy (V.ix h81 rfl rfl Paf.st9) fun x77_69 h82 => ?_
      refine vy (V.eq h82 rfl rfl) fun x78_70 h83 => ?_
      refine mv ?_
      refine ls5 X 0 2 3 4 83 [(75, (.lit (.bool false)))] (g51_k3 ro) 4 ?_ ?_
      ·
       rcases condK_inv h83 with ⟨e, h85⟩ | ⟨e, h85⟩
       ·
        clear h81 h82 h83
        subst e
        refine mv ?_
        refine vy (V.lenT h85 rfl Paf.ls9) fun x81_71 h86 => ?_
        refine vy (V.gt h86 rfl rfl) fun x82_72 h87 => ?_
        refine pu ?_
        exact la5 hS h87 ⟨rfl, rfl, rfl, rfl, rfl, rfl, trivial⟩
       ·
        clear h81 h82 h83
        subst e
        refine sk ?_
        refine sk ?_
        refine sk ?_
        refine pu ?_
        exact la5 hS h85 ⟨rfl, rfl, rfl, rfl, rfl, rfl, trivial⟩
      ·
       intro y0 y2 y3 y4 y83 T11 n11 ρ its hS h84
       unfold g51_k3 at h84
       clear h81 h82 h83
       refine pu ?_
       exact la5 hS h84 ⟨rfl, rfl, rfl, rfl, rfl, trivial⟩
    ·
     intro y0 y2 y3 y4 y84 T8 n8 ρ its hS h77
     unfold g51_k2 at h77
     clear h50 h68 h69 h70 h71 h72 h73 h74 h75 h76
     refine dn ?_
     refine CV.cond h77 rfl (fun e h78 => ?_) (fun e h78 => ?_)
     ·
      clear h77
      subst e
      refine sr ?_
      refine mv ?_
      refine LV.call hS h78 (g32_ok _ _ _ _ ) hP rfl rfl rfl rfl fun x86_67 T9 n9 h79 ρ its hS => ?_
      refine as_ ?_
      refine dn ?_
      refine CV.ret ?_
      refine PV.thenR ?_
      cases h79
      exact PV.ret (by simp) Tryd.results51 hS (RS.tmp rfl RS.nil) rfl
     ·
      clear h77
      subst e
      refine CV.skip ?_
      refine PV.thenN ?_
      refine sr ?_
      refine mv ?_
      refine mv ?_
      refine mv ?_
      refine LV.call hS h78 (g34_ok _ _ _ _ _ _ _ ) hP rfl rfl rfl rfl fun x90_68 T10 n10 h80 ρ its hS => ?_
      refine dn ?_
      refine sr ?_
      refine as_ ?_
      refine dn ?_
      refine CV.ret ?_
      cases h80
      exact PV.ret (by simp) Tryd.results51 hS (RS.tmp rfl RS.nil) rfl
 ·
  clear h5 h6 h7 h8 h9 h10 h11 h12 h13
  subst e
  refine MV.skip1 (i := 11) rfl (fun _ z => z) rfl rfl rfl [] (by kernel_rfl) ?_
  refine MV.skip1 (i := 12) rfl (fun _ z => z) rfl rfl rfl [] (by kernel_rfl) ?_
  refine MV.skip1 (i := 13) rfl (fun _ z => z) rfl rfl rfl [] (by kernel_rfl) ?_
  refine MV.skip1 (i := 14) rfl (fun _ z => z) rfl rfl rfl [] (by kernel_rfl) ?_
  refine MV.skip0 (i := 15) rfl rfl rfl rfl ?_
  refine MV.skip0 (i := 16) rfl rfl rfl rfl ?_
  refine MV.skip0 (i := 17) rfl rfl rfl rfl ?_
  refine MV.skip1 (i := 18) rfl (fun _ z => z) rfl rfl rfl [14] (by kernel_rfl) ?_
  refine MV.skip1 (i := 19) rfl (fun _ z => z) rfl rfl rfl [] (by kernel_rfl) ?_
  refine MV.force (i := 20) rfl ?_
  refine sk ?_
  refine LV.nextM [] (by kernel_rfl) (fun z => absurd rfl z) ?_
  refine MV.skip0 (i := 21) rfl rfl rfl rfl ?_
  refine MV.skip0 (i := 22) rfl rfl rfl rfl ?_
  refine MV.skip0 (i := 23) rfl rfl rfl rfl ?_
  refine MV.skip0 (i := 24) rfl rfl rfl rfl ?_
  refine MV.skip1 (i := 25) rfl (fun _ z => z) rfl rfl rfl [] (by kernel_rfl) ?_
  refine MV.skip0 (i := 26) rfl rfl rfl rfl ?_
  refine MV.skip0 (i := 27) rfl rfl rfl rfl ?_
  refine MV.skip0 (i := 28) rfl rfl rfl rfl ?_
  refine MV.skip1 (i := 29) rfl (fun _ z => z) rfl rfl rfl [25] (by kernel_rfl) ?_
  refine MV.skip1 (i := 30) rfl (fun _ z => z) rfl rfl rfl [] (by kernel_rfl) ?_
  refine MV.force (i := 31) rfl ?_
  refine sk ?_
  refine LV.nextM [] (by kernel_rfl) (fun z => absurd rfl z) ?_
  refine MV.skip0 (i := 32) rfl rfl rfl rfl ?_
  refine MV.step0 (i := 33) rfl (VAL.pure rfl) rfl rfl rfl ?_
  refine mdn ?_
  refine CV.cond h14 rfl (fun e h88 => ?_) (fun e h88 => ?_)
  ·
   clear h14
   cases e
  ·
   clear h14
   refine CV.exit ?_
   refine PV.thenE ?_
   refine PV.thenE ?_
   refine PV.blockE ?_
   refine PV.thenN ?_
   refine CV.seq ?_
   refine CV.regionM [(0, .anywhere), (1, .anywhere), (2, .anywhere), (3, .held), (4, .anywhere), (5, .anywhere), (6, .anywhere), (7, .anywhere), (8, .held), (9, .held), (10, .held)] rfl (fun c a a' w hd hq => PanicOk.root (P := Tryd.prog) (fn := Tryd.f51) (w0 := w0) (base := base) (E := envE) (ro := ro) (r := r) (T' := T') (n' := n') (ρ0 := ρ0) c a a' w hd hq) (by kernel_rfl) ?_
   refine MV.step0 (i := 0) rfl (VAL.move rfl) rfl rfl rfl ?_
   refine MV.lift0 (i := 1) rfl (V.nc h88 rfl) rfl rfl rfl fun x63_73 h89 => ?_
   refine MV.lift0 (i := 2) rfl (V.fa h89 rfl Paf.fo72_0) rfl rfl rfl fun x64_74 h90 => ?_
   refine MV.lift1 (i := 3) rfl (fun _ z => z) (V.ld hS h90 rfl Paf.one9) rfl rfl rfl [] (by kernel_rfl) fun x65_75 h91 => ?_
   refine MV.step0 (i := 4) rfl (VAL.move rfl) rfl rfl rfl ?_
   refine MV.step0 (i := 5) rfl (VAL.move rfl) rfl rfl rfl ?_
   refine MV.lift0 (i := 6) rfl (V.nc h91 rfl) rfl rfl rfl fun x68_76 h92 => ?_
   refine MV.lift0 (i := 7) rfl (V.fa h92 rfl Paf.fo72_1) rfl rfl rfl fun x69_77 h93 => ?_
   refine MV.lift1 (i := 8) rfl (fun _ z => z) (V.ld hS h93 rfl Paf.one3) rfl rfl rfl [3] (by kernel_rfl) fun x70_78 h94 => ?_
   refine MV.lift1 (i := 9) rfl (fun _ z => z) (V.slBo h94 rfl rfl rfl Paf.st9) rfl rfl rfl [] (by kernel_rfl) fun x71_79 h95 => ?_
   refine MV.step1 (i := 10) rfl (fun _ z => z) (VAL.assign rfl) rfl rfl rfl [] (by kernel_rfl) ?_
   refine mdn ?_
   refine CV.seq ?_
   refine sr ?_
   refine mv ?_
   refine vy (V.lenT h95 rfl Paf.ls9) fun x73_80 h96 => ?_
   refine vy (V.gt h96 rfl rfl) fun x74_81 h97 => ?_
   refine mv ?_
   refine ls5 X 0 2 3 4 84 [] (g51_k4 ro) 9 ?_ ?_
   ·
    rcases condK_inv h97 with ⟨e, h102⟩ | ⟨e, h102⟩
    ·
     clear h88 h89 h90 h91 h92 h93 h94 h95 h96 h97
     subst e
     refine sk ?_
     refine sk ?_
     refine sk ?_
     refine sk ?_
     refine sk ?_
     refine sk ?_
     refine sk ?_
     refine sk ?_
     refine pu ?_
     exact la5 hS h102 ⟨rfl, rfl, rfl, rfl, rfl, trivial⟩
    ·
     clear h88 h89 h90 h91 h92 h93 h94 h95 h96 h97
     subst e
     refine mv ?_
     refine vy (V.ix h102 rfl rfl Paf.st9) fun x77_84 h103 => ?_
     refine vy (V.eq h103 rfl rfl) fun x78_85 h104 => ?_
     refine mv ?_
     refine ls5 X 0 2 3 4 83 [(75, (.lit (.bool false)))] (g51_k5 ro) 4 ?_ ?_
     ·
      rcases condK_inv h104 with ⟨e, h106⟩ | ⟨e, h106⟩
      ·
       clear h102 h103 h104
       subst e
       refine mv ?_
       refine vy (V.lenT h106 rfl Paf.ls9) fun x81_86 h107 => ?_
       refine vy (V.gt h107 rfl rfl) fun x82_87 h108 => ?_
       refine pu ?_
       exact la5 hS h108 ⟨rfl, rfl, rfl, rfl, rfl, rfl, trivial⟩
      ·
       clear h102 h103 h104
       subst e
       refine sk ?_
       refine sk ?_
       refine sk ?_
       refine pu ?_
       exact la5 hS h106 ⟨rfl, rfl, rfl, rfl, rfl, rfl, trivial⟩
     ·
      intro y0 y2 y3 y4 y83 T15 n15 ρ its hS h105
      unfold g51_k5 at h105
      clear h102 h103 h104
      refine pu ?_
      exact la5 hS h105 ⟨rfl, rfl, rfl, rfl, rfl, trivial⟩
   ·
    intro y0 y2 y3 y4 y84 T12 n12 ρ its hS h98
    unfold g51_k4 at h98
    clear h88 h89 h90 h91 h92 h93 h94 h95 h96 h97
    refine dn ?_
    refine CV.cond h98 rfl (fun e h99 => ?_) (fun e h99 => ?_)
    ·
     clear h98
     subst e
     refine sr ?_
     refine mv ?_
     refine LV.call hS h99 (g32_ok _ _ _ _ ) hP rfl rfl rfl rfl fun x86_82 T13 n13 h100 ρ its hS => ?_
     refine as_ ?_
     refine dn ?_
     refine CV.ret ?_
     refine PV.thenR ?_
     cases h100
     exact PV.ret (by simp) Tryd.results51 hS (RS.tmp rfl RS.nil) rfl
    ·
     clear h98
     subst e
     refine CV.skip ?_
     refine PV.thenN ?_
     refine sr ?_
     refine mv ?_
     refine mv ?_
     refine mv ?_
     refine LV.call hS h99 (g34_ok _ _ _ _ _ _ _ ) hP rfl rfl rfl rfl fun x90_83 T14 n14 h101 ρ its hS => ?_
     refine dn ?_
     refine sr ?_
     refine as_ ?_
     refine dn ?_
     refine CV.ret ?_
     cases h101
     exact PV.ret (by simp) Tryd.results51 hS (RS.tmp rfl RS.nil) rfl
noncomputable def g69_k3 (ro : List HT) (lp1 : AV → AV → AV → AV → HT → Nat → R) (y0 y1 y4 y5 : AV) (T3 : HT) (n3 : Nat) : R :=
 addK Tryd.prog 3 (.tmp 27) (.const (.int .i64 (.ofNat 1))) 690019 y5 (.lit (.int .i64 (.ofNat 1))) fun x28_10 =>
 lp1 y0 y1 y4 x28_10 T3 n3
noncomputable def g69_k4 (ro : List HT) (lp1 : AV → AV → AV → AV → HT → Nat → R) (y0 y1 y4 y5 y59 : AV) (T4 : HT) (n4 : Nat) : R :=
 condK 690048 y59
 (
  .ok (.val (.lit (.int .i64 (.negSucc 0)))) T4 n4
 )
 (
  g69_k3 ro lp1 y0 y1 y4 y5 T4 n4
 )
noncomputable def g69_k2 (ro : List HT) (lp1 : AV → AV → AV → AV → HT → Nat → R) (y0 y1 y4 y5 y26 : AV) (T2 : HT) (n2 : Nat) : R :=
 condK 690017 y26
 (
  ncK 690022 y0 fun x30_11 =>
  faK 690023 x30_11 0 fun x31_12 =>
  ldK 690024 T2 ro x31_12 fun x32_13 =>
  ixK 690026 x32_13 y5 fun x34_14 =>
  eqK Tryd.prog 5 (.tmp 34) (.tmp 36) 690028 x34_14 y1 fun x37_15 =>
  condK 690030 x37_15
  (
   addK Tryd.prog 3 (.tmp 38) (.const (.int .i64 (.ofNat 1))) 690032 y5 (.lit (.int .i64 (.ofNat 1))) fun x39_16 =>
   .ok (.val x39_16) T2 n2
  )
  (
   eqK Tryd.prog 5 (.tmp 34) (.const (.int .u8 (.ofNat 92))) 690034 x34_14 (.lit (.int .u8 (.ofNat 92))) fun x41_17 =>
   condK 690036 x41_17
   (
    addK Tryd.prog 3 (.tmp 42) (.const (.int .i64 (.ofNat 1))) 690038 y5 (.lit (.int .i64 (.ofNat 1))) fun x43_18 =>
    ncK 690042 y0 fun x46_19 =>
    faK 690043 x46_19 0 fun x47_20 =>
    ldK 690044 T2 ro x47_20 fun x48_21 =>
    lenTK 690045 x48_21 fun x49_22 =>
    ltK Tryd.prog 3 (.tmp 44) (.tmp 49) 690046 x43_18 x49_22 fun x50_23 =>
    condK 690050 x50_23
    (
     ncK 690052 y0 fun x53_24 =>
     faK 690053 x53_24 0 fun x54_25 =>
     ldK 690054 T2 ro x54_25 fun x55_26 =>
     ixK 690056 x55_26 x43_18 fun x57_27 =>
     eqK Tryd.prog 5 (.tmp 57) (.const (.int .u8 (.ofNat 10))) 690057 x57_27 (.lit (.int .u8 (.ofNat 10))) fun x58_28 =>
     g69_k4 ro lp1 y0 y1 y4 x43_18 x58_28 T2 n2
    )
    (
     g69_k4 ro lp1 y0 y1 y4 x43_18 (.lit (.bool false)) T2 n2
    )
   )
   (
    g69_k3 ro lp1 y0 y1 y4 y5 T2 n2
   )
  )
 )
 (
  .ok (.val (.lit (.int .i64 (.negSucc 0)))) T2 n2
 )
noncomputable def g69_b1 (ro : List HT) (lp1 : AV → AV → AV → AV → HT → Nat → R) (y0 y1 y4 y5 : AV) (T1 : HT) (n1 : Nat) : R :=
 ncK 690011 y0 fun x13_5 =>
 faK 690012 x13_5 0 fun x14_6 =>
 ldK 690013 T1 ro x14_6 fun x15_7 =>
 lenTK 690014 x15_7 fun x16_8 =>
 ltK Tryd.prog 3 (.tmp 11) (.tmp 16) 690015 y5 x16_8 fun x17_9 =>
 condK 690061 x17_9
 (
  ncK 690063 y0 fun x20_29 =>
  faK 690064 x20_29 0 fun x21_30 =>
  ldK 690065 T1 ro x21_30 fun x22_31 =>
  ixK 690067 x22_31 y5 fun x24_32 =>
  neK Tryd.prog 5 (.tmp 24) (.const (.int .u8 (.ofNat 10))) 690068 x24_32 (.lit (.int .u8 (.ofNat 10))) fun x25_33 =>
  g69_k2 ro lp1 y0 y1 y4 y5 x25_33 T1 n1
 )
 (
  g69_k2 ro lp1 y0 y1 y4 y5 (.lit (.bool false)) T1 n1
 )
noncomputable def g69 (ro : List HT) (a0 a1 : AV) (T : HT) (nx : Nat) : R :=
 ncK 690003 a0 fun x7_1 =>
 faK 690004 x7_1 1 fun x8_2 =>
 ldK 690005 T ro x8_2 fun x9_3 =>
 addK Tryd.prog 3 (.tmp 9) (.const (.int .i64 (.ofNat 1))) 690006 x9_3 (.lit (.int .i64 (.ofNat 1))) fun x10_4 =>
 lpf4 690008 (g69_b1 ro) 100000 a0 a1 (.lit (.int .i64 (.ofNat 0))) x10_4 T nx
theorem g69_ok (ro : List HT) (a0 a1 : AV) (T : HT) (nx : Nat) : GOk Tryd.prog envE 69 [a0, a1] ro T nx (g69 ro a0 a1 T nx) := by
 refine GOk.of_body Tryd.func69 rfl Tryd.ntmps69 (by kernel_rfl) rfl fun r T' n' h1 w0 base ρ0 its hS hP => ?_
 have X : CtxW envE ρ0 ro r T' n' := trivial
 unfold g69 at h1
 refine sr ?_
 refine as_ ?_
 refine dn ?_
 refine CV.seq ?_
 refine sr ?_
 refine mv ?_
 refine vy (V.nc h1 rfl) fun x7_1 h2 => ?_
 refine vy (V.fa h2 rfl Paf.fo72_1) fun x8_2 h3 => ?_
 refine vy (V.ld hS h3 rfl Paf.one3) fun x9_3 h4 => ?_
 refine vy (V.add h4 rfl rfl) fun x10_4 h5 => ?_
 refine as_ ?_
 refine dn ?_
 refine CV.block ?_
 refine cl4 X 0 1 4 5 [] hS h5 ⟨rfl, rfl, rfl, rfl, trivial⟩ ?_
 intro f1 y0 y1 y4 y5 T1 n1 ρ its hS h6
 unfold g69_b1 at h6
 clear h1 h2 h3 h4 h5
 refine CV.seq ?_
 refine sr ?_
 refine mv ?_
 refine mv ?_
 refine vy (V.nc h6 rfl) fun x13_5 h7 => ?_
 refine vy (V.fa h7 rfl Paf.fo72_0) fun x14_6 h8 => ?_
 refine vy (V.ld hS h8 rfl Paf.one9) fun x15_7 h9 => ?_
 refine vy (V.lenT h9 rfl Paf.ls9) fun x16_8 h10 => ?_
 refine vy (V.lt h10 rfl rfl) fun x17_9 h11 => ?_
 refine mv ?_
 refine ls5 X 0 1 4 5 26 [] (g69_k2 ro (lpf4 690008 (g69_b1 ro) f1)) 8 ?_ ?_
 ·
  rcases condK_inv h11 with ⟨e, h39⟩ | ⟨e, h39⟩
  ·
   clear h6 h7 h8 h9 h10 h11
   subst e
   refine mv ?_
   refine vy (V.nc h39 rfl) fun x20_29 h40 => ?_
   refine vy (V.fa h40 rfl Paf.fo72_0) fun x21_30 h41 => ?_
   refine vy (V.ld hS h41 rfl Paf.one9) fun x22_31 h42 => ?_
   refine mv ?_
   refine vy (V.ix h42 rfl rfl Paf.st9) fun x24_32 h43 => ?_
   refine vy (V.ne h43 rfl rfl) fun x25_33 h44 => ?_
   refine pu ?_
   exact la5 hS h44 ⟨rfl, rfl, rfl, rfl, rfl, trivial⟩
  ·
   clear h6 h7 h8 h9 h10 h11
   subst e
   refine sk ?_
   refine sk ?_
   refine sk ?_
   refine sk ?_
   refine sk ?_
   refine sk ?_
   refine sk ?_
   refine pu ?_
   exact la5 hS h39 ⟨rfl, rfl, rfl, rfl, rfl, trivial⟩
 ·
  intro y0 y1 y4 y5 y26 T2 n2 ρ its hS h12
  unfold g69_k2 at h12
  clear h6 h7 h8 h9 h10 h11
  refine dn ?_
  refine CV.cond h12 rfl (fun e h13 => ?_) (fun e h13 => ?_)
  ·
   clear h12
   subst e
   refine CV.skip ?_
   refine PV.thenN ?_
   refine cs4 X 0 1 4 5 [] (g69_k3 ro (lpf4 690008 (g69_b1 ro) f1)) ?_ ?_
   ·
    refine CV.block ?_
    refine sr ?_
    refine mv ?_
    refine vy (V.nc h13 rfl) fun x30_11 h16 => ?_
    refine vy (V.fa h16 rfl Paf.fo72_0) fun x31_12 h17 => ?_
    refine vy (V.ld hS h17 rfl Paf.one9) fun x32_13 h18 => ?_
    refine mv ?_
    refine vy (V.ix h18 rfl rfl Paf.st9) fun x34_14 h19 => ?_
    refine dn ?_
    refine CV.block ?_
    refine sr ?_
    refine mv ?_
    refine vy (V.eq h19 rfl rfl) fun x37_15 h20 => ?_
    refine as_ ?_
    refine dn ?_
    refine CV.cond h20 rfl (fun e h21 => ?_) (fun e h21 => ?_)
    ·
     clear h13 h16 h17 h18 h19 h20
     subst e
     refine sr ?_
     refine mv ?_
     refine vy (V.add h21 rfl rfl) fun x39_16 h22 => ?_
     refine as_ ?_
     refine dn ?_
     refine CV.ret ?_
     refine PV.blockR ?_
     refine PV.blockR ?_
     refine PV.thenR ?_
     refine PV.thenR ?_
     refine PV.blockR ?_
     refine PV.thenR ?_
     cases h22
     exact PV.ret (by simp) Tryd.results69 hS (RS.tmp rfl RS.nil) rfl
    ·
     clear h13 h16 h17 h18 h19 h20
     subst e
     refine sr ?_
     refine vy (V.eq h21 rfl rfl) fun x41_17 h23 => ?_
     refine as_ ?_
     refine dn ?_
     refine CV.cond h23 rfl (fun e h24 => ?_) (fun e h24 => ?_)
     ·
      clear h21 h23
      subst e
      refine sr ?_
      refine mv ?_
      refine vy (V.add h24 rfl rfl) fun x43_18 h25 => ?_
      refine as_ ?_
      refine dn ?_
      refine sr ?_
      refine mv ?_
      refine mv ?_
      refine vy (V.nc h25 rfl) fun x46_19 h26 => ?_
      refine vy (V.fa h26 rfl Paf.fo72_0) fun x47_20 h27 => ?_
      refine vy (V.ld hS h27 rfl Paf.one9) fun x48_21 h28 => ?_
      refine vy (V.lenT h28 rfl Paf.ls9) fun x49_22 h29 => ?_
      refine vy (V.lt h29 rfl rfl) fun x50_23 h30 => ?_
      refine mv ?_
      refine ls5 X 0 1 4 5 59 [] (g69_k4 ro (lpf4 690008 (g69_b1 ro) f1)) 8 ?_ ?_
      ·
       rcases condK_inv h30 with ⟨e, h33⟩ | ⟨e, h33⟩
       ·
        clear h24 h25 h26 h27 h28 h29 h30
        subst e
        refine mv ?_
        refine vy (V.nc h33 rfl) fun x53_24 h34 => ?_
        refine vy (V.fa h34 rfl Paf.fo72_0) fun x54_25 h35 => ?_
        refine vy (V.ld hS h35 rfl Paf.one9) fun x55_26 h36 => ?_
        refine mv ?_
        refine vy (V.ix h36 rfl rfl Paf.st9) fun x57_27 h37 => ?_
        refine vy (V.eq h37 rfl rfl) fun x58_28 h38 => ?_
        refine pu ?_
        exact la5 hS h38 ⟨rfl, rfl, rfl, rfl, rfl, trivial⟩
       ·
        clear h24 h25 h26 h27 h28 h29 h30
        subst e
        refine sk ?_
        refine sk ?_
        refine sk ?_
        refine sk ?_
        refine sk ?_
        refine sk ?_
        refine sk ?_
        refine pu ?_
        exact la5 hS h33 ⟨rfl, rfl, rfl, rfl, rfl, trivial⟩
      ·
       intro y0 y1 y4 y5 y59 T4 n4 ρ its hS h31
       unfold g69_k4 at h31
       clear h24 h25 h26 h27 h28 h29 h30
       refine dn ?_
       refine CV.cond h31 rfl (fun e h32 => ?_) (fun e h32 => ?_)
       ·
        clear h31
        subst e
        refine sr ?_
        refine as_ ?_
        refine dn ?_
        refine CV.ret ?_
        refine PV.blockR ?_
        refine PV.blockR ?_
        refine PV.thenR ?_
        refine PV.thenR ?_
        refine PV.blockR ?_
        refine PV.thenR ?_
        cases h32
        exact PV.ret (by simp) Tryd.results69 hS (RS.tmp rfl RS.nil) rfl
       ·
        clear h31
        subst e
        refine CV.skip ?_
        refine PV.blockN ?_
        refine PV.blockN ?_
        exact pa4 hS h32 ⟨rfl, rfl, rfl, rfl, trivial⟩
     ·
      clear h21 h23
      subst e
      refine CV.skip ?_
      refine PV.blockN ?_
      refine PV.blockN ?_
      exact pa4 hS h24 ⟨rfl, rfl, rfl, rfl, trivial⟩
   ·
    intro y0 y1 y4 y5 T3 n3 ρ its hS h14
    unfold g69_k3 at h14
    clear h13
    refine CV.region ?_
    refine mv ?_
    refine vy (V.add h14 rfl rfl) fun x28_10 h15 => ?_
    refine as_ ?_
    refine LV.done ?_
    exact pb4 hS h15 ⟨rfl, rfl, rfl, rfl, trivial⟩
  ·
   clear h12
   subst e
   refine CV.exit ?_
   refine PV.thenE ?_
   refine PV.thenE ?_
   refine PV.blockE ?_
   refine PV.thenN ?_
   refine sr ?_
   refine as_ ?_
   refine dn ?_
   refine CV.ret ?_
   cases h13
   exact PV.ret (by simp) Tryd.results69 hS (RS.tmp rfl RS.nil) rfl
noncomputable def g82 (ro : List HT) (a0 a1 : AV) (T : HT) (nx : Nat) : R :=
 ibsK 820004 a0 a1 fun x7_1 =>
 .ok (.val x7_1) T nx
theorem g82_ok (ro : List HT) (a0 a1 : AV) (T : HT) (nx : Nat) : GOk Tryd.prog envE 82 [a0, a1] ro T nx (g82 ro a0 a1 T nx) := by
 refine GOk.of_body Tryd.func82 rfl Tryd.ntmps82 (by kernel_rfl) rfl fun r T' n' h1 w0 base ρ0 its hS hP => ?_
 have X : CtxW envE ρ0 ro r T' n' := trivial
 unfold g82 at h1
 refine sr ?_
 refine as_ ?_
 refine dn ?_
 refine sr ?_
 refine mv ?_
 refine mv ?_
 refine vy (Paf.ibf87 h1 rfl rfl) fun x7_1 h2 => ?_
 refine as_ ?_
 refine dn ?_
 refine CV.ret ?_
 cases h2
 exact PV.ret (by simp) Tryd.results82 hS (RS.tmp rfl RS.nil) rfl
noncomputable def g72 (ro : List HT) (a0 a1 : AV) (T : HT) (nx : Nat) : R :=
 callK (g82 ro a0 a1 T nx) fun x7_1 T1 n1 =>
 .ok (.val x7_1) T1 n1
theorem g72_ok (ro : List HT) (a0 a1 : AV) (T : HT) (nx : Nat) : GOk Tryd.prog envE 72 [a0, a1] ro T nx (g72 ro a0 a1 T nx) := by
 refine GOk.of_body Tryd.func72 rfl Tryd.ntmps72 (by kernel_rfl) rfl fun r T' n' h1 w0 base ρ0 its hS hP => ?_
 have X : CtxW envE ρ0 ro r T' n' := trivial
 unfold g72 at h1
 refine sr ?_
 refine as_ ?_
 refine dn ?_
 refine sr ?_
 refine mv ?_
 refine mv ?_
 refine LV.call hS h1 (g82_ok _ _ _ _ _ ) hP rfl rfl rfl rfl fun x7_1 T1 n1 h2 ρ its hS => ?_
 refine as_ ?_
 refine dn ?_
 refine CV.ret ?_
 cases h2
 exact PV.ret (by simp) Tryd.results72 hS (RS.tmp rfl RS.nil) rfl

end Go.Proofs.YtdepmlcnllofiaaDoor.Pa
