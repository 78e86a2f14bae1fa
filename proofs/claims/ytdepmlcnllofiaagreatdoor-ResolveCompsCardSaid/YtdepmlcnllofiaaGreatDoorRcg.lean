/-
  Proved here: plain functions that do what the program's functions do, each with its proof.
-/
import Derived.Test.YtdepmlcnllofiaaGreatDoorRce
namespace Go.Proofs.YtdepmlcnllofiaaGreatDoor.Rc
open Go.EY Go.EX Go.SX Go.RowKit
noncomputable def g197_k3 (ro : List HT) (lp1 : AV → AV → AV → AV → AV → AV → AV → HT → Nat → R) (lp2 : AV → AV → AV → AV → AV → AV → AV → HT → Nat → R) (y0 y1 y2 y3 y8 y9 y10 y36 : AV) (T3 : HT) (n3 : Nat) : R :=
 condK 1970011 y36
 (
  addK Tryz.prog 3 (.tmp 37) (.const (.int .i64 (.ofNat 1))) 1970013 y9 (.lit (.int .i64 (.ofNat 1))) fun x38_3 =>
  lp2 y0 y1 y2 y3 y8 x38_3 y10 T3 n3
 )
 (
  eqK Tryz.prog 3 (.tmp 39) (.tmp 40) 1970017 y9 y2 fun x41_4 =>
  condK 1970018 x41_4
  (
   .ok (.val (.lit (.bool true))) T3 n3
  )
  (
   subK Tryz.prog 3 (.tmp 42) (.tmp 43) 1970022 y2 y1 fun x44_5 =>
   ltK Tryz.prog 3 (.tmp 44) (.const (.int .i64 (.ofNat 50))) 1970023 x44_5 (.lit (.int .i64 (.ofNat 50))) fun x45_6 =>
   condK 1970024 x45_6
   (
    .ok (.val (.lit (.bool false))) T3 n3
   )
   (
    subK Tryz.prog 3 (.tmp 49) (.const (.int .i64 (.ofNat 1))) 1970030 y9 (.lit (.int .i64 (.ofNat 1))) fun x50_7 =>
    subK Tryz.prog 3 (.tmp 52) (.const (.int .i64 (.ofNat 1))) 1970033 y9 (.lit (.int .i64 (.ofNat 1))) fun x53_8 =>
    iaK 1970034 y0 x53_8 2 fun x54_9 =>
    ldAK 1970035 T3 ro x54_9 2 fun x55_10 =>
    iaK 1970038 y0 y9 2 fun x58_11 =>
    ldAK 1970039 T3 ro x58_11 2 fun x59_12 =>
    iaK 1970040 y0 y9 2 fun x60_13 =>
    stAK 1970041 T3 x60_13 x55_10 2 fun T4 =>
    iaK 1970042 y0 x50_7 2 fun x61_14 =>
    stAK 1970043 T4 x61_14 x59_12 2 fun T5 =>
    subK Tryz.prog 3 (.tmp 62) (.tmp 63) 1970046 y9 y1 fun x64_15 =>
    geK Tryz.prog 3 (.tmp 64) (.const (.int .i64 (.ofNat 2))) 1970047 x64_15 (.lit (.int .i64 (.ofNat 2))) fun x65_16 =>
    condK 1970048 x65_16
    (
     .bad 1970049
    )
    (
     subK Tryz.prog 3 (.tmp 101) (.tmp 102) 1970052 y2 y9 fun x103_17 =>
     geK Tryz.prog 3 (.tmp 103) (.const (.int .i64 (.ofNat 2))) 1970053 x103_17 (.lit (.int .i64 (.ofNat 2))) fun x104_18 =>
     condK 1970054 x104_18
     (
      .bad 1970055
     )
     (
      addK Tryz.prog 3 (.tmp 17) (.const (.int .i64 (.ofNat 1))) 1970057 y10 (.lit (.int .i64 (.ofNat 1))) fun x18_19 =>
      lp1 y0 y1 y2 y3 y8 y9 x18_19 T5 n3
     )
    )
   )
  )
 )
noncomputable def g197_b2 (ro : List HT) (lp1 : AV → AV → AV → AV → AV → AV → AV → HT → Nat → R) (lp2 : AV → AV → AV → AV → AV → AV → AV → HT → Nat → R) (y0 y1 y2 y3 y8 y9 y10 : AV) (T2 : HT) (n2 : Nat) : R :=
 ltK Tryz.prog 3 (.tmp 19) (.tmp 20) 1970061 y9 y2 fun x21_20 =>
 condK 1970063 x21_20
 (
  iaK 1970067 y0 y9 2 fun x26_21 =>
  ldAK 1970068 T2 ro x26_21 2 fun x27_22 =>
  subK Tryz.prog 3 (.tmp 29) (.const (.int .i64 (.ofNat 1))) 1970071 y9 (.lit (.int .i64 (.ofNat 1))) fun x30_23 =>
  iaK 1970072 y0 x30_23 2 fun x31_24 =>
  ldAK 1970073 T2 ro x31_24 2 fun x32_25 =>
  dynK 1970074 y3 fun f p q => callK (scc2 4000 f ro (p ++ ([x27_22, x32_25] ++ q)) T2 n2) fun x33_26 T6 n6 =>
  ltK Tryz.prog 3 (.tmp 33) (.const (.int .i64 (.ofNat 0))) 1970075 x33_26 (.lit (.int .i64 (.ofNat 0))) fun x34_27 =>
  notK 1970076 x34_27 fun x35_28 =>
  g197_k3 ro lp1 lp2 y0 y1 y2 y3 y8 y9 y10 x35_28 T6 n6
 )
 (
  g197_k3 ro lp1 lp2 y0 y1 y2 y3 y8 y9 y10 (.lit (.bool false)) T2 n2
 )
noncomputable def g197_b1 (ro : List HT) (lp1 : AV → AV → AV → AV → AV → AV → AV → HT → Nat → R) (y0 y1 y2 y3 y8 y9 y10 : AV) (T1 : HT) (n1 : Nat) : R :=
 ltK Tryz.prog 3 (.tmp 15) (.const (.int .i64 (.ofNat 5))) 1970008 y10 (.lit (.int .i64 (.ofNat 5))) fun x16_2 =>
 condK 1970009 x16_2
 (
  lpf7 1970010 (g197_b2 ro lp1) 100000 y0 y1 y2 y3 y8 y9 y10 T1 n1
 )
 (
  .ok (.val (.lit (.bool false))) T1 n1
 )
noncomputable def g197 (ro : List HT) (a0 a1 a2 a3 : AV) (T : HT) (nx : Nat) : R :=
 addK Tryz.prog 3 (.tmp 13) (.const (.int .i64 (.ofNat 1))) 1970003 a1 (.lit (.int .i64 (.ofNat 1))) fun x14_1 =>
 lpf7 1970006 (g197_b1 ro) 100000 a0 a1 a2 a3 (.lit (.bool false)) x14_1 (.lit (.int .i64 (.ofNat 0))) T nx
theorem g197_ok (ro : List HT) (a0 a1 a2 a3 : AV) (T : HT) (nx : Nat) : GOk Tryz.prog envE 197 [a0, a1, a2, a3] ro T nx (g197 ro a0 a1 a2 a3 T nx) := by
 refine GOk.of_body Tryz.func197 rfl Tryz.ntmps197 (by kernel_rfl) rfl fun r T' n' h1 w0 base ρ0 its hS hP => ?_
 have X : CtxW envE ρ0 ro r T' n' := trivial
 unfold g197 at h1
 refine sr ?_
 refine as_ ?_
 refine dn ?_
 refine sr ?_
 refine mv ?_
 refine vy (V.add h1 rfl rfl) fun x14_1 h2 => ?_
 refine as_ ?_
 refine dn ?_
 refine CV.seq ?_
 refine sr ?_
 refine as_ ?_
 refine dn ?_
 refine CV.block ?_
 refine cl7 X 0 1 2 3 8 9 10 [] hS h2 ⟨rfl, rfl, rfl, rfl, rfl, rfl, rfl, trivial⟩ ?_
 intro f1 y0 y1 y2 y3 y8 y9 y10 T1 n1 ρ its hS h3
 unfold g197_b1 at h3
 clear h1 h2
 refine CV.seq ?_
 refine sr ?_
 refine mv ?_
 refine vy (V.lt h3 rfl rfl) fun x16_2 h4 => ?_
 refine dn ?_
 refine CV.cond h4 rfl (fun e h5 => ?_) (fun e h5 => ?_)
 ·
  clear h3 h4
  subst e
  refine CV.skip ?_
  refine PV.thenN ?_
  refine CV.seq ?_
  refine CV.block ?_
  refine CV.seq ?_
  refine CV.block ?_
  refine cl7 X 0 1 2 3 8 9 10 [] hS h5 ⟨rfl, rfl, rfl, rfl, rfl, rfl, rfl, trivial⟩ ?_
  intro f2 y0 y1 y2 y3 y8 y9 y10 T2 n2 ρ its hS h6
  unfold g197_b2 at h6
  clear h5
  refine CV.seq ?_
  refine cs8 X 0 1 2 3 8 9 10 36 [] (g197_k3 ro (lpf7 1970006 (g197_b1 ro) f1) (lpf7 1970010 (g197_b2 ro (lpf7 1970006 (g197_b1 ro) f1)) f2)) ?_ ?_
  ·
   refine CV.regionM [(0, .anywhere), (1, .anywhere), (2, .anywhere), (3, .anywhere), (4, .anywhere), (5, .anywhere), (6, .anywhere), (7, .anywhere), (8, .held), (9, .anywhere), (10, .anywhere), (11, .anywhere), (12, .anywhere), (13, .held), (14, .alone), (15, .alone), (16, .alone), (17, .alone)] rfl (fun c a a' w hd hq => PanicOk.root (P := Tryz.prog) (fn := Tryz.f197) (w0 := w0) (base := base) (E := envE) (ro := ro) (r := r) (T' := T') (n' := n') (ρ0 := ρ0) c a a' w hd hq) (by kernel_rfl) ?_
   refine MV.step0 (i := 0) rfl (VAL.move rfl) rfl rfl rfl ?_
   refine MV.step0 (i := 1) rfl (VAL.move rfl) rfl rfl rfl ?_
   refine MV.lift0 (i := 2) rfl (V.lt h6 rfl rfl) rfl rfl rfl fun x21_20 h32 => ?_
   refine MV.step0 (i := 3) rfl (VAL.move rfl) rfl rfl rfl ?_
   rcases condK_inv h32 with ⟨e, h33⟩ | ⟨e, h33⟩
   ·
    clear h6 h32
    subst e
    refine MV.step0 (i := 4) rfl (VAL.move rfl) rfl rfl rfl ?_
    refine MV.step0 (i := 5) rfl (VAL.move rfl) rfl rfl rfl ?_
    refine MV.step0 (i := 6) rfl (VAL.move rfl) rfl rfl rfl ?_
    refine MV.lift0 (i := 7) rfl (V.ia h33 rfl rfl Rcf.el150) rfl rfl rfl fun x26_21 h34 => ?_
    refine MV.lift1 (i := 8) rfl (fun _ z => z) (V.ldA hS h34 rfl Rcf.agg155) rfl rfl rfl [] (by kernel_rfl) fun x27_22 h35 => ?_
    refine MV.step0 (i := 9) rfl (VAL.move rfl) rfl rfl rfl ?_
    refine MV.step0 (i := 10) rfl (VAL.move rfl) rfl rfl rfl ?_
    refine MV.lift0 (i := 11) rfl (V.sub h35 rfl rfl) rfl rfl rfl fun x30_23 h36 => ?_
    refine MV.lift0 (i := 12) rfl (V.ia h36 rfl rfl Rcf.el150) rfl rfl rfl fun x31_24 h37 => ?_
    refine MV.lift1 (i := 13) rfl (fun _ z => z) (V.ldA hS h37 rfl Rcf.agg155) rfl rfl rfl [8] (by kernel_rfl) fun x32_25 h38 => ?_
    refine MV.force (i := 14) rfl ?_
    refine LV.callD (G := fun f gs => scc2 4000 f ro gs T2 n2) (qs := [x27_22, x32_25]) hS h38 (fun f gs => scc2_ok _ _ _ _ _ _) hP rfl rfl rfl rfl rfl rfl rfl fun x33_26 T6 n6 h39 ρ its hS => ?_
    refine LV.nextM [] (by kernel_rfl) (fun z => absurd rfl z) ?_
    refine MV.force (i := 15) rfl ?_
    refine vy (V.lt h39 rfl rfl) fun x34_27 h40 => ?_
    refine LV.nextM [] (by kernel_rfl) (fun z => absurd rfl z) ?_
    refine MV.force (i := 16) rfl ?_
    refine vy (V.not h40 rfl) fun x35_28 h41 => ?_
    refine LV.nextM [] (by kernel_rfl) (fun z => absurd rfl z) ?_
    refine MV.force (i := 17) rfl ?_
    refine pu ?_
    refine LV.nextM [] (by kernel_rfl) (fun z => absurd rfl z) ?_
    refine MV.done ?_
    exact pa8 hS h41 ⟨rfl, rfl, rfl, rfl, rfl, rfl, rfl, rfl, trivial⟩
   ·
    clear h6 h32
    subst e
    refine MV.skip0 (i := 4) rfl rfl rfl rfl ?_
    refine MV.skip0 (i := 5) rfl rfl rfl rfl ?_
    refine MV.skip0 (i := 6) rfl rfl rfl rfl ?_
    refine MV.skip0 (i := 7) rfl rfl rfl rfl ?_
    refine MV.skip1 (i := 8) rfl (fun _ z => z) rfl rfl rfl [] (by kernel_rfl) ?_
    refine MV.skip0 (i := 9) rfl rfl rfl rfl ?_
    refine MV.skip0 (i := 10) rfl rfl rfl rfl ?_
    refine MV.skip0 (i := 11) rfl rfl rfl rfl ?_
    refine MV.skip0 (i := 12) rfl rfl rfl rfl ?_
    refine MV.skip1 (i := 13) rfl (fun _ z => z) rfl rfl rfl [8] (by kernel_rfl) ?_
    refine MV.force (i := 14) rfl ?_
    refine sk ?_
    refine LV.nextM [] (by kernel_rfl) (fun z => absurd rfl z) ?_
    refine MV.force (i := 15) rfl ?_
    refine sk ?_
    refine LV.nextM [] (by kernel_rfl) (fun z => absurd rfl z) ?_
    refine MV.force (i := 16) rfl ?_
    refine sk ?_
    refine LV.nextM [] (by kernel_rfl) (fun z => absurd rfl z) ?_
    refine MV.force (i := 17) rfl ?_
    refine pu ?_
    refine LV.nextM [] (by kernel_rfl) (fun z => absurd rfl z) ?_
    refine MV.done ?_
    exact pa8 hS h33 ⟨rfl, rfl, rfl, rfl, rfl, rfl, rfl, rfl, trivial⟩
  ·
   intro y0 y1 y2 y3 y8 y9 y10 y36 T3 n3 ρ its hS h7
   unfold g197_k3 at h7
   clear h6
   refine CV.cond h7 rfl (fun e h8 => ?_) (fun e h8 => ?_)
   ·
    clear h7
    subst e
    refine CV.skip ?_
    refine PV.thenN ?_
    refine CV.block ?_
    refine CV.region ?_
    refine mv ?_
    refine vy (V.add h8 rfl rfl) fun x38_3 h9 => ?_
    refine as_ ?_
    refine LV.done ?_
    refine PV.blockN ?_
    exact pb7 hS h9 ⟨rfl, rfl, rfl, rfl, rfl, rfl, rfl, trivial⟩
   ·
    clear h7
    subst e
    refine CV.exit ?_
    refine PV.thenE ?_
    refine PV.thenE ?_
    refine PV.blockE ?_
    refine PV.thenN ?_
    refine CV.seq ?_
    refine sr ?_
    refine mv ?_
    refine mv ?_
    refine vy (V.eq h8 rfl rfl) fun x41_4 h10 => ?_
    refine dn ?_
    refine CV.cond h10 rfl (fun e h11 => ?_) (fun e h11 => ?_)
    ·
     clear h8 h10
     subst e
     refine sr ?_
     refine as_ ?_
     refine dn ?_
     refine CV.ret ?_
     refine PV.thenR ?_
     refine PV.blockR ?_
     refine PV.thenR ?_
     refine PV.thenR ?_
     refine PV.blockR ?_
     refine PV.thenR ?_
     cases h11
     exact PV.ret (by simp) Tryz.results197 hS (RS.tmp rfl RS.nil) rfl
    ·
     clear h8 h10
     subst e
     refine CV.skip ?_
     refine PV.thenN ?_
     refine CV.seq ?_
     refine sr ?_
     refine mv ?_
     refine mv ?_
     refine vy (V.sub h11 rfl rfl) fun x44_5 h12 => ?_
     refine vy (V.lt h12 rfl rfl) fun x45_6 h13 => ?_
     refine dn ?_
     refine CV.cond h13 rfl (fun e h14 => ?_) (fun e h14 => ?_)
     ·
      clear h11 h12 h13
      subst e
      refine sr ?_
      refine as_ ?_
      refine dn ?_
      refine CV.ret ?_
      refine PV.thenR ?_
      refine PV.blockR ?_
      refine PV.thenR ?_
      refine PV.thenR ?_
      refine PV.blockR ?_
      refine PV.thenR ?_
      cases h14
      exact PV.ret (by simp) Tryz.results197 hS (RS.tmp rfl RS.nil) rfl
     ·
      clear h11 h12 h13
      subst e
      refine CV.skip ?_
      refine PV.thenN ?_
      refine CV.seq ?_
      refine CV.regionM [(0, .anywhere), (1, .anywhere), (2, .anywhere), (3, .anywhere), (4, .anywhere), (5, .anywhere), (6, .anywhere), (7, .anywhere), (8, .anywhere), (9, .held), (10, .anywhere), (11, .anywhere), (12, .anywhere), (13, .held), (14, .held), (15, .alone), (16, .alone), (17, .alone)] rfl (fun c a a' w hd hq => PanicOk.root (P := Tryz.prog) (fn := Tryz.f197) (w0 := w0) (base := base) (E := envE) (ro := ro) (r := r) (T' := T') (n' := n') (ρ0 := ρ0) c a a' w hd hq) (by kernel_rfl) ?_
      refine MV.step0 (i := 0) rfl (VAL.move rfl) rfl rfl rfl ?_
      refine MV.step0 (i := 1) rfl (VAL.move rfl) rfl rfl rfl ?_
      refine MV.step0 (i := 2) rfl (VAL.move rfl) rfl rfl rfl ?_
      refine MV.step0 (i := 3) rfl (VAL.move rfl) rfl rfl rfl ?_
      refine MV.lift0 (i := 4) rfl (V.sub h14 rfl rfl) rfl rfl rfl fun x50_7 h15 => ?_
      refine MV.step0 (i := 5) rfl (VAL.move rfl) rfl rfl rfl ?_
      refine MV.step0 (i := 6) rfl (VAL.move rfl) rfl rfl rfl ?_
      refine MV.lift0 (i := 7) rfl (V.sub h15 rfl rfl) rfl rfl rfl fun x53_8 h16 => ?_
      refine MV.lift0 (i := 8) rfl (V.ia h16 rfl rfl Rcf.el150) rfl rfl rfl fun x54_9 h17 => ?_
      refine MV.lift1 (i := 9) rfl (fun _ z => z) (V.ldA hS h17 rfl Rcf.agg155) rfl rfl rfl [] (by kernel_rfl) fun x55_10 h18 => ?_
      refine MV.step0 (i := 10) rfl (VAL.move rfl) rfl rfl rfl ?_
      refine MV.step0 (i := 11) rfl (VAL.move rfl) rfl rfl rfl ?_
      refine MV.lift0 (i := 12) rfl (V.ia h18 rfl rfl Rcf.el150) rfl rfl rfl fun x58_11 h19 => ?_
      refine MV.lift1 (i := 13) rfl (fun _ z => z) (V.ldA hS h19 rfl Rcf.agg155) rfl rfl rfl [9] (by kernel_rfl) fun x59_12 h20 => ?_
      refine MV.lift1 (i := 14) rfl (fun _ z => z) (V.ia h20 rfl rfl Rcf.el150) rfl rfl rfl [] (by kernel_rfl) fun x60_13 h21 => ?_
      refine MV.force (i := 15) rfl ?_
      refine LV.stA hS h21 rfl rfl rfl Rcf.agg155 rfl rfl rfl fun T4 its h22 hS => ?_
      refine LV.nextM [] (by kernel_rfl) (fun z => absurd rfl z) ?_
      refine MV.force (i := 16) rfl ?_
      refine vy (V.ia h22 rfl rfl Rcf.el150) fun x61_14 h23 => ?_
      refine LV.nextM [] (by kernel_rfl) (fun z => absurd rfl z) ?_
      refine MV.force (i := 17) rfl ?_
      refine LV.stA hS h23 rfl rfl rfl Rcf.agg155 rfl rfl rfl fun T5 its h24 hS => ?_
      refine LV.nextM [] (by kernel_rfl) (fun z => absurd rfl z) ?_
      refine mdn ?_
      refine CV.seq ?_
      refine sr ?_
      refine mv ?_
      refine mv ?_
      refine vy (V.sub h24 rfl rfl) fun x64_15 h25 => ?_
      refine vy (V.ge h25 rfl rfl) fun x65_16 h26 => ?_
      refine dn ?_
      refine CV.cond h26 rfl (fun e h27 => ?_) (fun e h27 => ?_)
      ·
       clear h14 h15 h16 h17 h18 h19 h20 h21 h22 h23 h24 h25 h26
       subst e
       cases h27
      ·
       clear h14 h15 h16 h17 h18 h19 h20 h21 h22 h23 h24 h25 h26
       subst e
       refine CV.skip ?_
       refine PV.thenN ?_
       refine sr ?_
       refine mv ?_
       refine mv ?_
       refine vy (V.sub h27 rfl rfl) fun x103_17 h28 => ?_
       refine vy (V.ge h28 rfl rfl) fun x104_18 h29 => ?_
       refine dn ?_
       refine CV.cond h29 rfl (fun e h30 => ?_) (fun e h30 => ?_)
       ·
        clear h27 h28 h29
        subst e
        cases h30
       ·
        clear h27 h28 h29
        subst e
        refine CV.skip ?_
        refine PV.blockN ?_
        refine PV.thenN ?_
        refine CV.region ?_
        refine mv ?_
        refine vy (V.add h30 rfl rfl) fun x18_19 h31 => ?_
        refine as_ ?_
        refine LV.done ?_
        exact pb7 hS h31 ⟨rfl, rfl, rfl, rfl, rfl, rfl, rfl, trivial⟩
 ·
  clear h3 h4
  subst e
  refine CV.exit ?_
  refine PV.thenE ?_
  refine PV.thenE ?_
  refine PV.blockE ?_
  refine PV.thenN ?_
  refine sr ?_
  refine as_ ?_
  refine dn ?_
  refine CV.ret ?_
  cases h5
  exact PV.ret (by simp) Tryz.results197 hS (RS.tmp rfl RS.nil) rfl
noncomputable def g199 (ro : List HT) (a0 a1 a2 a3 a4 : AV) (T : HT) (nx : Nat) : R :=
 .bad 1990001
theorem g199_ok (ro : List HT) (a0 a1 a2 a3 a4 : AV) (T : HT) (nx : Nat) : GOk Tryz.prog envE 199 [a0, a1, a2, a3, a4] ro T nx (g199 ro a0 a1 a2 a3 a4 T nx) := by
 refine GOk.of_body Tryz.func199 rfl Tryz.ntmps199 (by kernel_rfl) rfl fun r T' n' h1 w0 base ρ0 its hS hP => ?_
 have X : CtxW envE ρ0 ro r T' n' := trivial
 unfold g199 at h1
 cases h1
noncomputable def g146_k3 (ih : FuncId → List HT → List AV → HT → Nat → R) (ro : List HT) (lp1 : AV → AV → AV → AV → AV → AV → AV → HT → Nat → R) (y0 y1 y2 y3 y4 y10 y11 y12 y13 y97 : AV) (T5 : HT) (n5 : Nat) : R :=
 condK 1460038 y97
 (
  .bad 1460039
 )
 (
  callK (g199 ro y0 y1 y2 y13 y4 T5 n5) fun x111_10 T6 n6 =>
  exK 1460047 x111_10 0 fun x112_11 =>
  exK 1460048 x111_10 1 fun x113_12 =>
  subK Tryz.prog 3 (.tmp 115) (.tmp 116) 1460055 x112_11 y1 fun x117_13 =>
  subK Tryz.prog 3 (.tmp 118) (.tmp 119) 1460058 y2 x112_11 fun x120_14 =>
  bin0 Tryz.prog .quo 3 (.tmp 121) (.const (.int .i64 (.ofNat 8))) 1460062 y12 (.lit (.int .i64 (.ofNat 8))) fun x122_15 =>
  ltK Tryz.prog 3 (.tmp 123) (.tmp 124) 1460066 x117_13 x120_14 fun x125_16 =>
  condK 1460067 x125_16
  (
   geK Tryz.prog 3 (.tmp 126) (.tmp 127) 1460070 x117_13 x122_15 fun x128_17 =>
   callK (ih 146 ro [y0, y1, x112_11, y3, y4] T6 n6) fun x134_18 T7 n7 =>
   addK Tryz.prog 3 (.tmp 135) (.const (.int .i64 (.ofNat 1))) 1460079 x112_11 (.lit (.int .i64 (.ofNat 1))) fun x136_19 =>
   lp1 y0 x136_19 y2 y3 y4 x128_17 x113_12 T7 n7
  )
  (
   geK Tryz.prog 3 (.tmp 137) (.tmp 138) 1460083 x120_14 x122_15 fun x139_20 =>
   addK Tryz.prog 3 (.tmp 141) (.const (.int .i64 (.ofNat 1))) 1460087 x112_11 (.lit (.int .i64 (.ofNat 1))) fun x142_21 =>
   callK (ih 146 ro [y0, x142_21, y2, y3, y4] T6 n6) fun x146_22 T8 n8 =>
   lp1 y0 y1 x112_11 y3 y4 x139_20 x113_12 T8 n8
  )
 )
noncomputable def g146_k2 (ih : FuncId → List HT → List AV → HT → Nat → R) (ro : List HT) (lp1 : AV → AV → AV → AV → AV → AV → AV → HT → Nat → R) (y0 y1 y2 y3 y4 y10 y11 y12 y13 : AV) (T4 : HT) (n4 : Nat) : R :=
 gtK Tryz.prog 3 (.tmp 81) (.const (.int .i64 (.ofNat 0))) 1460095 y1 (.lit (.int .i64 (.ofNat 0))) fun x82_23 =>
 condK 1460097 x82_23
 (
  subK Tryz.prog 3 (.tmp 86) (.const (.int .i64 (.ofNat 1))) 1460101 y1 (.lit (.int .i64 (.ofNat 1))) fun x87_24 =>
  iaK 1460102 y0 x87_24 2 fun x88_25 =>
  ldAK 1460103 T4 ro x88_25 2 fun x89_26 =>
  iaK 1460106 y0 y13 2 fun x92_27 =>
  ldAK 1460107 T4 ro x92_27 2 fun x93_28 =>
  dynK 1460108 y4 fun f p q => callK (scc2 4000 f ro (p ++ ([x89_26, x93_28] ++ q)) T4 n4) fun x94_29 T9 n9 =>
  ltK Tryz.prog 3 (.tmp 94) (.const (.int .i64 (.ofNat 0))) 1460109 x94_29 (.lit (.int .i64 (.ofNat 0))) fun x95_30 =>
  notK 1460110 x95_30 fun x96_31 =>
  g146_k3 ih ro lp1 y0 y1 y2 y3 y4 y10 y11 y12 y13 x96_31 T9 n9
 )
 (
  g146_k3 ih ro lp1 y0 y1 y2 y3 y4 y10 y11 y12 y13 (.lit (.bool false)) T4 n4
 )
noncomputable def g146_k5 (ih : FuncId → List HT → List AV → HT → Nat → R) (ro : List HT) (lp1 : AV → AV → AV → AV → AV → AV → AV → HT → Nat → R) (y0 y1 y2 y3 y4 y10 y11 y12 y13 y75 : AV) (T11 : HT) (n11 : Nat) : R :=
 condK 1460116 y75
 (
  callK (g197 ro y0 y1 y2 y4 T11 n11) fun x80_32 T12 n12 =>
  condK 1460122 x80_32
  (
   .ok (.val (.tup [])) T12 n12
  )
  (
   g146_k2 ih ro lp1 y0 y1 y2 y3 y4 y10 y11 y12 y13 T12 n12
  )
 )
 (
  g146_k2 ih ro lp1 y0 y1 y2 y3 y4 y10 y11 y12 y13 T11 n11
 )
noncomputable def g146_k4 (ih : FuncId → List HT → List AV → HT → Nat → R) (ro : List HT) (lp1 : AV → AV → AV → AV → AV → AV → AV → HT → Nat → R) (y0 y1 y2 y3 y4 y10 y11 y12 y13 y14 y71 : AV) (T10 : HT) (n10 : Nat) : R :=
 condK 1460123 y71
 (
  eqK Tryz.prog 202 (.tmp 73) (.const (.int .i64 (.ofNat 1))) 1460125 y14 (.lit (.int .i64 (.ofNat 1))) fun x74_33 =>
  g146_k5 ih ro lp1 y0 y1 y2 y3 y4 y10 y11 y12 y13 x74_33 T10 n10
 )
 (
  g146_k5 ih ro lp1 y0 y1 y2 y3 y4 y10 y11 y12 y13 (.lit (.bool false)) T10 n10
 )
noncomputable def g146_b1 (ih : FuncId → List HT → List AV → HT → Nat → R) (ro : List HT) (lp1 : AV → AV → AV → AV → AV → AV → AV → HT → Nat → R) (y0 y1 y2 y3 y4 y10 y11 : AV) (T1 : HT) (n1 : Nat) : R :=
 subK Tryz.prog 3 (.tmp 21) (.tmp 22) 1460006 y2 y1 fun x23_1 =>
 leK Tryz.prog 3 (.tmp 24) (.const (.int .i64 (.ofNat 12))) 1460009 x23_1 (.lit (.int .i64 (.ofNat 12))) fun x25_2 =>
 condK 1460010 x25_2
 (
  callK (g192 ro y0 y1 y2 y4 T1 n1) fun x30_3 T2 n2 =>
  .ok (.val (.tup [])) T2 n2
 )
 (
  eqK Tryz.prog 3 (.tmp 31) (.const (.int .i64 (.ofNat 0))) 1460017 y3 (.lit (.int .i64 (.ofNat 0))) fun x32_4 =>
  condK 1460018 x32_4
  (
   .bad 1460019
  )
  (
   notK 1460021 y10 fun x39_5 =>
   condK 1460022 x39_5
   (
    .bad 1460023
   )
   (
    callK (g195 ro y0 y1 y2 y4 T1 n1) fun x52_6 T3 n3 =>
    exK 1460030 x52_6 0 fun x53_7 =>
    exK 1460031 x52_6 1 fun x54_8 =>
    eqK Tryz.prog 202 (.tmp 55) (.const (.int .i64 (.ofNat 2))) 1460035 x54_8 (.lit (.int .i64 (.ofNat 2))) fun x56_9 =>
    condK 1460036 x56_9
    (
     .bad 1460037
    )
    (
     condK 1460128 y10
     (
      g146_k4 ih ro lp1 y0 y1 y2 y3 y4 (.lit (.bool true)) y11 x23_1 x53_7 x54_8 y11 T3 n3
     )
     (
      g146_k4 ih ro lp1 y0 y1 y2 y3 y4 (.lit (.bool false)) y11 x23_1 x53_7 x54_8 (.lit (.bool false)) T3 n3
     )
    )
   )
  )
 )
noncomputable def g146 (ih : FuncId → List HT → List AV → HT → Nat → R) (ro : List HT) (a0 a1 a2 a3 a4 : AV) (T : HT) (nx : Nat) : R :=
 lpf7 1460003 (g146_b1 ih ro) 100000 a0 a1 a2 a3 a4 (.lit (.bool true)) (.lit (.bool true)) T nx
theorem g146_ok (ih : FuncId → List HT → List AV → HT → Nat → R) (hI : ∀ f ro args T nx, GOk Tryz.prog envE f args ro T nx (ih f ro args T nx)) (ro : List HT) (a0 a1 a2 a3 a4 : AV) (T : HT) (nx : Nat) : GOk Tryz.prog envE 146 [a0, a1, a2, a3, a4] ro T nx (g146 ih ro a0 a1 a2 a3 a4 T nx) := by
 refine GOk.of_body Tryz.func146 rfl Tryz.ntmps146 (by kernel_rfl) rfl fun r T' n' h1 w0 base ρ0 its hS hP => ?_
 have X : CtxW envE ρ0 ro r T' n' := trivial
 unfold g146 at h1
 refine sr ?_
 refine as_ ?_
 refine dn ?_
 refine sr ?_
 refine as_ ?_
 refine dn ?_
 refine CV.block ?_
 refine cl7 X 0 1 2 3 4 10 11 [] hS h1 ⟨rfl, rfl, rfl, rfl, rfl, rfl, rfl, trivial⟩ ?_
 intro f1 y0 y1 y2 y3 y4 y10 y11 T1 n1 ρ its hS h2
 unfold g146_b1 at h2
 clear h1
 refine CV.block ?_
 refine sr ?_
 refine mv ?_
 refine mv ?_
 refine vy (V.sub h2 rfl rfl) fun x23_1 h3 => ?_
 refine as_ ?_
 refine dn ?_
 refine CV.seq ?_
 refine sr ?_
 refine mv ?_
 refine vy (V.le h3 rfl rfl) fun x25_2 h4 => ?_
 refine dn ?_
 refine CV.cond h4 rfl (fun e h5 => ?_) (fun e h5 => ?_)
 ·
  clear h2 h3 h4
  subst e
  refine sr ?_
  refine mv ?_
  refine mv ?_
  refine mv ?_
  refine mv ?_
  refine LV.call hS h5 (g192_ok _ _ _ _ _ _ _ ) hP rfl rfl rfl rfl fun x30_3 T2 n2 h6 ρ its hS => ?_
  refine dn ?_
  refine CV.ret ?_
  refine PV.thenR ?_
  refine PV.blockR ?_
  refine PV.thenR ?_
  refine PV.blockR ?_
  cases h6
  exact PV.ret (by simp) Tryz.results146 hS RS.nil rfl
 ·
  clear h2 h3 h4
  subst e
  refine CV.skip ?_
  refine PV.thenN ?_
  refine CV.seq ?_
  refine sr ?_
  refine mv ?_
  refine vy (V.eq h5 rfl rfl) fun x32_4 h7 => ?_
  refine dn ?_
  refine CV.cond h7 rfl (fun e h8 => ?_) (fun e h8 => ?_)
  ·
   clear h5 h7
   subst e
   cases h8
  ·
   clear h5 h7
   subst e
   refine CV.skip ?_
   refine PV.thenN ?_
   refine CV.seq ?_
   refine sr ?_
   refine mv ?_
   refine vy (V.not h8 rfl) fun x39_5 h9 => ?_
   refine dn ?_
   refine CV.cond h9 rfl (fun e h10 => ?_) (fun e h10 => ?_)
   ·
    clear h8 h9
    subst e
    cases h10
   ·
    clear h8 h9
    subst e
    refine CV.skip ?_
    refine PV.thenN ?_
    refine sr ?_
    refine mv ?_
    refine mv ?_
    refine mv ?_
    refine mv ?_
    refine LV.call hS h10 (g195_ok _ _ _ _ _ _ _ ) hP rfl rfl rfl rfl fun x52_6 T3 n3 h11 ρ its hS => ?_
    refine mv ?_
    refine vy (V.ex h11 rfl) fun x53_7 h12 => ?_
    refine vy (V.ex h12 rfl) fun x54_8 h13 => ?_
    refine as_ ?_
    refine as_ ?_
    refine dn ?_
    refine CV.seq ?_
    refine sr ?_
    refine mv ?_
    refine vy (V.eq h13 rfl rfl) fun x56_9 h14 => ?_
    refine dn ?_
    refine CV.cond h14 rfl (fun e h15 => ?_) (fun e h15 => ?_)
    ·
     clear h10 h11 h12 h13 h14
     subst e
     cases h15
    ·
     clear h10 h11 h12 h13 h14
     subst e
     refine CV.skip ?_
     refine PV.thenN ?_
     refine cs9 X 0 1 2 3 4 10 11 12 13 [] (g146_k2 ih ro (lpf7 1460003 (g146_b1 ih ro) f1)) ?_ ?_
     ·
      refine sr ?_
      refine mv ?_
      refine mv ?_
      refine ls11 X 0 1 2 3 4 10 11 12 13 14 71 [] (g146_k4 ih ro (lpf7 1460003 (g146_b1 ih ro) f1)) 2 ?_ ?_
      ·
       rcases condK_inv h15 with ⟨e, h50⟩ | ⟨e, h50⟩
       ·
        clear h15
        subst e
        refine mv ?_
        refine pu ?_
        exact la11 hS h50 ⟨rfl, rfl, rfl, rfl, rfl, rfl, rfl, rfl, rfl, rfl, rfl, trivial⟩
       ·
        clear h15
        subst e
        refine sk ?_
        refine pu ?_
        exact la11 hS h50 ⟨rfl, rfl, rfl, rfl, rfl, rfl, rfl, rfl, rfl, rfl, rfl, trivial⟩
      ·
       intro y0 y1 y2 y3 y4 y10 y11 y12 y13 y14 y71 T10 n10 ρ its hS h43
       unfold g146_k4 at h43
       clear h15
       refine mv ?_
       refine ls10 X 0 1 2 3 4 10 11 12 13 75 [] (g146_k5 ih ro (lpf7 1460003 (g146_b1 ih ro) f1)) 3 ?_ ?_
       ·
        rcases condK_inv h43 with ⟨e, h48⟩ | ⟨e, h48⟩
        ·
         clear h43
         subst e
         refine mv ?_
         refine vy (V.eq h48 rfl rfl) fun x74_33 h49 => ?_
         refine pu ?_
         exact la10 hS h49 ⟨rfl, rfl, rfl, rfl, rfl, rfl, rfl, rfl, rfl, rfl, trivial⟩
        ·
         clear h43
         subst e
         refine sk ?_
         refine sk ?_
         refine pu ?_
         exact la10 hS h48 ⟨rfl, rfl, rfl, rfl, rfl, rfl, rfl, rfl, rfl, rfl, trivial⟩
       ·
        intro y0 y1 y2 y3 y4 y10 y11 y12 y13 y75 T11 n11 ρ its hS h44
        unfold g146_k5 at h44
        clear h43
        refine dn ?_
        refine CV.cond h44 rfl (fun e h45 => ?_) (fun e h45 => ?_)
        ·
         clear h44
         subst e
         refine sr ?_
         refine mv ?_
         refine mv ?_
         refine mv ?_
         refine mv ?_
         refine LV.call hS h45 (g197_ok _ _ _ _ _ _ _ ) hP rfl rfl rfl rfl fun x80_32 T12 n12 h46 ρ its hS => ?_
         refine dn ?_
         refine CV.cond h46 rfl (fun e h47 => ?_) (fun e h47 => ?_)
         ·
          clear h45 h46
          subst e
          refine CV.ret ?_
          refine PV.thenR ?_
          refine PV.blockR ?_
          refine PV.thenR ?_
          refine PV.blockR ?_
          cases h47
          exact PV.ret (by simp) Tryz.results146 hS RS.nil rfl
         ·
          clear h45 h46
          subst e
          refine CV.skip ?_
          exact pa9 hS h47 ⟨rfl, rfl, rfl, rfl, rfl, rfl, rfl, rfl, rfl, trivial⟩
        ·
         clear h44
         subst e
         refine CV.skip ?_
         exact pa9 hS h45 ⟨rfl, rfl, rfl, rfl, rfl, rfl, rfl, rfl, rfl, trivial⟩
     ·
      intro y0 y1 y2 y3 y4 y10 y11 y12 y13 T4 n4 ρ its hS h16
      unfold g146_k2 at h16
      clear h15
      refine CV.seq ?_
      refine cs10 X 0 1 2 3 4 10 11 12 13 97 [] (g146_k3 ih ro (lpf7 1460003 (g146_b1 ih ro) f1)) ?_ ?_
      ·
       refine CV.regionM [(0, .anywhere), (1, .anywhere), (2, .anywhere), (3, .anywhere), (4, .anywhere), (5, .anywhere), (6, .anywhere), (7, .anywhere), (8, .held), (9, .anywhere), (10, .anywhere), (11, .anywhere), (12, .held), (13, .alone), (14, .alone), (15, .alone), (16, .alone)] rfl (fun c a a' w hd hq => PanicOk.root (P := Tryz.prog) (fn := Tryz.f146) (w0 := w0) (base := base) (E := envE) (ro := ro) (r := r) (T' := T') (n' := n') (ρ0 := ρ0) c a a' w hd hq) (by kernel_rfl) ?_
       refine MV.step0 (i := 0) rfl (VAL.move rfl) rfl rfl rfl ?_
       refine MV.lift0 (i := 1) rfl (V.gt h16 rfl rfl) rfl rfl rfl fun x82_23 h33 => ?_
       refine MV.step0 (i := 2) rfl (VAL.move rfl) rfl rfl rfl ?_
       rcases condK_inv h33 with ⟨e, h34⟩ | ⟨e, h34⟩
       ·
        clear h16 h33
        subst e
        refine MV.step0 (i := 3) rfl (VAL.move rfl) rfl rfl rfl ?_
        refine MV.step0 (i := 4) rfl (VAL.move rfl) rfl rfl rfl ?_
        refine MV.step0 (i := 5) rfl (VAL.move rfl) rfl rfl rfl ?_
        refine MV.lift0 (i := 6) rfl (V.sub h34 rfl rfl) rfl rfl rfl fun x87_24 h35 => ?_
        refine MV.lift0 (i := 7) rfl (V.ia h35 rfl rfl Rcf.el150) rfl rfl rfl fun x88_25 h36 => ?_
        refine MV.lift1 (i := 8) rfl (fun _ z => z) (V.ldA hS h36 rfl Rcf.agg155) rfl rfl rfl [] (by kernel_rfl) fun x89_26 h37 => ?_
        refine MV.step0 (i := 9) rfl (VAL.move rfl) rfl rfl rfl ?_
        refine MV.step0 (i := 10) rfl (VAL.move rfl) rfl rfl rfl ?_
        refine MV.lift0 (i := 11) rfl (V.ia h37 rfl rfl Rcf.el150) rfl rfl rfl fun x92_27 h38 => ?_
        refine MV.lift1 (i := 12) rfl (fun _ z => z) (V.ldA hS h38 rfl Rcf.agg155) rfl rfl rfl [8] (by kernel_rfl) fun x93_28 h39 => ?_
        refine MV.force (i := 13) rfl ?_
        refine LV.callD (G := fun f gs => scc2 4000 f ro gs T4 n4) (qs := [x89_26, x93_28]) hS h39 (fun f gs => scc2_ok _ _ _ _ _ _) hP rfl rfl rfl rfl rfl rfl rfl fun x94_29 T9 n9 h40 ρ its hS => ?_
        refine LV.nextM [] (by kernel_rfl) (fun z => absurd rfl z) ?_
        refine MV.force (i := 14) rfl ?_
        refine vy (V.lt h40 rfl rfl) fun x95_30 h41 => ?_
        refine LV.nextM [] (by kernel_rfl) (fun z => absurd rfl z) ?_
        refine MV.force (i := 15) rfl ?_
        refine vy (V.not h41 rfl) fun x96_31 h42 => ?_
        refine LV.nextM [] (by kernel_rfl) (fun z => absurd rfl z) ?_
        refine MV.force (i := 16) rfl ?_
        refine pu ?_
        refine LV.nextM [] (by kernel_rfl) (fun z => absurd rfl z) ?_
        refine MV.done ?_
        exact pa10 hS h42 ⟨rfl, rfl, rfl, rfl, rfl, rfl, rfl, rfl, rfl, rfl, trivial⟩
       ·
        clear h16 h33
        subst e
        refine MV.skip0 (i := 3) rfl rfl rfl rfl ?_
        refine MV.skip0 (i := 4) rfl rfl rfl rfl ?_
        refine MV.skip0 (i := 5) rfl rfl rfl rfl ?_
        refine MV.skip0 (i := 6) rfl rfl rfl rfl ?_
        refine MV.skip0 (i := 7) rfl rfl rfl rfl ?_
        refine MV.skip1 (i := 8) rfl (fun _ z => z) rfl rfl rfl [] (by kernel_rfl) ?_
        refine MV.skip0 (i := 9) rfl rfl rfl rfl ?_
        refine MV.skip0 (i := 10) rfl rfl rfl rfl ?_
        refine MV.skip0 (i := 11) rfl rfl rfl rfl ?_
        refine MV.skip1 (i := 12) rfl (fun _ z => z) rfl rfl rfl [8] (by kernel_rfl) ?_
        refine MV.force (i := 13) rfl ?_
        refine sk ?_
        refine LV.nextM [] (by kernel_rfl) (fun z => absurd rfl z) ?_
        refine MV.force (i := 14) rfl ?_
        refine sk ?_
        refine LV.nextM [] (by kernel_rfl) (fun z => absurd rfl z) ?_
        refine MV.force (i := 15) rfl ?_
        refine sk ?_
        refine LV.nextM [] (by kernel_rfl) (fun z => absurd rfl z) ?_
        refine MV.force (i := 16) rfl ?_
        refine pu ?_
        refine LV.nextM [] (by kernel_rfl) (fun z => absurd rfl z) ?_
        refine MV.done ?_
        exact pa10 hS h34 ⟨rfl, rfl, rfl, rfl, rfl, rfl, rfl, rfl, rfl, rfl, trivial⟩
      ·
       intro y0 y1 y2 y3 y4 y10 y11 y12 y13 y97 T5 n5 ρ its hS h17
       unfold g146_k3 at h17
       clear h16
       refine CV.cond h17 rfl (fun e h18 => ?_) (fun e h18 => ?_)
       ·
        clear h17
        subst e
        cases h18
       ·
        clear h17
        subst e
        refine CV.skip ?_
        refine PV.thenN ?_
        refine sr ?_
        refine mv ?_
        refine mv ?_
        refine mv ?_
        refine mv ?_
        refine mv ?_
        refine LV.call hS h18 (g199_ok _ _ _ _ _ _ _ _ ) hP rfl rfl rfl rfl fun x111_10 T6 n6 h19 ρ its hS => ?_
        refine mv ?_
        refine vy (V.ex h19 rfl) fun x112_11 h20 => ?_
        refine vy (V.ex h20 rfl) fun x113_12 h21 => ?_
        refine as_ ?_
        refine as_ ?_
        refine dn ?_
        refine sr ?_
        refine mv ?_
        refine as_ ?_
        refine dn ?_
        refine sr ?_
        refine mv ?_
        refine mv ?_
        refine vy (V.sub h21 rfl rfl) fun x117_13 h22 => ?_
        refine mv ?_
        refine mv ?_
        refine vy (V.sub h22 rfl rfl) fun x120_14 h23 => ?_
        refine as_ ?_
        refine as_ ?_
        refine dn ?_
        refine sr ?_
        refine mv ?_
        refine vy (V.bin0 h23 rfl rfl) fun x122_15 h24 => ?_
        refine as_ ?_
        refine dn ?_
        refine sr ?_
        refine mv ?_
        refine mv ?_
        refine vy (V.lt h24 rfl rfl) fun x125_16 h25 => ?_
        refine dn ?_
        refine CV.cond h25 rfl (fun e h26 => ?_) (fun e h26 => ?_)
        ·
         clear h18 h19 h20 h21 h22 h23 h24 h25
         subst e
         refine sr ?_
         refine mv ?_
         refine mv ?_
         refine vy (V.ge h26 rfl rfl) fun x128_17 h27 => ?_
         refine as_ ?_
         refine dn ?_
         refine sr ?_
         refine mv ?_
         refine mv ?_
         refine mv ?_
         refine mv ?_
         refine mv ?_
         refine LV.call hS h27 (hI _ _ _ _ _) hP rfl rfl rfl rfl fun x134_18 T7 n7 h28 ρ its hS => ?_
         refine dn ?_
         refine CV.region ?_
         refine mv ?_
         refine vy (V.add h28 rfl rfl) fun x136_19 h29 => ?_
         refine as_ ?_
         refine LV.done ?_
         refine PV.blockN ?_
         exact pb7 hS h29 ⟨rfl, rfl, rfl, rfl, rfl, rfl, rfl, trivial⟩
        ·
         clear h18 h19 h20 h21 h22 h23 h24 h25
         subst e
         refine sr ?_
         refine mv ?_
         refine mv ?_
         refine vy (V.ge h26 rfl rfl) fun x139_20 h30 => ?_
         refine as_ ?_
         refine dn ?_
         refine sr ?_
         refine mv ?_
         refine mv ?_
         refine vy (V.add h30 rfl rfl) fun x142_21 h31 => ?_
         refine mv ?_
         refine mv ?_
         refine mv ?_
         refine LV.call hS h31 (hI _ _ _ _ _) hP rfl rfl rfl rfl fun x146_22 T8 n8 h32 ρ its hS => ?_
         refine dn ?_
         refine CV.region ?_
         refine mv ?_
         refine as_ ?_
         refine LV.done ?_
         refine PV.blockN ?_
         exact pb7 hS h32 ⟨rfl, rfl, rfl, rfl, rfl, rfl, rfl, trivial⟩
noncomputable def ap6 (ih : FuncId → List HT → List AV → HT → Nat → R) (f : FuncId) (ro : List HT) (args : List AV) (T : HT) (nx : Nat) : R :=
  Bool.rec (motive := fun _ => R) (.bad 2) (List.rec (motive := fun _ => R) (.bad 1) (fun a0 l0 _ => List.rec (motive := fun _ => R) (.bad 1) (fun a1 l1 _ => List.rec (motive := fun _ => R) (.bad 1) (fun a2 l2 _ => List.rec (motive := fun _ => R) (.bad 1) (fun a3 l3 _ => List.rec (motive := fun _ => R) (.bad 1) (fun a4 l4 _ => List.rec (motive := fun _ => R) (g146 ih ro a0 a1 a2 a3 a4 T nx) (fun _ _ _ => .bad 1) l4) l3) l2) l1) l0) args) (Nat.beq f 146)
noncomputable def scc6 (fuel : Nat) : FuncId → List HT → List AV → HT → Nat → R :=
  Nat.rec (motive := fun _ => FuncId → List HT → List AV → HT → Nat → R) (fun _ _ _ _ _ => .bad 3) (fun _ ih => ap6 ih) fuel
theorem ap6_ok (ih : FuncId → List HT → List AV → HT → Nat → R) (hI : ∀ f ro args T nx, GOk Tryz.prog envE f args ro T nx (ih f ro args T nx)) (f : FuncId) (ro : List HT) (args : List AV) (T : HT) (nx : Nat) : GOk Tryz.prog envE f args ro T nx (ap6 ih f ro args T nx) := by
  unfold ap6
  refine recb_go (fun hb => ?_) (fun _ => ?_)
  · obtain rfl := beqT hb
    rcases args with _ | ⟨a0, l0⟩
    · exact GOk.bad
    rcases l0 with _ | ⟨a1, l1⟩
    · exact GOk.bad
    rcases l1 with _ | ⟨a2, l2⟩
    · exact GOk.bad
    rcases l2 with _ | ⟨a3, l3⟩
    · exact GOk.bad
    rcases l3 with _ | ⟨a4, l4⟩
    · exact GOk.bad
    rcases l4 with _ | ⟨_, _⟩
    · exact g146_ok _ hI _ _ _ _ _ _ _ _ 
    · exact GOk.bad
  · exact GOk.bad
theorem scc6_ok : ∀ (fuel : Nat) (f : FuncId) (ro : List HT) (args : List AV) (T : HT) (nx : Nat), GOk Tryz.prog envE f args ro T nx (scc6 fuel f ro args T nx)
  | 0, _, _, _, _, _ => GOk.bad
  | fuel + 1, f, ro, args, T, nx => ap6_ok (scc6 fuel) (scc6_ok fuel) f ro args T nx
noncomputable def g85 (ro : List HT) (a0 a1 : AV) (T : HT) (nx : Nat) : R :=
 lenSK 850002 a0 fun x6_1 =>
 optK 850007 (convV Tryz.prog 3 164 x6_1) fun x10_2 =>
 callK (g92 ro x10_2 T nx) fun x11_3 T1 n1 =>
 callK (scc6 4000 146 ro [a0, (.lit (.int .i64 (.ofNat 0))), x6_1, x11_3, a1] T1 n1) fun x13_4 T2 n2 =>
 .ok (.val (.tup [])) T2 n2
theorem g85_ok (ro : List HT) (a0 a1 : AV) (T : HT) (nx : Nat) : GOk Tryz.prog envE 85 [a0, a1] ro T nx (g85 ro a0 a1 T nx) := by
 refine GOk.of_body Tryz.func85 rfl Tryz.ntmps85 (by kernel_rfl) rfl fun r T' n' h1 w0 base ρ0 its hS hP => ?_
 have X : CtxW envE ρ0 ro r T' n' := trivial
 unfold g85 at h1
 refine sr ?_
 refine mv ?_
 refine vy (V.lenS h1 rfl Rcf.ls150) fun x6_1 h2 => ?_
 refine as_ ?_
 refine dn ?_
 refine CV.region ?_
 refine mv ?_
 refine mv ?_
 refine mv ?_
 refine vy (V.conv h2 rfl) fun x10_2 h3 => ?_
 refine LV.call hS h3 (g92_ok _ _ _ _ ) hP rfl rfl rfl rfl fun x11_3 T1 n1 h4 ρ its hS => ?_
 refine mv ?_
 refine LV.call hS h4 (scc6_ok _ _ _ _ _ _) hP rfl rfl rfl rfl fun x13_4 T2 n2 h5 ρ its hS => ?_
 refine LV.done ?_
 cases h5
 exact PV.ret (by simp) Tryz.results85 hS RS.nil rfl
noncomputable def g56_k2 (ro : List HT) (lp1 : AV → AV → AV → AV → AV → HT → Nat → R) (y4 y6 y14 y15 y16 : AV) (T5 : HT) (n5 : Nat) : R :=
 addK Tryz.prog 3 (.tmp 16) (.const (.int .i64 (.ofNat 1))) 560015 y16 (.lit (.int .i64 (.ofNat 1))) fun x30_8 =>
 lp1 y4 y6 y14 y15 x30_8 T5 n5
noncomputable def g56_b1 (ro : List HT) (lp1 : AV → AV → AV → AV → AV → HT → Nat → R) (y4 y6 y14 y15 y16 : AV) (T4 : HT) (n4 : Nat) : R :=
 ltK Tryz.prog 3 (.tmp 16) (.tmp 15) 560013 y16 y15 fun x17_7 =>
 condK 560014 x17_7
 (
  iaK 560017 y14 y16 2 fun x18_9 =>
  ldAK 560018 T4 ro x18_9 2 fun x19_10 =>
  newK T4 n4 (.obj [.lit (.int .i64 0), .lit (.string ⟨#[]⟩)] 155) fun x8_11 T6 n6 =>
  stAK 560020 T6 x8_11 x19_10 2 fun T7 =>
  faK 560022 x8_11 1 fun x21_12 =>
  ldK 560023 T7 ro x21_12 fun x22_13 =>
  callK (g87 ro y6 x22_13 T7 n6) fun x23_14 T8 n8 =>
  notK 560025 x23_14 fun x24_15 =>
  condK 560026 x24_15
  (
   faK 560028 x8_11 1 fun x26_16 =>
   ldK 560029 T8 ro x26_16 fun x27_17 =>
   bsK 560030 T8 n8 1 9 1 [(0, x27_17)] fun x28_18 T9 n9 =>
   shrK 560032 T9 y6 fun T10 =>
   appK 560031 T10 ro n9 9 1 16 y6 x28_18 fun x29_19 T11 n11 =>
   g56_k2 ro lp1 y4 x29_19 y14 y15 y16 T11 n11
  )
  (
   g56_k2 ro lp1 y4 y6 y14 y15 y16 T8 n8
  )
 )
 (
  .ok (.val y6) T4 n4
 )
noncomputable def g56 (ro : List HT) (a0 a1 : AV) (T : HT) (nx : Nat) : R :=
 newK T nx (.obj [.lit (.slice none 0 0)] 150) fun x5_1 T1 n1 =>
 callK (scc5 4000 84 ro [a0, a1, x5_1] T1 n1) fun x11_2 T2 n2 =>
 ldK 560006 T2 ro x5_1 fun x12_3 =>
 callK (g85 ro x12_3 (.lit (.func (.func 86) #[] #[])) T2 n2) fun x13_4 T3 n3 =>
 ldK 560009 T3 ro x5_1 fun x14_5 =>
 lenSK 560010 x14_5 fun x15_6 =>
 lpf5 560012 (g56_b1 ro) 100000 (.lit (.slice none 0 0)) (.lit (.slice none 0 0)) x14_5 x15_6 (.lit (.int .i64 (.ofNat 0))) T3 n3
theorem g56_ok (ro : List HT) (a0 a1 : AV) (T : HT) (nx : Nat) : GOk Tryz.prog envE 56 [a0, a1] ro T nx (g56 ro a0 a1 T nx) := by
 refine GOk.of_body Tryz.func56 rfl Tryz.ntmps56 (by kernel_rfl) rfl fun r T' n' h1 w0 base ρ0 its hS hP => ?_
 have X : CtxW envE ρ0 ro r T' n' := trivial
 unfold g56 at h1
 refine sr ?_
 refine as_ ?_
 refine dn ?_
 refine sr ?_
 refine LV.alloc hS h1 rfl Rcf.zr150 rfl rfl rfl fun x5_1 T1 n1 h2 ρ its hS hdr => ?_
 refine dn ?_
 refine sr ?_
 refine mv ?_
 refine mv ?_
 refine LV.call hS h2 (scc5_ok _ _ _ _ _ _) hP rfl rfl rfl rfl fun x11_2 T2 n2 h3 ρ its hS => ?_
 refine dn ?_
 refine sr ?_
 refine vy (V.ld hS h3 rfl Rcf.one150) fun x12_3 h4 => ?_
 refine LV.call hS h4 (g85_ok _ _ _ _ _ ) hP rfl rfl rfl rfl fun x13_4 T3 n3 h5 ρ its hS => ?_
 refine dn ?_
 refine sr ?_
 refine as_ ?_
 refine dn ?_
 refine CV.seq ?_
 refine sr ?_
 refine vy (V.ld hS h5 rfl Rcf.one150) fun x14_5 h6 => ?_
 refine vy (V.lenS h6 rfl Rcf.ls150) fun x15_6 h7 => ?_
 refine mv ?_
 refine dn ?_
 refine CV.block ?_
 refine cl5 X 4 6 14 15 16 [] hS h7 ⟨rfl, rfl, rfl, rfl, rfl, trivial⟩ ?_
 intro f1 y4 y6 y14 y15 y16 T4 n4 ρ its hS h8
 unfold g56_b1 at h8
 clear h1 h2 h3 h4 h5 h6 h7
 refine sr ?_
 refine vy (V.lt h8 rfl rfl) fun x17_7 h9 => ?_
 refine dn ?_
 refine CV.seq ?_
 refine CV.cond h9 rfl (fun e h10 => ?_) (fun e h10 => ?_)
 ·
  clear h8 h9
  subst e
  refine CV.skip ?_
  refine PV.thenN ?_
  refine cs5 X 4 6 14 15 16 [] (g56_k2 ro (lpf5 560012 (g56_b1 ro) f1)) ?_ ?_
  ·
   refine CV.block ?_
   refine sr ?_
   refine vy (V.ia h10 rfl rfl Rcf.el150) fun x18_9 h13 => ?_
   refine vy (V.ldA hS h13 rfl Rcf.agg155) fun x19_10 h14 => ?_
   refine LV.alloc hS h14 rfl Rcf.zr155 rfl rfl rfl fun x8_11 T6 n6 h15 ρ its hS hdr => ?_
   refine LV.stA hS h15 rfl rfl rfl Rcf.agg155 rfl rfl rfl fun T7 its h16 hS => ?_
   refine dn ?_
   refine sr ?_
   refine mv ?_
   refine vy (V.fa h16 rfl Rcf.fo155_1) fun x21_12 h17 => ?_
   refine vy (V.ld hS h17 rfl Rcf.one9) fun x22_13 h18 => ?_
   refine LV.call hS h18 (g87_ok _ _ _ _ _ ) hP rfl rfl rfl rfl fun x23_14 T8 n8 h19 ρ its hS => ?_
   refine vy (V.not h19 rfl) fun x24_15 h20 => ?_
   refine dn ?_
   refine CV.cond h20 rfl (fun e h21 => ?_) (fun e h21 => ?_)
   ·
    clear h10 h13 h14 h15 h16 h17 h18 h19 h20
    subst e
    refine CV.region ?_
    refine mv ?_
    refine vy (V.fa h21 rfl Rcf.fo155_1) fun x26_16 h22 => ?_
    refine vy (V.ld hS h22 rfl Rcf.one9) fun x27_17 h23 => ?_
    refine LV.bslice hS h23 rfl rfl Rcf.el46 rfl rfl rfl rfl fun x28_18 T9 n9 h24 ρ its hS hdr => ?_
    obtain ⟨T10, its1, h25, hS, hW⟩ := shrK_inv hS h24
    refine LV.world hW ?_
    refine LV.app hS h25 rfl rfl rfl rfl Rcf.el46 rfl rfl rfl fun x29_19 T11 n11 h26 ρ its hS => ?_
    refine as_ ?_
    refine LV.done ?_
    refine PV.blockN ?_
    exact pa5 hS h26 ⟨rfl, rfl, rfl, rfl, rfl, trivial⟩
   ·
    clear h10 h13 h14 h15 h16 h17 h18 h19 h20
    subst e
    refine CV.skip ?_
    refine PV.blockN ?_
    exact pa5 hS h21 ⟨rfl, rfl, rfl, rfl, rfl, trivial⟩
  ·
   intro y4 y6 y14 y15 y16 T5 n5 ρ its hS h11
   unfold g56_k2 at h11
   clear h10
   refine CV.region ?_
   refine vy (V.add h11 rfl rfl) fun x30_8 h12 => ?_
   refine mv ?_
   refine LV.done ?_
   exact pb5 hS h12 ⟨rfl, rfl, rfl, rfl, rfl, trivial⟩
 ·
  clear h8 h9
  subst e
  refine CV.exit ?_
  refine PV.thenE ?_
  refine PV.thenE ?_
  refine PV.blockE ?_
  refine PV.thenN ?_
  refine sr ?_
  refine mv ?_
  refine as_ ?_
  refine dn ?_
  refine CV.ret ?_
  cases h10
  exact PV.ret (by simp) Tryz.results56 hS (RS.tmp rfl RS.nil) rfl
noncomputable def g57 (ro : List HT) (a0 : AV) (T : HT) (nx : Nat) : R :=
 slEqK Tryz.prog .eql false 46 (.tmp 3) (.const (.slice none 0 0)) 570003 a0 fun x4_1 =>
 condK 570004 x4_1
 (
  .ok (.val (.lit (.slice none 0 0))) T nx
 )
 (
  bs0K T nx 9 1 fun x5_2 T1 n1 =>
  shrK 570009 T1 x5_2 fun T2 =>
  appK 570008 T2 ro n1 9 1 16 x5_2 a0 fun x7_3 T3 n3 =>
  .ok (.val x7_3) T3 n3
 )
theorem g57_ok (ro : List HT) (a0 : AV) (T : HT) (nx : Nat) : GOk Tryz.prog envE 57 [a0] ro T nx (g57 ro a0 T nx) := by
 refine GOk.of_body Tryz.func57 rfl Tryz.ntmps57 (by kernel_rfl) rfl fun r T' n' h1 w0 base ρ0 its hS hP => ?_
 have X : CtxW envE ρ0 ro r T' n' := trivial
 unfold g57 at h1
 refine sr ?_
 refine as_ ?_
 refine dn ?_
 refine CV.seq ?_
 refine sr ?_
 refine mv ?_
 refine vy (V.slEq h1 rfl Rcf.slt46) fun x4_1 h2 => ?_
 refine dn ?_
 refine CV.cond h2 rfl (fun e h3 => ?_) (fun e h3 => ?_)
 ·
  clear h1 h2
  subst e
  refine sr ?_
  refine as_ ?_
  refine dn ?_
  refine CV.ret ?_
  refine PV.thenR ?_
  cases h3
  exact PV.ret (by simp) Tryz.results57 hS (RS.tmp rfl RS.nil) rfl
 ·
  clear h1 h2
  subst e
  refine CV.skip ?_
  refine PV.thenN ?_
  refine sr ?_
  refine LV.bs0 hS h3 rfl Rcf.el46 rfl rfl rfl fun x5_2 T1 n1 h4 ρ its hS hdr => ?_
  refine mv ?_
  obtain ⟨T2, its1, h5, hS, hW⟩ := shrK_inv hS h4
  refine LV.world hW ?_
  refine LV.app hS h5 rfl rfl rfl rfl Rcf.el46 rfl rfl rfl fun x7_3 T3 n3 h6 ρ its hS => ?_
  refine as_ ?_
  refine dn ?_
  refine CV.ret ?_
  cases h6
  exact PV.ret (by simp) Tryz.results57 hS (RS.tmp rfl RS.nil) rfl
noncomputable def g148_b1 (ro : List HT) (lp1 : AV → AV → AV → HT → Nat → R) (y0 y1 y4 : AV) (T1 : HT) (n1 : Nat) : R :=
 bin0 Tryz.prog .neq 158 (.tmp 6) (.const (.pointer none)) 1480004 y0 (.lit (.pointer none)) fun x7_1 =>
 condK 1480005 x7_1
 (
  fldK 1480007 T1 ro y0 1 fun x15_2 =>
  callK (g147 ro x15_2 y1 T1 n1) fun x17_3 T2 n2 =>
  geK Tryz.prog 3 (.tmp 18) (.const (.int .i64 (.ofNat 0))) 1480012 x17_3 (.lit (.int .i64 (.ofNat 0))) fun x19_4 =>
  condK 1480013 x19_4
  (
   fldK 1480015 T2 ro y0 2 fun x23_5 =>
   addK Tryz.prog 3 (.tmp 23) (.tmp 24) 1480017 x23_5 x17_3 fun x25_6 =>
   .ok (.val x25_6) T2 n2
  )
  (
   fldK 1480020 T2 ro y0 0 fun x11_7 =>
   lp1 x11_7 y1 y4 T2 n2
  )
 )
 (
  .ok (.val (.lit (.int .i64 (.negSucc 0)))) T1 n1
 )
noncomputable def g148 (ro : List HT) (a0 a1 : AV) (T : HT) (nx : Nat) : R :=
 lpf3 1480002 (g148_b1 ro) 100000 a0 a1 (.lit (.int .i64 (.ofNat 0))) T nx
theorem g148_ok (ro : List HT) (a0 a1 : AV) (T : HT) (nx : Nat) : GOk Tryz.prog envE 148 [a0, a1] ro T nx (g148 ro a0 a1 T nx) := by
 refine GOk.of_body Tryz.func148 rfl Tryz.ntmps148 (by kernel_rfl) rfl fun r T' n' h1 w0 base ρ0 its hS hP => ?_
 have X : CtxW envE ρ0 ro r T' n' := trivial
 unfold g148 at h1
 refine sr ?_
 refine as_ ?_
 refine dn ?_
 refine CV.seq ?_
 refine CV.block ?_
 refine cl3 X 0 1 4 [] hS h1 ⟨rfl, rfl, rfl, trivial⟩ ?_
 intro f1 y0 y1 y4 T1 n1 ρ its hS h2
 unfold g148_b1 at h2
 clear h1
 refine CV.seq ?_
 refine sr ?_
 refine mv ?_
 refine vy (V.bin0 h2 rfl rfl) fun x7_1 h3 => ?_
 refine dn ?_
 refine CV.cond h3 rfl (fun e h4 => ?_) (fun e h4 => ?_)
 ·
  clear h2 h3
  subst e
  refine CV.skip ?_
  refine PV.thenN ?_
  refine CV.seq ?_
  refine CV.block ?_
  refine sr ?_
  refine mv ?_
  refine fl hS h4 Rcf.fo197_1 Rcf.one46 fun x15_2 h5 => ?_
  refine mv ?_
  refine LV.call hS h5 (g147_ok _ _ _ _ _ ) hP rfl rfl rfl rfl fun x17_3 T2 n2 h6 ρ its hS => ?_
  refine as_ ?_
  refine dn ?_
  refine sr ?_
  refine mv ?_
  refine vy (V.ge h6 rfl rfl) fun x19_4 h7 => ?_
  refine dn ?_
  refine CV.cond h7 rfl (fun e h8 => ?_) (fun e h8 => ?_)
  ·
   clear h4 h5 h6 h7
   subst e
   refine sr ?_
   refine mv ?_
   refine fl hS h8 Rcf.fo197_2 Rcf.one3 fun x23_5 h9 => ?_
   refine mv ?_
   refine vy (V.add h9 rfl rfl) fun x25_6 h10 => ?_
   refine as_ ?_
   refine dn ?_
   refine CV.ret ?_
   refine PV.blockR ?_
   refine PV.thenR ?_
   refine PV.thenR ?_
   refine PV.blockR ?_
   refine PV.thenR ?_
   cases h10
   exact PV.ret (by simp) Tryz.results148 hS (RS.tmp rfl RS.nil) rfl
  ·
   clear h4 h5 h6 h7
   subst e
   refine CV.skip ?_
   refine PV.blockN ?_
   refine PV.thenN ?_
   refine CV.region ?_
   refine mv ?_
   refine fl hS h8 Rcf.fo197_0 Rcf.one158 fun x11_7 h11 => ?_
   refine as_ ?_
   refine LV.done ?_
   exact pb3 hS h11 ⟨rfl, rfl, rfl, trivial⟩
 ·
  clear h2 h3
  subst e
  refine CV.exit ?_
  refine PV.thenE ?_
  refine PV.thenE ?_
  refine PV.blockE ?_
  refine PV.thenN ?_
  refine sr ?_
  refine as_ ?_
  refine dn ?_
  refine CV.ret ?_
  cases h4
  exact PV.ret (by simp) Tryz.results148 hS (RS.tmp rfl RS.nil) rfl
noncomputable def g88_k1 (ro : List HT) (y0 y1 y80 : AV) (T12 : HT) (n12 : Nat) : R :=
 condK 880051 y80
 (
  faK 880054 y0 5 fun x84_21 =>
  stK 880055 T12 x84_21 y1 fun T13 =>
  .ok (.val (.tup [])) T13 n12
 )
 (
  .ok (.val (.tup [])) T12 n12
 )
noncomputable def g88 (ro : List HT) (a0 a1 a2 a3 : AV) (T : HT) (nx : Nat) : R :=
 callK (g148 ro a3 a2 T nx) fun x13_1 T1 n1 =>
 geK Tryz.prog 3 (.tmp 14) (.const (.int .i64 (.ofNat 0))) 880006 x13_1 (.lit (.int .i64 (.ofNat 0))) fun x15_2 =>
 condK 880007 x15_2
 (
  fldK 880010 T1 ro a0 3 fun x20_3 =>
  optK 880013 (bld58 [(0, a1), (1, (.lit (.int .i64 (.ofNat 1)))), (2, x13_1)]) fun x23_4 =>
  bsK 880014 T1 n1 1 58 3 [(0, x23_4)] fun x24_5 T2 n2 =>
  shrK 880016 T2 x20_3 fun T3 =>
  appK 880015 T3 ro n2 58 3 24 x20_3 x24_5 fun x25_6 T4 n4 =>
  faK 880017 a0 3 fun x27_7 =>
  stK 880018 T4 x27_7 x25_6 fun T5 =>
  .ok (.val (.tup [])) T5 n4
 )
 (
  fldK 880020 T1 ro a0 1 fun x31_8 =>
  callK (g147 ro x31_8 a2 T1 n1) fun x33_9 T6 n6 =>
  geK Tryz.prog 3 (.tmp 34) (.const (.int .i64 (.ofNat 0))) 880025 x33_9 (.lit (.int .i64 (.ofNat 0))) fun x35_10 =>
  condK 880026 x35_10
  (
   fldK 880029 T6 ro a0 3 fun x40_11 =>
   optK 880032 (bld58 [(0, a1), (1, (.lit (.int .i64 (.ofNat 2)))), (2, x33_9)]) fun x43_12 =>
   bsK 880033 T6 n6 1 58 3 [(0, x43_12)] fun x44_13 T7 n7 =>
   shrK 880035 T7 x40_11 fun T8 =>
   appK 880034 T8 ro n7 58 3 24 x40_11 x44_13 fun x45_14 T9 n9 =>
   faK 880036 a0 3 fun x47_15 =>
   stK 880037 T9 x47_15 x45_14 fun T10 =>
   .ok (.val (.tup [])) T10 n9
  )
  (
   fldK 880039 T6 ro a0 2 fun x51_16 =>
   callK (g147 ro x51_16 a2 T6 n6) fun x53_17 T11 n11 =>
   geK Tryz.prog 3 (.tmp 54) (.const (.int .i64 (.ofNat 0))) 880044 x53_17 (.lit (.int .i64 (.ofNat 0))) fun x55_18 =>
   condK 880045 x55_18
   (
    .bad 880046
   )
   (
    fldK 880048 T11 ro a0 5 fun x71_19 =>
    ltK Tryz.prog 3 (.tmp 71) (.const (.int .i64 (.ofNat 0))) 880049 x71_19 (.lit (.int .i64 (.ofNat 0))) fun x72_20 =>
    condK 880056 x72_20
    (
     g88_k1 ro a0 a1 (.lit (.bool true)) T11 n11
    )
    (
     ncK 880060 a0 fun x76_22 =>
     faK 880061 x76_22 5 fun x77_23 =>
     ldK 880062 T11 ro x77_23 fun x78_24 =>
     ltK Tryz.prog 3 (.tmp 74) (.tmp 78) 880063 a1 x78_24 fun x79_25 =>
     g88_k1 ro a0 a1 x79_25 T11 n11
    )
   )
  )
 )
theorem g88_ok (ro : List HT) (a0 a1 a2 a3 : AV) (T : HT) (nx : Nat) : GOk Tryz.prog envE 88 [a0, a1, a2, a3] ro T nx (g88 ro a0 a1 a2 a3 T nx) := by
 refine GOk.of_body Tryz.func88 rfl Tryz.ntmps88 (by kernel_rfl) rfl fun r T' n' h1 w0 base ρ0 its hS hP => ?_
 have X : CtxW envE ρ0 ro r T' n' := trivial
 unfold g88 at h1
 refine CV.seq ?_
 refine sr ?_
 refine mv ?_
 refine mv ?_
 refine LV.call hS h1 (g148_ok _ _ _ _ _ ) hP rfl rfl rfl rfl fun x13_1 T1 n1 h2 ρ its hS => ?_
 refine as_ ?_
 refine dn ?_
 refine sr ?_
 refine mv ?_
 refine vy (V.ge h2 rfl rfl) fun x15_2 h3 => ?_
 refine dn ?_
 refine CV.cond h3 rfl (fun e h4 => ?_) (fun e h4 => ?_)
 ·
  clear h1 h2 h3
  subst e
  refine sr ?_
  refine mv ?_
  refine mv ?_
  refine fl hS h4 Rcf.fo114_3 Rcf.one50 fun x20_3 h5 => ?_
  refine mv ?_
  refine mv ?_
  refine vy (V.bld h5 rfl) fun x23_4 h6 => ?_
  refine LV.bslice hS h6 rfl rfl Rcf.el50 rfl rfl rfl rfl fun x24_5 T2 n2 h7 ρ its hS hdr => ?_
  obtain ⟨T3, its1, h8, hS, hW⟩ := shrK_inv hS h7
  refine LV.world hW ?_
  refine LV.app hS h8 rfl rfl rfl rfl Rcf.el50 rfl rfl rfl fun x25_6 T4 n4 h9 ρ its hS => ?_
  refine fa2 h9 Rcf.fo114_3 fun x27_7 h10 => ?_
  refine LV.st hS h10 rfl rfl rfl Rcf.siz50 rfl rfl fun T5 its h11 hS => ?_
  refine dn ?_
  refine CV.ret ?_
  refine PV.thenR ?_
  cases h11
  exact PV.ret (by simp) Tryz.results88 hS RS.nil rfl
 ·
  clear h1 h2 h3
  subst e
  refine CV.skip ?_
  refine PV.thenN ?_
  refine CV.seq ?_
  refine sr ?_
  refine mv ?_
  refine fl hS h4 Rcf.fo114_1 Rcf.one46 fun x31_8 h12 => ?_
  refine mv ?_
  refine LV.call hS h12 (g147_ok _ _ _ _ _ ) hP rfl rfl rfl rfl fun x33_9 T6 n6 h13 ρ its hS => ?_
  refine as_ ?_
  refine dn ?_
  refine sr ?_
  refine mv ?_
  refine vy (V.ge h13 rfl rfl) fun x35_10 h14 => ?_
  refine dn ?_
  refine CV.cond h14 rfl (fun e h15 => ?_) (fun e h15 => ?_)
  ·
   clear h4 h12 h13 h14
   subst e
   refine sr ?_
   refine mv ?_
   refine mv ?_
   refine fl hS h15 Rcf.fo114_3 Rcf.one50 fun x40_11 h16 => ?_
   refine mv ?_
   refine mv ?_
   refine vy (V.bld h16 rfl) fun x43_12 h17 => ?_
   refine LV.bslice hS h17 rfl rfl Rcf.el50 rfl rfl rfl rfl fun x44_13 T7 n7 h18 ρ its hS hdr => ?_
   obtain ⟨T8, its1, h19, hS, hW⟩ := shrK_inv hS h18
   refine LV.world hW ?_
   refine LV.app hS h19 rfl rfl rfl rfl Rcf.el50 rfl rfl rfl fun x45_14 T9 n9 h20 ρ its hS => ?_
   refine fa2 h20 Rcf.fo114_3 fun x47_15 h21 => ?_
   refine LV.st hS h21 rfl rfl rfl Rcf.siz50 rfl rfl fun T10 its h22 hS => ?_
   refine dn ?_
   refine CV.ret ?_
   refine PV.thenR ?_
   cases h22
   exact PV.ret (by simp) Tryz.results88 hS RS.nil rfl
  ·
   clear h4 h12 h13 h14
   subst e
   refine CV.skip ?_
   refine PV.thenN ?_
   refine CV.seq ?_
   refine sr ?_
   refine mv ?_
   refine fl hS h15 Rcf.fo114_2 Rcf.one46 fun x51_16 h23 => ?_
   refine mv ?_
   refine LV.call hS h23 (g147_ok _ _ _ _ _ ) hP rfl rfl rfl rfl fun x53_17 T11 n11 h24 ρ its hS => ?_
   refine as_ ?_
   refine dn ?_
   refine sr ?_
   refine mv ?_
   refine vy (V.ge h24 rfl rfl) fun x55_18 h25 => ?_
   refine dn ?_
   refine CV.cond h25 rfl (fun e h26 => ?_) (fun e h26 => ?_)
   ·
    clear h15 h23 h24 h25
    subst e
    cases h26
   ·
    clear h15 h23 h24 h25
    subst e
    refine CV.skip ?_
    refine PV.thenN ?_
    refine sr ?_
    refine mv ?_
    refine fl hS h26 Rcf.fo114_5 Rcf.one3 fun x71_19 h27 => ?_
    refine vy (V.lt h27 rfl rfl) fun x72_20 h28 => ?_
    refine mv ?_
    refine ls3 X 0 1 80 [] (g88_k1 ro) 7 ?_ ?_
    ·
     rcases condK_inv h28 with ⟨e, h33⟩ | ⟨e, h33⟩
     ·
      clear h26 h27 h28
      subst e
      refine sk ?_
      refine sk ?_
      refine sk ?_
      refine sk ?_
      refine sk ?_
      refine sk ?_
      refine pu ?_
      exact la3 hS h33 ⟨rfl, rfl, rfl, trivial⟩
     ·
      clear h26 h27 h28
      subst e
      refine mv ?_
      refine mv ?_
      refine vy (V.nc h33 rfl) fun x76_22 h34 => ?_
      refine vy (V.fa h34 rfl Rcf.fo114_5) fun x77_23 h35 => ?_
      refine vy (V.ld hS h35 rfl Rcf.one3) fun x78_24 h36 => ?_
      refine vy (V.lt h36 rfl rfl) fun x79_25 h37 => ?_
      refine pu ?_
      exact la3 hS h37 ⟨rfl, rfl, rfl, trivial⟩
    ·
     intro y0 y1 y80 T12 n12 ρ its hS h29
     unfold g88_k1 at h29
     clear h26 h27 h28
     refine dn ?_
     refine CV.cond h29 rfl (fun e h30 => ?_) (fun e h30 => ?_)
     ·
      clear h29
      subst e
      refine CV.region ?_
      refine mv ?_
      refine mv ?_
      refine fa2 h30 Rcf.fo114_5 fun x84_21 h31 => ?_
      refine LV.st hS h31 rfl rfl rfl Rcf.siz3 rfl rfl fun T13 its h32 hS => ?_
      refine LV.done ?_
      cases h32
      exact PV.ret (by simp) Tryz.results88 hS RS.nil rfl
     ·
      clear h29
      subst e
      refine CV.skip ?_
      cases h30
      exact PV.ret (by simp) Tryz.results88 hS RS.nil rfl
noncomputable def g150 (ro : List HT) (a0 : AV) (T : HT) (nx : Nat) : R :=
 bin0 Tryz.prog .eql 158 (.tmp 3) (.const (.pointer none)) 1500003 a0 (.lit (.pointer none)) fun x4_1 =>
 condK 1500004 x4_1
 (
  .ok (.val (.lit (.int .i64 (.ofNat 0)))) T nx
 )
 (
  ncK 1500007 a0 fun x6_2 =>
  faK 1500008 x6_2 2 fun x7_3 =>
  ldK 1500009 T ro x7_3 fun x8_4 =>
  ncK 1500011 a0 fun x10_5 =>
  faK 1500012 x10_5 1 fun x11_6 =>
  ldK 1500013 T ro x11_6 fun x12_7 =>
  lenSK 1500014 x12_7 fun x13_8 =>
  addK Tryz.prog 3 (.tmp 8) (.tmp 13) 1500015 x8_4 x13_8 fun x14_9 =>
  .ok (.val x14_9) T nx
 )
theorem g150_ok (ro : List HT) (a0 : AV) (T : HT) (nx : Nat) : GOk Tryz.prog envE 150 [a0] ro T nx (g150 ro a0 T nx) := by
 refine GOk.of_body Tryz.func150 rfl Tryz.ntmps150 (by kernel_rfl) rfl fun r T' n' h1 w0 base ρ0 its hS hP => ?_
 have X : CtxW envE ρ0 ro r T' n' := trivial
 unfold g150 at h1
 refine sr ?_
 refine as_ ?_
 refine dn ?_
 refine CV.seq ?_
 refine sr ?_
 refine mv ?_
 refine vy (V.bin0 h1 rfl rfl) fun x4_1 h2 => ?_
 refine dn ?_
 refine CV.cond h2 rfl (fun e h3 => ?_) (fun e h3 => ?_)
 ·
  clear h1 h2
  subst e
  refine sr ?_
  refine as_ ?_
  refine dn ?_
  refine CV.ret ?_
  refine PV.thenR ?_
  cases h3
  exact PV.ret (by simp) Tryz.results150 hS (RS.tmp rfl RS.nil) rfl
 ·
  clear h1 h2
  subst e
  refine CV.skip ?_
  refine PV.thenN ?_
  refine CV.seq ?_
  refine CV.regionM [(0, .anywhere), (1, .anywhere), (2, .anywhere), (3, .held), (4, .anywhere), (5, .anywhere), (6, .anywhere), (7, .held), (8, .held), (9, .held), (10, .held)] rfl (fun c a a' w hd hq => PanicOk.root (P := Tryz.prog) (fn := Tryz.f150) (w0 := w0) (base := base) (E := envE) (ro := ro) (r := r) (T' := T') (n' := n') (ρ0 := ρ0) c a a' w hd hq) (by kernel_rfl) ?_
  refine MV.step0 (i := 0) rfl (VAL.move rfl) rfl rfl rfl ?_
  refine MV.lift0 (i := 1) rfl (V.nc h3 rfl) rfl rfl rfl fun x6_2 h4 => ?_
  refine MV.lift0 (i := 2) rfl (V.fa h4 rfl Rcf.fo197_2) rfl rfl rfl fun x7_3 h5 => ?_
  refine MV.lift1 (i := 3) rfl (fun _ z => z) (V.ld hS h5 rfl Rcf.one3) rfl rfl rfl [] (by kernel_rfl) fun x8_4 h6 => ?_
  refine MV.step0 (i := 4) rfl (VAL.move rfl) rfl rfl rfl ?_
  refine MV.lift0 (i := 5) rfl (V.nc h6 rfl) rfl rfl rfl fun x10_5 h7 => ?_
  refine MV.lift0 (i := 6) rfl (V.fa h7 rfl Rcf.fo197_1) rfl rfl rfl fun x11_6 h8 => ?_
  refine MV.lift1 (i := 7) rfl (fun _ z => z) (V.ld hS h8 rfl Rcf.one46) rfl rfl rfl [3] (by kernel_rfl) fun x12_7 h9 => ?_
  refine MV.lift1 (i := 8) rfl (fun _ z => z) (V.lenS h9 rfl Rcf.ls46) rfl rfl rfl [3] (by kernel_rfl) fun x13_8 h10 => ?_
  refine MV.lift1 (i := 9) rfl (fun _ z => z) (V.add h10 rfl rfl) rfl rfl rfl [] (by kernel_rfl) fun x14_9 h11 => ?_
  refine MV.step1 (i := 10) rfl (fun _ z => z) (VAL.assign rfl) rfl rfl rfl [] (by kernel_rfl) ?_
  refine mdn ?_
  refine CV.ret ?_
  cases h11
  exact PV.ret (by simp) Tryz.results150 hS (RS.tmp rfl RS.nil) rfl
noncomputable def g151_b1 (ro : List HT) (lp1 : AV → AV → AV → AV → AV → HT → Nat → R) (y0 y1 y4 y7 y8 : AV) (T1 : HT) (n1 : Nat) : R :=
 ltK Tryz.prog 3 (.tmp 8) (.tmp 7) 1510006 y8 y7 fun x9_2 =>
 condK 1510007 x9_2
 (
  iaK 1510013 y0 y8 4 fun x14_3 =>
  ldAK 1510014 T1 ro x14_3 4 fun x15_4 =>
  dynK 1510015 y1 fun f p q => callK (scc2 4000 f ro (p ++ ([x15_4] ++ q)) T1 n1) fun x16_5 T2 n2 =>
  condK 1510016 x16_5
  (
   .ok (.val y8) T2 n2
  )
  (
   addK Tryz.prog 3 (.tmp 8) (.const (.int .i64 (.ofNat 1))) 1510019 y8 (.lit (.int .i64 (.ofNat 1))) fun x18_6 =>
   lp1 y0 y1 y4 y7 x18_6 T2 n2
  )
 )
 (
  .ok (.val (.lit (.int .i64 (.negSucc 0)))) T1 n1
 )
noncomputable def g151 (ro : List HT) (a0 a1 : AV) (T : HT) (nx : Nat) : R :=
 lenSK 1510003 a0 fun x7_1 =>
 lpf5 1510005 (g151_b1 ro) 100000 a0 a1 (.lit (.int .i64 (.ofNat 0))) x7_1 (.lit (.int .i64 (.ofNat 0))) T nx
theorem g151_ok (ro : List HT) (a0 a1 : AV) (T : HT) (nx : Nat) : GOk Tryz.prog envE 151 [a0, a1] ro T nx (g151 ro a0 a1 T nx) := by
 refine GOk.of_body Tryz.func151 rfl Tryz.ntmps151 (by kernel_rfl) rfl fun r T' n' h1 w0 base ρ0 its hS hP => ?_
 have X : CtxW envE ρ0 ro r T' n' := trivial
 unfold g151 at h1
 refine sr ?_
 refine as_ ?_
 refine dn ?_
 refine CV.seq ?_
 refine sr ?_
 refine mv ?_
 refine vy (V.lenS h1 rfl Rcf.ls51) fun x7_1 h2 => ?_
 refine mv ?_
 refine dn ?_
 refine CV.block ?_
 refine cl5 X 0 1 4 7 8 [] hS h2 ⟨rfl, rfl, rfl, rfl, rfl, trivial⟩ ?_
 intro f1 y0 y1 y4 y7 y8 T1 n1 ρ its hS h3
 unfold g151_b1 at h3
 clear h1 h2
 refine sr ?_
 refine vy (V.lt h3 rfl rfl) fun x9_2 h4 => ?_
 refine dn ?_
 refine CV.seq ?_
 refine CV.cond h4 rfl (fun e h5 => ?_) (fun e h5 => ?_)
 ·
  clear h3 h4
  subst e
  refine CV.skip ?_
  refine PV.thenN ?_
  refine CV.seq ?_
  refine CV.block ?_
  refine sr ?_
  refine mv ?_
  refine as_ ?_
  refine dn ?_
  refine sr ?_
  refine mv ?_
  refine mv ?_
  refine mv ?_
  refine vy (V.ia h5 rfl rfl Rcf.el51) fun x14_3 h6 => ?_
  refine vy (V.ldA hS h6 rfl Rcf.agg56) fun x15_4 h7 => ?_
  refine LV.callD (G := fun f gs => scc2 4000 f ro gs T1 n1) (qs := [x15_4]) hS h7 (fun f gs => scc2_ok _ _ _ _ _ _) hP rfl rfl rfl rfl rfl rfl rfl fun x16_5 T2 n2 h8 ρ its hS => ?_
  refine dn ?_
  refine CV.cond h8 rfl (fun e h9 => ?_) (fun e h9 => ?_)
  ·
   clear h5 h6 h7 h8
   subst e
   refine sr ?_
   refine mv ?_
   refine as_ ?_
   refine dn ?_
   refine CV.ret ?_
   refine PV.blockR ?_
   refine PV.thenR ?_
   refine PV.thenR ?_
   refine PV.blockR ?_
   refine PV.thenR ?_
   cases h9
   exact PV.ret (by simp) Tryz.results151 hS (RS.tmp rfl RS.nil) rfl
  ·
   clear h5 h6 h7 h8
   subst e
   refine CV.skip ?_
   refine PV.blockN ?_
   refine PV.thenN ?_
   refine CV.region ?_
   refine vy (V.add h9 rfl rfl) fun x18_6 h10 => ?_
   refine mv ?_
   refine LV.done ?_
   exact pb5 hS h10 ⟨rfl, rfl, rfl, rfl, rfl, trivial⟩
 ·
  clear h3 h4
  subst e
  refine CV.exit ?_
  refine PV.thenE ?_
  refine PV.thenE ?_
  refine PV.blockE ?_
  refine PV.thenN ?_
  refine sr ?_
  refine as_ ?_
  refine dn ?_
  refine CV.ret ?_
  cases h5
  exact PV.ret (by simp) Tryz.results151 hS (RS.tmp rfl RS.nil) rfl
noncomputable def g58_b1 (ih : FuncId → List HT → List AV → HT → Nat → R) (ro : List HT) (lp1 : AV → AV → AV → AV → AV → HT → Nat → R) (y0 y2 y19 y20 y21 : AV) (T6 : HT) (n6 : Nat) : R :=
 ltK Tryz.prog 3 (.tmp 21) (.tmp 20) 580042 y21 y20 fun x22_21 =>
 condK 580043 x22_21
 (
  iaK 580044 y19 y21 1 fun x23_22 =>
  ldK 580045 T6 ro x23_22 fun x24_23 =>
  callK (ih 58 ro [y0, x24_23, y2] T6 n6) fun x28_24 T7 n7 =>
  addK Tryz.prog 3 (.tmp 21) (.const (.int .i64 (.ofNat 1))) 580051 y21 (.lit (.int .i64 (.ofNat 1))) fun x29_25 =>
  lp1 y0 y2 y19 y20 x29_25 T7 n7
 )
 (
  .ok (.val (.tup [])) T6 n6
 )
noncomputable def g58 (ih : FuncId → List HT → List AV → HT → Nat → R) (ro : List HT) (a0 a1 a2 : AV) (T : HT) (nx : Nat) : R :=
 fldK 580002 T ro a0 0 fun x12_1 =>
 iaK 580004 x12_1 a1 5 fun x14_2 =>
 ldAK 580005 T ro x14_2 5 fun x15_3 =>
 newK T nx (.obj [.lit (.int .i64 0), .lit (.int .i64 0), .lit (.int .i64 0), .lit (.string ⟨#[]⟩), .lit (.slice none 0 0)] 32) fun x6_4 T1 n1 =>
 stAK 580007 T1 x6_4 x15_3 5 fun T2 =>
 faK 580008 x6_4 0 fun x16_5 =>
 ldK 580009 T2 ro x16_5 fun x17_6 =>
 eqK Tryz.prog 3 (.tmp 17) (.const (.int .i64 (.ofNat 6))) 580010 x17_6 (.lit (.int .i64 (.ofNat 6))) fun x31_7 =>
 condK 580012 x31_7
 (
  faK 580015 x6_4 3 fun x34_8 =>
  ldK 580016 T2 ro x34_8 fun x35_9 =>
  callK (g88 ro a0 a1 x35_9 a2 T2 n1) fun x37_10 T3 n3 =>
  .ok (.val (.tup [])) T3 n3
 )
 (
  eqK Tryz.prog 3 (.tmp 17) (.const (.int .i64 (.ofNat 34))) 580019 x17_6 (.lit (.int .i64 (.ofNat 34))) fun x39_11 =>
  condK 580021 x39_11
  (
   ldAK 580023 T2 ro x6_4 5 fun x41_12 =>
   callK (ih 89 ro [a0, x41_12, a2] T2 n1) fun x43_13 T4 n4 =>
   .ok (.val (.tup [])) T4 n4
  )
  (
   eqK Tryz.prog 3 (.tmp 17) (.const (.int .i64 (.ofNat 45))) 580026 x17_6 (.lit (.int .i64 (.ofNat 45))) fun x45_14 =>
   condK 580028 x45_14
   (
    ldAK 580031 T2 ro x6_4 5 fun x48_15 =>
    callK (ih 90 ro [a0, a1, x48_15, a2] T2 n1) fun x50_16 T5 n5 =>
    .ok (.val (.tup [])) T5 n5
   )
   (
    eqK Tryz.prog 3 (.tmp 17) (.const (.int .i64 (.ofNat 42))) 580034 x17_6 (.lit (.int .i64 (.ofNat 42))) fun x52_17 =>
    condK 580036 x52_17
    (
     .ok (.val (.tup [])) T2 n1
    )
    (
     faK 580037 x6_4 4 fun x18_18 =>
     ldK 580038 T2 ro x18_18 fun x19_19 =>
     lenSK 580039 x19_19 fun x20_20 =>
     lpf5 580041 (g58_b1 ih ro) 100000 a0 a2 x19_19 x20_20 (.lit (.int .i64 (.ofNat 0))) T2 n1
    )
   )
  )
 )
theorem g58_ok (ih : FuncId → List HT → List AV → HT → Nat → R) (hI : ∀ f ro args T nx, GOk Tryz.prog envE f args ro T nx (ih f ro args T nx)) (ro : List HT) (a0 a1 a2 : AV) (T : HT) (nx : Nat) : GOk Tryz.prog envE 58 [a0, a1, a2] ro T nx (g58 ih ro a0 a1 a2 T nx) := by
 refine GOk.of_body Tryz.func58 rfl Tryz.ntmps58 (by kernel_rfl) rfl fun r T' n' h1 w0 base ρ0 its hS hP => ?_
 have X : CtxW envE ρ0 ro r T' n' := trivial
 unfold g58 at h1
 refine sr ?_
 refine mv ?_
 refine fl hS h1 Rcf.fo114_0 Rcf.one23 fun x12_1 h2 => ?_
 refine mv ?_
 refine vy (V.ia h2 rfl rfl Rcf.el23) fun x14_2 h3 => ?_
 refine vy (V.ldA hS h3 rfl Rcf.agg32) fun x15_3 h4 => ?_
 refine LV.alloc hS h4 rfl Rcf.zr32 rfl rfl rfl fun x6_4 T1 n1 h5 ρ its hS hdr => ?_
 refine LV.stA hS h5 rfl rfl rfl Rcf.agg32 rfl rfl rfl fun T2 its h6 hS => ?_
 refine dn ?_
 refine sr ?_
 refine vy (V.fa h6 rfl Rcf.fo32_0) fun x16_5 h7 => ?_
 refine vy (V.ld hS h7 rfl Rcf.one3) fun x17_6 h8 => ?_
 refine dn ?_
 refine CV.block ?_
 refine sr ?_
 refine vy (V.eq h8 rfl rfl) fun x31_7 h9 => ?_
 refine as_ ?_
 refine dn ?_
 refine CV.cond h9 rfl (fun e h10 => ?_) (fun e h10 => ?_)
 ·
  clear h1 h2 h3 h4 h5 h6 h7 h8 h9
  subst e
  refine CV.region ?_
  refine mv ?_
  refine mv ?_
  refine vy (V.fa h10 rfl Rcf.fo32_3) fun x34_8 h11 => ?_
  refine vy (V.ld hS h11 rfl Rcf.one9) fun x35_9 h12 => ?_
  refine mv ?_
  refine LV.call hS h12 (g88_ok _ _ _ _ _ _ _ ) hP rfl rfl rfl rfl fun x37_10 T3 n3 h13 ρ its hS => ?_
  refine LV.done ?_
  refine PV.blockN ?_
  cases h13
  exact PV.ret (by simp) Tryz.results58 hS RS.nil rfl
 ·
  clear h1 h2 h3 h4 h5 h6 h7 h8 h9
  subst e
  refine sr ?_
  refine vy (V.eq h10 rfl rfl) fun x39_11 h14 => ?_
  refine as_ ?_
  refine dn ?_
  refine CV.cond h14 rfl (fun e h15 => ?_) (fun e h15 => ?_)
  ·
   clear h10 h14
   subst e
   refine CV.region ?_
   refine mv ?_
   refine vy (V.ldA hS h15 rfl Rcf.agg32) fun x41_12 h16 => ?_
   refine mv ?_
   refine LV.call hS h16 (hI _ _ _ _ _) hP rfl rfl rfl rfl fun x43_13 T4 n4 h17 ρ its hS => ?_
   refine LV.done ?_
   refine PV.blockN ?_
   cases h17
   exact PV.ret (by simp) Tryz.results58 hS RS.nil rfl
  ·
   clear h10 h14
   subst e
   refine sr ?_
   refine vy (V.eq h15 rfl rfl) fun x45_14 h18 => ?_
   refine as_ ?_
   refine dn ?_
   refine CV.cond h18 rfl (fun e h19 => ?_) (fun e h19 => ?_)
   ·
    clear h15 h18
    subst e
    refine CV.region ?_
    refine mv ?_
    refine mv ?_
    refine vy (V.ldA hS h19 rfl Rcf.agg32) fun x48_15 h20 => ?_
    refine mv ?_
    refine LV.call hS h20 (hI _ _ _ _ _) hP rfl rfl rfl rfl fun x50_16 T5 n5 h21 ρ its hS => ?_
    refine LV.done ?_
    refine PV.blockN ?_
    cases h21
    exact PV.ret (by simp) Tryz.results58 hS RS.nil rfl
   ·
    clear h15 h18
    subst e
    refine sr ?_
    refine vy (V.eq h19 rfl rfl) fun x52_17 h22 => ?_
    refine as_ ?_
    refine dn ?_
    refine CV.cond h22 rfl (fun e h23 => ?_) (fun e h23 => ?_)
    ·
     clear h19 h22
     subst e
     refine CV.skip ?_
     refine PV.blockN ?_
     cases h23
     exact PV.ret (by simp) Tryz.results58 hS RS.nil rfl
    ·
     clear h19 h22
     subst e
     refine sr ?_
     refine vy (V.fa h23 rfl Rcf.fo32_4) fun x18_18 h24 => ?_
     refine vy (V.ld hS h24 rfl Rcf.one30) fun x19_19 h25 => ?_
     refine vy (V.lenS h25 rfl Rcf.ls30) fun x20_20 h26 => ?_
     refine mv ?_
     refine dn ?_
     refine CV.block ?_
     refine cl5 X 0 2 19 20 21 [] hS h26 ⟨rfl, rfl, rfl, rfl, rfl, trivial⟩ ?_
     intro f1 y0 y2 y19 y20 y21 T6 n6 ρ its hS h27
     unfold g58_b1 at h27
     clear h23 h24 h25 h26
     refine sr ?_
     refine vy (V.lt h27 rfl rfl) fun x22_21 h28 => ?_
     refine dn ?_
     refine CV.seq ?_
     refine CV.cond h28 rfl (fun e h29 => ?_) (fun e h29 => ?_)
     ·
      clear h27 h28
      subst e
      refine CV.skip ?_
      refine PV.thenN ?_
      refine CV.seq ?_
      refine CV.block ?_
      refine sr ?_
      refine vy (V.ia h29 rfl rfl Rcf.el30) fun x23_22 h30 => ?_
      refine vy (V.ld hS h30 rfl Rcf.one3) fun x24_23 h31 => ?_
      refine as_ ?_
      refine dn ?_
      refine CV.region ?_
      refine mv ?_
      refine mv ?_
      refine mv ?_
      refine LV.call hS h31 (hI _ _ _ _ _) hP rfl rfl rfl rfl fun x28_24 T7 n7 h32 ρ its hS => ?_
      refine LV.done ?_
      refine PV.blockN ?_
      refine PV.thenN ?_
      refine CV.region ?_
      refine vy (V.add h32 rfl rfl) fun x29_25 h33 => ?_
      refine mv ?_
      refine LV.done ?_
      exact pb5 hS h33 ⟨rfl, rfl, rfl, rfl, rfl, trivial⟩
     ·
      clear h27 h28
      subst e
      refine CV.exit ?_
      refine PV.thenE ?_
      refine PV.thenE ?_
      refine PV.blockE ?_
      refine PV.blockN ?_
      cases h29
      exact PV.ret (by simp) Tryz.results58 hS RS.nil rfl
noncomputable def g89_k2 (ih : FuncId → List HT → List AV → HT → Nat → R) (ro : List HT) (lp1 : AV → AV → AV → AV → AV → AV → HT → Nat → R) (y0 y4 y7 y33 y34 y35 : AV) (T9 : HT) (n9 : Nat) : R :=
 addK Tryz.prog 3 (.tmp 35) (.const (.int .i64 (.ofNat 1))) 890030 y35 (.lit (.int .i64 (.ofNat 1))) fun x58_21 =>
 lp1 y0 y4 y7 y33 y34 x58_21 T9 n9
noncomputable def g89_k4 (ih : FuncId → List HT → List AV → HT → Nat → R) (ro : List HT) (lp3 : AV → AV → AV → AV → AV → HT → Nat → R) (y0 y7 y79 y80 y81 : AV) (T20 : HT) (n20 : Nat) : R :=
 addK Tryz.prog 3 (.tmp 81) (.const (.int .i64 (.ofNat 1))) 890087 y81 (.lit (.int .i64 (.ofNat 1))) fun x92_59 =>
 lp3 y0 y7 y79 y80 x92_59 T20 n20
noncomputable def g89_b3 (ih : FuncId → List HT → List AV → HT → Nat → R) (ro : List HT) (lp3 : AV → AV → AV → AV → AV → HT → Nat → R) (y0 y7 y79 y80 y81 : AV) (T19 : HT) (n19 : Nat) : R :=
 ltK Tryz.prog 3 (.tmp 81) (.tmp 80) 890085 y81 y80 fun x82_58 =>
 condK 890086 x82_58
 (
  iaK 890090 y79 y81 1 fun x84_60 =>
  ldK 890091 T19 ro x84_60 fun x85_61 =>
  neK Tryz.prog 3 (.tmp 86) (.const (.int .i64 (.ofNat 2))) 890095 y81 (.lit (.int .i64 (.ofNat 2))) fun x87_62 =>
  condK 890096 x87_62
  (
   callK (ih 58 ro [y0, x85_61, y7] T19 n19) fun x91_63 T21 n21 =>
   g89_k4 ih ro lp3 y0 y7 y79 y80 y81 T21 n21
  )
  (
   g89_k4 ih ro lp3 y0 y7 y79 y80 y81 T19 n19
  )
 )
 (
  .ok (.val (.tup [])) T19 n19
 )
noncomputable def g89_b1 (ih : FuncId → List HT → List AV → HT → Nat → R) (ro : List HT) (lp1 : AV → AV → AV → AV → AV → AV → HT → Nat → R) (y0 y4 y7 y33 y34 y35 : AV) (T8 : HT) (n8 : Nat) : R :=
 ltK Tryz.prog 3 (.tmp 35) (.tmp 34) 890028 y35 y34 fun x36_20 =>
 condK 890029 x36_20
 (
  iaK 890032 y33 y35 2 fun x37_22 =>
  ldAK 890033 T8 ro x37_22 2 fun x38_23 =>
  newK T8 n8 (.obj [.lit (.int .i64 0), .lit (.string ⟨#[]⟩)] 155) fun x9_24 T10 n10 =>
  stAK 890035 T10 x9_24 x38_23 2 fun T11 =>
  ncK 890037 y7 fun x40_25 =>
  faK 890038 x40_25 1 fun x41_26 =>
  ldK 890039 T11 ro x41_26 fun x42_27 =>
  faK 890040 x9_24 1 fun x43_28 =>
  ldK 890041 T11 ro x43_28 fun x44_29 =>
  callK (g87 ro x42_27 x44_29 T11 n10) fun x45_30 T12 n12 =>
  notK 890043 x45_30 fun x46_31 =>
  condK 890044 x46_31
  (
   ncK 890047 y7 fun x49_32 =>
   faK 890048 x49_32 1 fun x50_33 =>
   ldK 890049 T12 ro x50_33 fun x51_34 =>
   faK 890050 x9_24 1 fun x52_35 =>
   ldK 890051 T12 ro x52_35 fun x53_36 =>
   bsK 890052 T12 n12 1 9 1 [(0, x53_36)] fun x54_37 T13 n13 =>
   shrK 890054 T13 x51_34 fun T14 =>
   appK 890053 T14 ro n13 9 1 16 x51_34 x54_37 fun x55_38 T15 n15 =>
   ncK 890055 y7 fun x56_39 =>
   faK 890056 x56_39 1 fun x57_40 =>
   stK 890057 T15 x57_40 x55_38 fun T16 =>
   g89_k2 ih ro lp1 y0 y4 y7 y33 y34 y35 T16 n15
  )
  (
   g89_k2 ih ro lp1 y0 y4 y7 y33 y34 y35 T12 n12
  )
 )
 (
  ncK 890059 y0 fun x60_41 =>
  faK 890060 x60_41 4 fun x61_42 =>
  ldK 890061 T8 ro x61_42 fun x62_43 =>
  ncK 890063 y0 fun x64_44 =>
  faK 890064 x64_44 6 fun x65_45 =>
  ldK 890065 T8 ro x65_45 fun x66_46 =>
  iaK 890066 x62_43 x66_46 4 fun x67_47 =>
  ncK 890070 x67_47 fun x70_48 =>
  faK 890071 x70_48 2 fun x71_49 =>
  ldQK 890072 T8 ro [x67_47] x71_49 fun x72_50 =>
  callK (g150 ro y7 T8 n8) fun x74_51 T17 n17 =>
  keepK 890075 T8 T17 [x67_47] <|
  optK 890076 (mmV x72_50 x74_51 true) fun x75_52 =>
  ncK 890077 x67_47 fun x76_53 =>
  faK 890078 x76_53 2 fun x77_54 =>
  stK 890079 T17 x77_54 x75_52 fun T18 =>
  faK 890080 y4 4 fun x78_55 =>
  ldK 890081 T18 ro x78_55 fun x79_56 =>
  lenSK 890082 x79_56 fun x80_57 =>
  lpf5 890084 (g89_b3 ih ro) 100000 y0 y7 x79_56 x80_57 (.lit (.int .i64 (.ofNat 0))) T18 n17
 )
noncomputable def g89 (ih : FuncId → List HT → List AV → HT → Nat → R) (ro : List HT) (a0 a1 a2 : AV) (T : HT) (nx : Nat) : R :=
 boxK 890001 T nx a1 32 fun x4_1 T1 n1 =>
 faK 890003 x4_1 4 fun x14_2 =>
 ldK 890004 T1 ro x14_2 fun x15_3 =>
 iaK 890005 x15_3 (.lit (.int .i64 (.ofNat 2))) 1 fun x16_4 =>
 ldK 890006 T1 ro x16_4 fun x17_5 =>
 callK (ih 58 ro [a0, x17_5, a2] T1 n1) fun x19_6 T2 n2 =>
 newK T2 n2 (.obj [.lit (.slice none 0 0)] 150) fun x6_7 T3 n3 =>
 faK 890011 x4_1 4 fun x21_8 =>
 ldK 890012 T3 ro x21_8 fun x22_9 =>
 iaK 890013 x22_9 (.lit (.int .i64 (.ofNat 1))) 1 fun x23_10 =>
 ldK 890014 T3 ro x23_10 fun x24_11 =>
 callK (g145 ro a0 x24_11 x6_7 T3 n3) fun x25_12 T4 n4 =>
 ldK 890016 T4 ro x6_7 fun x26_13 =>
 callK (g85 ro x26_13 (.lit (.func (.func 149) #[] #[])) T4 n4) fun x27_14 T5 n5 =>
 callK (g150 ro a2 T5 n5) fun x30_15 T6 n6 =>
 optK 890021 (bld197 [(0, a2), (2, x30_15)]) fun x31_16 =>
 boxK 890022 T6 n6 x31_16 197 fun x32_17 T7 n7 =>
 ldK 890024 T7 ro x6_7 fun x33_18 =>
 lenSK 890025 x33_18 fun x34_19 =>
 lpf6 890027 (g89_b1 ih ro) 100000 a0 x4_1 x32_17 x33_18 x34_19 (.lit (.int .i64 (.ofNat 0))) T7 n7
theorem g89_ok (ih : FuncId → List HT → List AV → HT → Nat → R) (hI : ∀ f ro args T nx, GOk Tryz.prog envE f args ro T nx (ih f ro args T nx)) (ro : List HT) (a0 a1 a2 : AV) (T : HT) (nx : Nat) : GOk Tryz.prog envE 89 [a0, a1, a2] ro T nx (g89 ih ro a0 a1 a2 T nx) := by
 refine GOk.of_body Tryz.func89 rfl Tryz.ntmps89 (by kernel_rfl) rfl fun r T' n' h1 w0 base ρ0 its hS hP => ?_
 have X : CtxW envE ρ0 ro r T' n' := trivial
 unfold g89 at h1
 refine sr ?_
 refine LV.box hS h1 rfl rfl rfl rfl rfl fun x4_1 T1 n1 h2 ρ its hS hdr => ?_
 refine dn ?_
 refine sr ?_
 refine mv ?_
 refine vy (V.fa h2 rfl Rcf.fo32_4) fun x14_2 h3 => ?_
 refine vy (V.ld hS h3 rfl Rcf.one30) fun x15_3 h4 => ?_
 refine vy (V.ia h4 rfl rfl Rcf.el30) fun x16_4 h5 => ?_
 refine vy (V.ld hS h5 rfl Rcf.one3) fun x17_5 h6 => ?_
 refine mv ?_
 refine LV.call hS h6 (hI _ _ _ _ _) hP rfl rfl rfl rfl fun x19_6 T2 n2 h7 ρ its hS => ?_
 refine dn ?_
 refine sr ?_
 refine LV.alloc hS h7 rfl Rcf.zr150 rfl rfl rfl fun x6_7 T3 n3 h8 ρ its hS hdr => ?_
 refine dn ?_
 refine sr ?_
 refine mv ?_
 refine vy (V.fa h8 rfl Rcf.fo32_4) fun x21_8 h9 => ?_
 refine vy (V.ld hS h9 rfl Rcf.one30) fun x22_9 h10 => ?_
 refine vy (V.ia h10 rfl rfl Rcf.el30) fun x23_10 h11 => ?_
 refine vy (V.ld hS h11 rfl Rcf.one3) fun x24_11 h12 => ?_
 refine LV.call hS h12 (g145_ok _ _ _ _ _ _ ) hP rfl rfl rfl rfl fun x25_12 T4 n4 h13 ρ its hS => ?_
 refine dn ?_
 refine sr ?_
 refine vy (V.ld hS h13 rfl Rcf.one150) fun x26_13 h14 => ?_
 refine LV.call hS h14 (g85_ok _ _ _ _ _ ) hP rfl rfl rfl rfl fun x27_14 T5 n5 h15 ρ its hS => ?_
 refine dn ?_
 refine sr ?_
 refine mv ?_
 refine mv ?_
 refine LV.call hS h15 (g150_ok _ _ _ _ ) hP rfl rfl rfl rfl fun x30_15 T6 n6 h16 ρ its hS => ?_
 refine vy (V.bld h16 rfl) fun x31_16 h17 => ?_
 refine LV.box hS h17 rfl rfl rfl rfl rfl fun x32_17 T7 n7 h18 ρ its hS hdr => ?_
 refine as_ ?_
 refine dn ?_
 refine CV.seq ?_
 refine sr ?_
 refine vy (V.ld hS h18 rfl Rcf.one150) fun x33_18 h19 => ?_
 refine vy (V.lenS h19 rfl Rcf.ls150) fun x34_19 h20 => ?_
 refine mv ?_
 refine dn ?_
 refine CV.block ?_
 refine cl6 X 0 4 7 33 34 35 [] hS h20 ⟨rfl, rfl, rfl, rfl, rfl, rfl, trivial⟩ ?_
 intro f1 y0 y4 y7 y33 y34 y35 T8 n8 ρ its hS h21
 unfold g89_b1 at h21
 clear h1 h2 h3 h4 h5 h6 h7 h8 h9 h10 h11 h12 h13 h14 h15 h16 h17 h18 h19 h20
 refine sr ?_
 refine vy (V.lt h21 rfl rfl) fun x36_20 h22 => ?_
 refine dn ?_
 refine CV.seq ?_
 refine CV.cond h22 rfl (fun e h23 => ?_) (fun e h23 => ?_)
 ·
  clear h21 h22
  subst e
  refine CV.skip ?_
  refine PV.thenN ?_
  refine cs6 X 0 4 7 33 34 35 [] (g89_k2 ih ro (lpf6 890027 (g89_b1 ih ro) f1)) ?_ ?_
  ·
   refine CV.block ?_
   refine sr ?_
   refine vy (V.ia h23 rfl rfl Rcf.el150) fun x37_22 h26 => ?_
   refine vy (V.ldA hS h26 rfl Rcf.agg155) fun x38_23 h27 => ?_
   refine LV.alloc hS h27 rfl Rcf.zr155 rfl rfl rfl fun x9_24 T10 n10 h28 ρ its hS hdr => ?_
   refine LV.stA hS h28 rfl rfl rfl Rcf.agg155 rfl rfl rfl fun T11 its h29 hS => ?_
   refine dn ?_
   refine CV.seq ?_
   refine CV.regionM [(0, .anywhere), (1, .anywhere), (2, .anywhere), (3, .held), (4, .anywhere), (5, .held), (6, .alone), (7, .alone)] rfl (fun c a a' w hd hq => PanicOk.root (P := Tryz.prog) (fn := Tryz.f89) (w0 := w0) (base := base) (E := envE) (ro := ro) (r := r) (T' := T') (n' := n') (ρ0 := ρ0) c a a' w hd hq) (by kernel_rfl) ?_
   refine MV.step0 (i := 0) rfl (VAL.move rfl) rfl rfl rfl ?_
   refine MV.lift0 (i := 1) rfl (V.nc h29 rfl) rfl rfl rfl fun x40_25 h30 => ?_
   refine MV.lift0 (i := 2) rfl (V.fa h30 rfl Rcf.fo197_1) rfl rfl rfl fun x41_26 h31 => ?_
   refine MV.lift1 (i := 3) rfl (fun _ z => z) (V.ld hS h31 rfl Rcf.one46) rfl rfl rfl [] (by kernel_rfl) fun x42_27 h32 => ?_
   refine MV.lift0 (i := 4) rfl (V.fa h32 rfl Rcf.fo155_1) rfl rfl rfl fun x43_28 h33 => ?_
   refine MV.lift1 (i := 5) rfl (fun _ z => z) (V.ld hS h33 rfl Rcf.one9) rfl rfl rfl [3] (by kernel_rfl) fun x44_29 h34 => ?_
   refine MV.force (i := 6) rfl ?_
   refine LV.call hS h34 (g87_ok _ _ _ _ _ ) hP rfl rfl rfl rfl fun x45_30 T12 n12 h35 ρ its hS => ?_
   refine LV.nextM [] (by kernel_rfl) (fun z => absurd rfl z) ?_
   refine MV.force (i := 7) rfl ?_
   refine vy (V.not h35 rfl) fun x46_31 h36 => ?_
   refine LV.nextM [] (by kernel_rfl) (fun z => absurd rfl z) ?_
   refine mdn ?_
   refine CV.cond h36 rfl (fun e h37 => ?_) (fun e h37 => ?_)
   ·
    clear h23 h26 h27 h28 h29 h30 h31 h32 h33 h34 h35 h36
    subst e
    refine CV.regionM [(0, .anywhere), (1, .anywhere), (2, .anywhere), (3, .anywhere), (4, .held), (5, .anywhere), (6, .held), (7, .alone), (8, .alone), (9, .alone), (10, .alone), (11, .alone)] rfl (fun c a a' w hd hq => PanicOk.root (P := Tryz.prog) (fn := Tryz.f89) (w0 := w0) (base := base) (E := envE) (ro := ro) (r := r) (T' := T') (n' := n') (ρ0 := ρ0) c a a' w hd hq) (by kernel_rfl) ?_
    refine MV.step0 (i := 0) rfl (VAL.move rfl) rfl rfl rfl ?_
    refine MV.step0 (i := 1) rfl (VAL.move rfl) rfl rfl rfl ?_
    refine MV.lift0 (i := 2) rfl (V.nc h37 rfl) rfl rfl rfl fun x49_32 h38 => ?_
    refine MV.lift0 (i := 3) rfl (V.fa h38 rfl Rcf.fo197_1) rfl rfl rfl fun x50_33 h39 => ?_
    refine MV.lift1 (i := 4) rfl (fun _ z => z) (V.ld hS h39 rfl Rcf.one46) rfl rfl rfl [] (by kernel_rfl) fun x51_34 h40 => ?_
    refine MV.lift0 (i := 5) rfl (V.fa h40 rfl Rcf.fo155_1) rfl rfl rfl fun x52_35 h41 => ?_
    refine MV.lift1 (i := 6) rfl (fun _ z => z) (V.ld hS h41 rfl Rcf.one9) rfl rfl rfl [4] (by kernel_rfl) fun x53_36 h42 => ?_
    refine MV.force (i := 7) rfl ?_
    refine LV.bslice hS h42 rfl rfl Rcf.el46 rfl rfl rfl rfl fun x54_37 T13 n13 h43 ρ its hS hdr => ?_
    refine LV.nextM [4] (by kernel_rfl) (fun _ => hdr) ?_
    refine MV.force (i := 8) rfl ?_
    obtain ⟨T14, its1, h44, hS, hW⟩ := shrK_inv hS h43
    refine LV.world hW ?_
    refine LV.app hS h44 rfl rfl rfl rfl Rcf.el46 rfl rfl rfl fun x55_38 T15 n15 h45 ρ its hS => ?_
    refine LV.nextM [] (by kernel_rfl) (fun z => absurd rfl z) ?_
    refine MV.force (i := 9) rfl ?_
    refine vy (V.nc h45 rfl) fun x56_39 h46 => ?_
    refine LV.nextM [] (by kernel_rfl) (fun z => absurd rfl z) ?_
    refine MV.force (i := 10) rfl ?_
    refine vy (V.fa h46 rfl Rcf.fo197_1) fun x57_40 h47 => ?_
    refine LV.nextM [] (by kernel_rfl) (fun z => absurd rfl z) ?_
    refine MV.force (i := 11) rfl ?_
    refine LV.st hS h47 rfl rfl rfl Rcf.siz46 rfl rfl fun T16 its h48 hS => ?_
    refine LV.nextM [] (by kernel_rfl) (fun z => absurd rfl z) ?_
    refine MV.done ?_
    refine PV.blockN ?_
    exact pa6 hS h48 ⟨rfl, rfl, rfl, rfl, rfl, rfl, trivial⟩
   ·
    clear h23 h26 h27 h28 h29 h30 h31 h32 h33 h34 h35 h36
    subst e
    refine CV.skip ?_
    refine PV.blockN ?_
    exact pa6 hS h37 ⟨rfl, rfl, rfl, rfl, rfl, rfl, trivial⟩
  ·
   intro y0 y4 y7 y33 y34 y35 T9 n9 ρ its hS h24
   unfold g89_k2 at h24
   clear h23
   refine CV.region ?_
   refine vy (V.add h24 rfl rfl) fun x58_21 h25 => ?_
   refine mv ?_
   refine LV.done ?_
   exact pb6 hS h25 ⟨rfl, rfl, rfl, rfl, rfl, rfl, trivial⟩
 ·
  clear h21 h22
  subst e
  refine CV.exit ?_
  refine PV.thenE ?_
  refine PV.thenE ?_
  refine PV.blockE ?_
  refine PV.thenN ?_
  refine CV.seq ?_
  refine CV.regionM [(0, .anywhere), (1, .anywhere), (2, .anywhere), (3, .held), (4, .anywhere), (5, .anywhere), (6, .anywhere), (7, .held), (8, .held), (9, .held)] rfl (fun c a a' w hd hq => PanicOk.root (P := Tryz.prog) (fn := Tryz.f89) (w0 := w0) (base := base) (E := envE) (ro := ro) (r := r) (T' := T') (n' := n') (ρ0 := ρ0) c a a' w hd hq) (by kernel_rfl) ?_
  refine MV.step0 (i := 0) rfl (VAL.move rfl) rfl rfl rfl ?_
  refine MV.lift0 (i := 1) rfl (V.nc h23 rfl) rfl rfl rfl fun x60_41 h49 => ?_
  refine MV.lift0 (i := 2) rfl (V.fa h49 rfl Rcf.fo114_4) rfl rfl rfl fun x61_42 h50 => ?_
  refine MV.lift1 (i := 3) rfl (fun _ z => z) (V.ld hS h50 rfl Rcf.one51) rfl rfl rfl [] (by kernel_rfl) fun x62_43 h51 => ?_
  refine MV.step0 (i := 4) rfl (VAL.move rfl) rfl rfl rfl ?_
  refine MV.lift0 (i := 5) rfl (V.nc h51 rfl) rfl rfl rfl fun x64_44 h52 => ?_
  refine MV.lift0 (i := 6) rfl (V.fa h52 rfl Rcf.fo114_6) rfl rfl rfl fun x65_45 h53 => ?_
  refine MV.lift1 (i := 7) rfl (fun _ z => z) (V.ld hS h53 rfl Rcf.one3) rfl rfl rfl [3] (by kernel_rfl) fun x66_46 h54 => ?_
  refine MV.lift1 (i := 8) rfl (fun _ z => z) (V.ia h54 rfl rfl Rcf.el51) rfl rfl rfl [] (by kernel_rfl) fun x67_47 h55 => ?_
  refine MV.step1 (i := 9) rfl (fun _ z => z) (VAL.assign rfl) rfl rfl rfl [] (by kernel_rfl) ?_
  refine mdn ?_
  refine CV.seq ?_
  refine CV.regionMS hS [x67_47] [(0, .anywhere), (1, .anywhere), (2, .anywhere), (3, .anywhere), (4, .held), (5, .anywhere), (6, .alone), (7, .alone), (8, .alone), (9, .alone), (10, .alone)] rfl (fun c a a' w hd hq => PanicOk.root (P := Tryz.prog) (fn := Tryz.f89) (w0 := w0) (base := base) (E := envE) (ro := ro) (r := r) (T' := T') (n' := n') (ρ0 := ρ0) c a a' w hd hq) (by kernel_rfl) ?_
  have hK := KeepS.start [x67_47] hS
  have hR := hS
  have hP0 := hP
  replace hP := PK.up hR hP
  replace hS := hR.root
  refine MV.step0 (i := 0) rfl (VAL.move rfl) rfl rfl rfl ?_
  refine MV.step0 (i := 1) rfl (VAL.move rfl) rfl rfl rfl ?_
  refine MV.lift0 (i := 2) rfl (V.nc h55 rfl) rfl rfl rfl fun x70_48 h56 => ?_
  refine MV.lift0 (i := 3) rfl (V.fa h56 rfl Rcf.fo56_2) rfl rfl rfl fun x71_49 h57 => ?_
  refine MV.lift1 (i := 4) rfl hK (V.ldQ hS h57 rfl Rcf.one3) rfl rfl rfl [] (by kernel_rfl) fun x72_50 h58 => ?_
  refine MV.step0 (i := 5) rfl (VAL.move rfl) rfl rfl rfl ?_
  refine MV.force (i := 6) rfl ?_
  refine LV.call hS h58 (g150_ok _ _ _ _ ) hP rfl rfl rfl rfl fun x74_51 T17 n17 h59 ρ its hS => ?_
  obtain ⟨hK, h60⟩ := KeepS.step hR hS h59
  refine LV.nextM [4] (by kernel_rfl) (fun _ => hK) ?_
  refine MV.force (i := 7) rfl ?_
  refine vy (V.max h60 rfl rfl) fun x75_52 h61 => ?_
  refine LV.nextM [] (by kernel_rfl) (fun z => absurd rfl z) ?_
  refine MV.force (i := 8) rfl ?_
  refine vy (V.nc h61 rfl) fun x76_53 h62 => ?_
  refine LV.nextM [] (by kernel_rfl) (fun z => absurd rfl z) ?_
  refine MV.force (i := 9) rfl ?_
  refine vy (V.fa h62 rfl Rcf.fo56_2) fun x77_54 h63 => ?_
  refine LV.nextM [] (by kernel_rfl) (fun z => absurd rfl z) ?_
  refine MV.force (i := 10) rfl ?_
  refine LV.st hS h63 rfl rfl rfl Rcf.siz3 rfl rfl fun T18 its h64 hS => ?_
  refine LV.nextM [] (by kernel_rfl) (fun z => absurd rfl z) ?_
  replace hS := hR.up hS
  replace hP := hP0
  refine mdn ?_
  refine sr ?_
  refine vy (V.fa h64 rfl Rcf.fo32_4) fun x78_55 h65 => ?_
  refine vy (V.ld hS h65 rfl Rcf.one30) fun x79_56 h66 => ?_
  refine vy (V.lenS h66 rfl Rcf.ls30) fun x80_57 h67 => ?_
  refine mv ?_
  refine dn ?_
  refine CV.block ?_
  refine cl5 X 0 7 79 80 81 [] hS h67 ⟨rfl, rfl, rfl, rfl, rfl, trivial⟩ ?_
  intro f3 y0 y7 y79 y80 y81 T19 n19 ρ its hS h68
  unfold g89_b3 at h68
  clear h23 h49 h50 h51 h52 h53 h54 h55 h56 h57 h58 h59 h60 h61 h62 h63 h64 h65 h66 h67
  refine sr ?_
  refine vy (V.lt h68 rfl rfl) fun x82_58 h69 => ?_
  refine dn ?_
  refine CV.seq ?_
  refine CV.cond h69 rfl (fun e h70 => ?_) (fun e h70 => ?_)
  ·
   clear h68 h69
   subst e
   refine CV.skip ?_
   refine PV.thenN ?_
   refine cs5 X 0 7 79 80 81 [] (g89_k4 ih ro (lpf5 890084 (g89_b3 ih ro) f3)) ?_ ?_
   ·
    refine CV.block ?_
    refine sr ?_
    refine mv ?_
    refine vy (V.ia h70 rfl rfl Rcf.el30) fun x84_60 h73 => ?_
    refine vy (V.ld hS h73 rfl Rcf.one3) fun x85_61 h74 => ?_
    refine as_ ?_
    refine as_ ?_
    refine dn ?_
    refine sr ?_
    refine mv ?_
    refine vy (V.ne h74 rfl rfl) fun x87_62 h75 => ?_
    refine dn ?_
    refine CV.cond h75 rfl (fun e h76 => ?_) (fun e h76 => ?_)
    ·
     clear h70 h73 h74 h75
     subst e
     refine CV.region ?_
     refine mv ?_
     refine mv ?_
     refine mv ?_
     refine LV.call hS h76 (hI _ _ _ _ _) hP rfl rfl rfl rfl fun x91_63 T21 n21 h77 ρ its hS => ?_
     refine LV.done ?_
     refine PV.blockN ?_
     exact pa5 hS h77 ⟨rfl, rfl, rfl, rfl, rfl, trivial⟩
    ·
     clear h70 h73 h74 h75
     subst e
     refine CV.skip ?_
     refine PV.blockN ?_
     exact pa5 hS h76 ⟨rfl, rfl, rfl, rfl, rfl, trivial⟩
   ·
    intro y0 y7 y79 y80 y81 T20 n20 ρ its hS h71
    unfold g89_k4 at h71
    clear h70
    refine CV.region ?_
    refine vy (V.add h71 rfl rfl) fun x92_59 h72 => ?_
    refine mv ?_
    refine LV.done ?_
    exact pb5 hS h72 ⟨rfl, rfl, rfl, rfl, rfl, trivial⟩
  ·
   clear h68 h69
   subst e
   refine CV.exit ?_
   refine PV.thenE ?_
   refine PV.thenE ?_
   refine PV.blockE ?_
   cases h70
   exact PV.ret (by simp) Tryz.results89 hS RS.nil rfl
noncomputable def g90_b3 (ih : FuncId → List HT → List AV → HT → Nat → R) (ro : List HT) (lp3 : AV → AV → AV → AV → AV → AV → AV → AV → HT → Nat → R) (y0 y6 y8 y11 y12 y84 y85 y86 : AV) (T14 : HT) (n14 : Nat) : R :=
 ltK Tryz.prog 3 (.tmp 86) (.tmp 85) 900082 y86 y85 fun x87_49 =>
 condK 900083 x87_49
 (
  iaK 900084 y84 y86 1 fun x88_50 =>
  ldK 900085 T14 ro x88_50 fun x89_51 =>
  fldK 900088 T14 ro y12 1 fun x93_52 =>
  callK (g87 ro x93_52 x89_51 T14 n14) fun x95_53 T15 n15 =>
  notK 900091 x95_53 fun x96_54 =>
  condK 900092 x96_54
  (
   .bad 900093
  )
  (
   addK Tryz.prog 3 (.tmp 86) (.const (.int .i64 (.ofNat 1))) 900094 y86 (.lit (.int .i64 (.ofNat 1))) fun x107_55 =>
   lp3 y0 y6 y8 y11 y12 y84 y85 x107_55 T15 n15
  )
 )
 (
  ncK 900097 y0 fun x109_56 =>
  faK 900098 x109_56 4 fun x110_57 =>
  ldK 900099 T14 ro x110_57 fun x111_58 =>
  ncK 900101 y0 fun x113_59 =>
  faK 900102 x113_59 6 fun x114_60 =>
  ldK 900103 T14 ro x114_60 fun x115_61 =>
  iaK 900104 x111_58 x115_61 4 fun x116_62 =>
  ncK 900109 y12 fun x120_63 =>
  faK 900110 x120_63 1 fun x121_64 =>
  ldQK 900111 T14 ro [y12] x121_64 fun x122_65 =>
  ncK 900113 y12 fun x125_66 =>
  faK 900114 x125_66 1 fun x126_67 =>
  ldQK 900115 T14 ro [y12] x126_67 fun x127_68 =>
  lenSK 900116 x127_68 fun x128_69 =>
  callK (g57 ro x122_65 T14 n14) fun x123_70 T16 n16 =>
  keepK 900118 T14 T16 [y12] <|
  ncK 900119 x116_62 fun x129_71 =>
  faK 900120 x129_71 3 fun x130_72 =>
  stK 900121 T16 x130_72 x123_70 fun T17 =>
  keepK 900122 T14 T17 [y12] <|
  ncK 900123 x116_62 fun x131_73 =>
  faK 900124 x131_73 2 fun x132_74 =>
  stK 900125 T17 x132_74 x128_69 fun T18 =>
  faK 900127 y6 4 fun x134_75 =>
  ldK 900128 T18 ro x134_75 fun x135_76 =>
  iaK 900130 x135_76 y8 1 fun x137_77 =>
  ldK 900131 T18 ro x137_77 fun x138_78 =>
  callK (ih 58 ro [y0, x138_78, y12] T18 n16) fun x140_79 T19 n19 =>
  faK 900136 y0 6 fun x144_80 =>
  stK 900137 T19 x144_80 y11 fun T20 =>
  .ok (.val (.tup [])) T20 n19
 )
noncomputable def g90_b2 (ih : FuncId → List HT → List AV → HT → Nat → R) (ro : List HT) (lp2 : AV → AV → AV → AV → AV → AV → AV → AV → HT → Nat → R) (y0 y6 y8 y11 y12 y54 y55 y56 : AV) (T8 : HT) (n8 : Nat) : R :=
 ltK Tryz.prog 3 (.tmp 56) (.tmp 55) 900046 y56 y55 fun x57_26 =>
 condK 900047 x57_26
 (
  iaK 900048 y54 y56 1 fun x58_27 =>
  ldK 900049 T8 ro x58_27 fun x59_28 =>
  ncK 900053 y12 fun x62_29 =>
  faK 900054 x62_29 1 fun x63_30 =>
  ldK 900055 T8 ro x63_30 fun x64_31 =>
  ncK 900057 y0 fun x66_32 =>
  faK 900058 x66_32 0 fun x67_33 =>
  ldK 900059 T8 ro x67_33 fun x68_34 =>
  iaK 900061 x68_34 x59_28 5 fun x70_35 =>
  faK 900062 x70_35 3 fun x71_36 =>
  ldK 900063 T8 ro x71_36 fun x72_37 =>
  bsK 900064 T8 n8 1 9 1 [(0, x72_37)] fun x73_38 T9 n9 =>
  shrK 900066 T9 x64_31 fun T10 =>
  appK 900065 T10 ro n9 9 1 16 x64_31 x73_38 fun x74_39 T11 n11 =>
  ncK 900067 y12 fun x75_40 =>
  faK 900068 x75_40 1 fun x76_41 =>
  stK 900069 T11 x76_41 x74_39 fun T12 =>
  addK Tryz.prog 3 (.tmp 56) (.const (.int .i64 (.ofNat 1))) 900070 y56 (.lit (.int .i64 (.ofNat 1))) fun x77_42 =>
  lp2 y0 y6 y8 y11 y12 y54 y55 x77_42 T12 n11
 )
 (
  faK 900073 y6 4 fun x79_43 =>
  ldK 900074 T8 ro x79_43 fun x80_44 =>
  iaK 900076 x80_44 y8 1 fun x82_45 =>
  ldK 900077 T8 ro x82_45 fun x83_46 =>
  callK (g56 ro y0 x83_46 T8 n8) fun x84_47 T13 n13 =>
  lenSK 900079 x84_47 fun x85_48 =>
  lpf8 900081 (g90_b3 ih ro) 100000 y0 y6 y8 y11 y12 x84_47 x85_48 (.lit (.int .i64 (.ofNat 0))) T13 n13
 )
noncomputable def g90_b1 (ih : FuncId → List HT → List AV → HT → Nat → R) (ro : List HT) (lp1 : AV → AV → AV → AV → AV → AV → AV → AV → HT → Nat → R) (y0 y3 y5 y6 y8 y25 y26 y27 : AV) (T3 : HT) (n3 : Nat) : R :=
 ltK Tryz.prog 3 (.tmp 27) (.tmp 26) 900015 y27 y26 fun x28_11 =>
 condK 900016 x28_11
 (
  iaK 900017 y25 y27 1 fun x29_12 =>
  ldK 900018 T3 ro x29_12 fun x30_13 =>
  callK (ih 58 ro [y0, x30_13, y3] T3 n3) fun x34_14 T4 n4 =>
  addK Tryz.prog 3 (.tmp 27) (.const (.int .i64 (.ofNat 1))) 900024 y27 (.lit (.int .i64 (.ofNat 1))) fun x35_15 =>
  lp1 y0 y3 y5 y6 y8 y25 y26 x35_15 T4 n4
 )
 (
  fldK 900027 T3 ro y0 6 fun x39_16 =>
  fldK 900031 T3 ro y0 4 fun x44_17 =>
  callK (g151 ro x44_17 (.fn (.func 152) [] [y5]) T3 n3) fun x46_18 T5 n5 =>
  faK 900034 y0 6 fun x48_19 =>
  stK 900035 T5 x48_19 x46_18 fun T6 =>
  optK 900036 (bld197 []) fun x49_20 =>
  boxK 900037 T6 n5 x49_20 197 fun x50_21 T7 n7 =>
  faK 900039 y6 4 fun x51_22 =>
  ldK 900040 T7 ro x51_22 fun x52_23 =>
  cutHiK 900042 T7 ro x52_23 y8 fun x54_24 =>
  lenSK 900043 x54_24 fun x55_25 =>
  lpf8 900045 (g90_b2 ih ro) 100000 y0 y6 y8 x39_16 x50_21 x54_24 x55_25 (.lit (.int .i64 (.ofNat 0))) T7 n7
 )
noncomputable def g90 (ih : FuncId → List HT → List AV → HT → Nat → R) (ro : List HT) (a0 a1 a2 a3 : AV) (T : HT) (nx : Nat) : R :=
 boxK 900001 T nx a1 3 fun x5_1 T1 n1 =>
 boxK 900002 T1 n1 a2 32 fun x6_2 T2 n2 =>
 faK 900003 x6_2 4 fun x18_3 =>
 ldK 900004 T2 ro x18_3 fun x19_4 =>
 lenSK 900005 x19_4 fun x20_5 =>
 subK Tryz.prog 3 (.tmp 20) (.const (.int .i64 (.ofNat 1))) 900006 x20_5 (.lit (.int .i64 (.ofNat 1))) fun x21_6 =>
 faK 900008 x6_2 4 fun x22_7 =>
 ldK 900009 T2 ro x22_7 fun x23_8 =>
 cutHiK 900011 T2 ro x23_8 x21_6 fun x25_9 =>
 lenSK 900012 x25_9 fun x26_10 =>
 lpf8 900014 (g90_b1 ih ro) 100000 a0 a3 x5_1 x6_2 x21_6 x25_9 x26_10 (.lit (.int .i64 (.ofNat 0))) T2 n2
theorem g90_ok (ih : FuncId → List HT → List AV → HT → Nat → R) (hI : ∀ f ro args T nx, GOk Tryz.prog envE f args ro T nx (ih f ro args T nx)) (ro : List HT) (a0 a1 a2 a3 : AV) (T : HT) (nx : Nat) : GOk Tryz.prog envE 90 [a0, a1, a2, a3] ro T nx (g90 ih ro a0 a1 a2 a3 T nx) := by
 refine GOk.of_body Tryz.func90 rfl Tryz.ntmps90 (by kernel_rfl) rfl fun r T' n' h1 w0 base ρ0 its hS hP => ?_
 have X : CtxW envE ρ0 ro r T' n' := trivial
 unfold g90 at h1
 refine sr ?_
 refine LV.box hS h1 rfl rfl rfl rfl rfl fun x5_1 T1 n1 h2 ρ its hS hdr => ?_
 refine LV.box hS h2 rfl rfl rfl rfl rfl fun x6_2 T2 n2 h3 ρ its hS hdr => ?_
 refine dn ?_
 refine sr ?_
 refine vy (V.fa h3 rfl Rcf.fo32_4) fun x18_3 h4 => ?_
 refine vy (V.ld hS h4 rfl Rcf.one30) fun x19_4 h5 => ?_
 refine vy (V.lenS h5 rfl Rcf.ls30) fun x20_5 h6 => ?_
 refine vy (V.sub h6 rfl rfl) fun x21_6 h7 => ?_
 refine as_ ?_
 refine dn ?_
 refine CV.seq ?_
 refine sr ?_
 refine vy (V.fa h7 rfl Rcf.fo32_4) fun x22_7 h8 => ?_
 refine vy (V.ld hS h8 rfl Rcf.one30) fun x23_8 h9 => ?_
 refine mv ?_
 refine vy (V.cutHi hS h9 rfl rfl Rcf.el30) fun x25_9 h10 => ?_
 refine vy (V.lenS h10 rfl Rcf.ls30) fun x26_10 h11 => ?_
 refine mv ?_
 refine dn ?_
 refine CV.block ?_
 refine cl8 X 0 3 5 6 8 25 26 27 [] hS h11 ⟨rfl, rfl, rfl, rfl, rfl, rfl, rfl, rfl, trivial⟩ ?_
 intro f1 y0 y3 y5 y6 y8 y25 y26 y27 T3 n3 ρ its hS h12
 unfold g90_b1 at h12
 clear h1 h2 h3 h4 h5 h6 h7 h8 h9 h10 h11
 refine sr ?_
 refine vy (V.lt h12 rfl rfl) fun x28_11 h13 => ?_
 refine dn ?_
 refine CV.seq ?_
 refine CV.cond h13 rfl (fun e h14 => ?_) (fun e h14 => ?_)
 ·
  clear h12 h13
  subst e
  refine CV.skip ?_
  refine PV.thenN ?_
  refine CV.seq ?_
  refine CV.block ?_
  refine sr ?_
  refine vy (V.ia h14 rfl rfl Rcf.el30) fun x29_12 h15 => ?_
  refine vy (V.ld hS h15 rfl Rcf.one3) fun x30_13 h16 => ?_
  refine as_ ?_
  refine dn ?_
  refine CV.region ?_
  refine mv ?_
  refine mv ?_
  refine mv ?_
  refine LV.call hS h16 (hI _ _ _ _ _) hP rfl rfl rfl rfl fun x34_14 T4 n4 h17 ρ its hS => ?_
  refine LV.done ?_
  refine PV.blockN ?_
  refine PV.thenN ?_
  refine CV.region ?_
  refine vy (V.add h17 rfl rfl) fun x35_15 h18 => ?_
  refine mv ?_
  refine LV.done ?_
  exact pb8 hS h18 ⟨rfl, rfl, rfl, rfl, rfl, rfl, rfl, rfl, trivial⟩
 ·
  clear h12 h13
  subst e
  refine CV.exit ?_
  refine PV.thenE ?_
  refine PV.thenE ?_
  refine PV.blockE ?_
  refine PV.thenN ?_
  refine sr ?_
  refine mv ?_
  refine fl hS h14 Rcf.fo114_6 Rcf.one3 fun x39_16 h19 => ?_
  refine as_ ?_
  refine dn ?_
  refine sr ?_
  refine mv ?_
  refine mv ?_
  refine fl hS h19 Rcf.fo114_4 Rcf.one51 fun x44_17 h20 => ?_
  refine pu ?_
  refine LV.call hS h20 (g151_ok _ _ _ _ _ ) hP rfl rfl rfl rfl fun x46_18 T5 n5 h21 ρ its hS => ?_
  refine fa2 h21 Rcf.fo114_6 fun x48_19 h22 => ?_
  refine LV.st hS h22 rfl rfl rfl Rcf.siz3 rfl rfl fun T6 its h23 hS => ?_
  refine dn ?_
  refine sr ?_
  refine vy (V.bld h23 rfl) fun x49_20 h24 => ?_
  refine LV.box hS h24 rfl rfl rfl rfl rfl fun x50_21 T7 n7 h25 ρ its hS hdr => ?_
  refine as_ ?_
  refine dn ?_
  refine CV.seq ?_
  refine sr ?_
  refine vy (V.fa h25 rfl Rcf.fo32_4) fun x51_22 h26 => ?_
  refine vy (V.ld hS h26 rfl Rcf.one30) fun x52_23 h27 => ?_
  refine mv ?_
  refine vy (V.cutHi hS h27 rfl rfl Rcf.el30) fun x54_24 h28 => ?_
  refine vy (V.lenS h28 rfl Rcf.ls30) fun x55_25 h29 => ?_
  refine mv ?_
  refine dn ?_
  refine CV.block ?_
  refine cl8 X 0 6 8 11 12 54 55 56 [] hS h29 ⟨rfl, rfl, rfl, rfl, rfl, rfl, rfl, rfl, trivial⟩ ?_
  intro f2 y0 y6 y8 y11 y12 y54 y55 y56 T8 n8 ρ its hS h30
  unfold g90_b2 at h30
  clear h14 h19 h20 h21 h22 h23 h24 h25 h26 h27 h28 h29
  refine sr ?_
  refine vy (V.lt h30 rfl rfl) fun x57_26 h31 => ?_
  refine dn ?_
  refine CV.seq ?_
  refine CV.cond h31 rfl (fun e h32 => ?_) (fun e h32 => ?_)
  ·
   clear h30 h31
   subst e
   refine CV.skip ?_
   refine PV.thenN ?_
   refine CV.seq ?_
   refine CV.block ?_
   refine sr ?_
   refine vy (V.ia h32 rfl rfl Rcf.el30) fun x58_27 h33 => ?_
   refine vy (V.ld hS h33 rfl Rcf.one3) fun x59_28 h34 => ?_
   refine as_ ?_
   refine dn ?_
   refine CV.regionM [(0, .anywhere), (1, .anywhere), (2, .anywhere), (3, .anywhere), (4, .held), (5, .anywhere), (6, .anywhere), (7, .anywhere), (8, .held), (9, .anywhere), (10, .held), (11, .held), (12, .held), (13, .alone), (14, .alone), (15, .alone), (16, .alone), (17, .alone)] rfl (fun c a a' w hd hq => PanicOk.root (P := Tryz.prog) (fn := Tryz.f90) (w0 := w0) (base := base) (E := envE) (ro := ro) (r := r) (T' := T') (n' := n') (ρ0 := ρ0) c a a' w hd hq) (by kernel_rfl) ?_
   refine MV.step0 (i := 0) rfl (VAL.move rfl) rfl rfl rfl ?_
   refine MV.step0 (i := 1) rfl (VAL.move rfl) rfl rfl rfl ?_
   refine MV.lift0 (i := 2) rfl (V.nc h34 rfl) rfl rfl rfl fun x62_29 h35 => ?_
   refine MV.lift0 (i := 3) rfl (V.fa h35 rfl Rcf.fo197_1) rfl rfl rfl fun x63_30 h36 => ?_
   refine MV.lift1 (i := 4) rfl (fun _ z => z) (V.ld hS h36 rfl Rcf.one46) rfl rfl rfl [] (by kernel_rfl) fun x64_31 h37 => ?_
   refine MV.step0 (i := 5) rfl (VAL.move rfl) rfl rfl rfl ?_
   refine MV.lift0 (i := 6) rfl (V.nc h37 rfl) rfl rfl rfl fun x66_32 h38 => ?_
   refine MV.lift0 (i := 7) rfl (V.fa h38 rfl Rcf.fo114_0) rfl rfl rfl fun x67_33 h39 => ?_
   refine MV.lift1 (i := 8) rfl (fun _ z => z) (V.ld hS h39 rfl Rcf.one23) rfl rfl rfl [4] (by kernel_rfl) fun x68_34 h40 => ?_
   refine MV.step0 (i := 9) rfl (VAL.move rfl) rfl rfl rfl ?_
   refine MV.lift1 (i := 10) rfl (fun _ z => z) (V.ia h40 rfl rfl Rcf.el23) rfl rfl rfl [4] (by kernel_rfl) fun x70_35 h41 => ?_
   refine MV.lift1 (i := 11) rfl (fun _ z => z) (V.fa h41 rfl Rcf.fo32_3) rfl rfl rfl [4] (by kernel_rfl) fun x71_36 h42 => ?_
   refine MV.lift1 (i := 12) rfl (fun _ z => z) (V.ld hS h42 rfl Rcf.one9) rfl rfl rfl [4] (by kernel_rfl) fun x72_37 h43 => ?_
   refine MV.force (i := 13) rfl ?_
   refine LV.bslice hS h43 rfl rfl Rcf.el46 rfl rfl rfl rfl fun x73_38 T9 n9 h44 ρ its hS hdr => ?_
   refine LV.nextM [4] (by kernel_rfl) (fun _ => hdr) ?_
   refine MV.force (i := 14) rfl ?_
   obtain ⟨T10, its1, h45, hS, hW⟩ := shrK_inv hS h44
   refine LV.world hW ?_
   refine LV.app hS h45 rfl rfl rfl rfl Rcf.el46 rfl rfl rfl fun x74_39 T11 n11 h46 ρ its hS => ?_
   refine LV.nextM [] (by kernel_rfl) (fun z => absurd rfl z) ?_
   refine MV.force (i := 15) rfl ?_
   refine vy (V.nc h46 rfl) fun x75_40 h47 => ?_
   refine LV.nextM [] (by kernel_rfl) (fun z => absurd rfl z) ?_
   refine MV.force (i := 16) rfl ?_
   refine vy (V.fa h47 rfl Rcf.fo197_1) fun x76_41 h48 => ?_
   refine LV.nextM [] (by kernel_rfl) (fun z => absurd rfl z) ?_
   refine MV.force (i := 17) rfl ?_
   refine LV.st hS h48 rfl rfl rfl Rcf.siz46 rfl rfl fun T12 its h49 hS => ?_
   refine LV.nextM [] (by kernel_rfl) (fun z => absurd rfl z) ?_
   refine MV.done ?_
   refine PV.blockN ?_
   refine PV.thenN ?_
   refine CV.region ?_
   refine vy (V.add h49 rfl rfl) fun x77_42 h50 => ?_
   refine mv ?_
   refine LV.done ?_
   exact pb8 hS h50 ⟨rfl, rfl, rfl, rfl, rfl, rfl, rfl, rfl, trivial⟩
  ·
   clear h30 h31
   subst e
   refine CV.exit ?_
   refine PV.thenE ?_
   refine PV.thenE ?_
   refine PV.blockE ?_
   refine PV.thenN ?_
   refine CV.seq ?_
   refine sr ?_
   refine mv ?_
   refine vy (V.fa h32 rfl Rcf.fo32_4) fun x79_43 h51 => ?_
   refine vy (V.ld hS h51 rfl Rcf.one30) fun x80_44 h52 => ?_
   refine mv ?_
   refine vy (V.ia h52 rfl rfl Rcf.el30) fun x82_45 h53 => ?_
   refine vy (V.ld hS h53 rfl Rcf.one3) fun x83_46 h54 => ?_
   refine LV.call hS h54 (g56_ok _ _ _ _ _ ) hP rfl rfl rfl rfl fun x84_47 T13 n13 h55 ρ its hS => ?_
   refine vy (V.lenS h55 rfl Rcf.ls46) fun x85_48 h56 => ?_
   refine mv ?_
   refine dn ?_
   refine CV.block ?_
   refine cl8 X 0 6 8 11 12 84 85 86 [] hS h56 ⟨rfl, rfl, rfl, rfl, rfl, rfl, rfl, rfl, trivial⟩ ?_
   intro f3 y0 y6 y8 y11 y12 y84 y85 y86 T14 n14 ρ its hS h57
   unfold g90_b3 at h57
   clear h32 h51 h52 h53 h54 h55 h56
   refine sr ?_
   refine vy (V.lt h57 rfl rfl) fun x87_49 h58 => ?_
   refine dn ?_
   refine CV.seq ?_
   refine CV.cond h58 rfl (fun e h59 => ?_) (fun e h59 => ?_)
   ·
    clear h57 h58
    subst e
    refine CV.skip ?_
    refine PV.thenN ?_
    refine CV.seq ?_
    refine CV.block ?_
    refine sr ?_
    refine vy (V.ia h59 rfl rfl Rcf.el46) fun x88_50 h60 => ?_
    refine vy (V.ld hS h60 rfl Rcf.one9) fun x89_51 h61 => ?_
    refine as_ ?_
    refine dn ?_
    refine sr ?_
    refine mv ?_
    refine fl hS h61 Rcf.fo197_1 Rcf.one46 fun x93_52 h62 => ?_
    refine mv ?_
    refine LV.call hS h62 (g87_ok _ _ _ _ _ ) hP rfl rfl rfl rfl fun x95_53 T15 n15 h63 ρ its hS => ?_
    refine vy (V.not h63 rfl) fun x96_54 h64 => ?_
    refine dn ?_
    refine CV.cond h64 rfl (fun e h65 => ?_) (fun e h65 => ?_)
    ·
     clear h59 h60 h61 h62 h63 h64
     subst e
     cases h65
    ·
     clear h59 h60 h61 h62 h63 h64
     subst e
     refine CV.skip ?_
     refine PV.blockN ?_
     refine PV.thenN ?_
     refine CV.region ?_
     refine vy (V.add h65 rfl rfl) fun x107_55 h66 => ?_
     refine mv ?_
     refine LV.done ?_
     exact pb8 hS h66 ⟨rfl, rfl, rfl, rfl, rfl, rfl, rfl, rfl, trivial⟩
   ·
    clear h57 h58
    subst e
    refine CV.exit ?_
    refine PV.thenE ?_
    refine PV.thenE ?_
    refine PV.blockE ?_
    refine PV.thenN ?_
    refine CV.seq ?_
    refine CV.regionM [(0, .anywhere), (1, .anywhere), (2, .anywhere), (3, .held), (4, .anywhere), (5, .anywhere), (6, .anywhere), (7, .held), (8, .held), (9, .held)] rfl (fun c a a' w hd hq => PanicOk.root (P := Tryz.prog) (fn := Tryz.f90) (w0 := w0) (base := base) (E := envE) (ro := ro) (r := r) (T' := T') (n' := n') (ρ0 := ρ0) c a a' w hd hq) (by kernel_rfl) ?_
    refine MV.step0 (i := 0) rfl (VAL.move rfl) rfl rfl rfl ?_
    refine MV.lift0 (i := 1) rfl (V.nc h59 rfl) rfl rfl rfl fun x109_56 h67 => ?_
    refine MV.lift0 (i := 2) rfl (V.fa h67 rfl Rcf.fo114_4) rfl rfl rfl fun x110_57 h68 => ?_
    refine MV.lift1 (i := 3) rfl (fun _ z => z) (V.ld hS h68 rfl Rcf.one51) rfl rfl rfl [] (by kernel_rfl) fun x111_58 h69 => ?_
    refine MV.step0 (i := 4) rfl (VAL.move rfl) rfl rfl rfl ?_
    refine MV.lift0 (i := 5) rfl (V.nc h69 rfl) rfl rfl rfl fun x113_59 h70 => ?_
    refine MV.lift0 (i := 6) rfl (V.fa h70 rfl Rcf.fo114_6) rfl rfl rfl fun x114_60 h71 => ?_
    refine MV.lift1 (i := 7) rfl (fun _ z => z) (V.ld hS h71 rfl Rcf.one3) rfl rfl rfl [3] (by kernel_rfl) fun x115_61 h72 => ?_
    refine MV.lift1 (i := 8) rfl (fun _ z => z) (V.ia h72 rfl rfl Rcf.el51) rfl rfl rfl [] (by kernel_rfl) fun x116_62 h73 => ?_
    refine MV.step1 (i := 9) rfl (fun _ z => z) (VAL.assign rfl) rfl rfl rfl [] (by kernel_rfl) ?_
    refine mdn ?_
    refine CV.seq ?_
    refine CV.regionMS hS [y12] [(0, .anywhere), (1, .anywhere), (2, .anywhere), (3, .anywhere), (4, .anywhere), (5, .held), (7, .anywhere), (8, .anywhere), (9, .anywhere), (10, .held), (11, .held), (6, .alone), (12, .alone), (13, .alone), (14, .alone), (15, .alone), (16, .alone), (17, .alone)] rfl (fun c a a' w hd hq => PanicOk.root (P := Tryz.prog) (fn := Tryz.f90) (w0 := w0) (base := base) (E := envE) (ro := ro) (r := r) (T' := T') (n' := n') (ρ0 := ρ0) c a a' w hd hq) (by kernel_rfl) ?_
    have hK := KeepS.start [y12] hS
    have hR := hS
    have hP0 := hP
    replace hP := PK.up hR hP
    replace hS := hR.root
    refine MV.step0 (i := 0) rfl (VAL.move rfl) rfl rfl rfl ?_
    refine MV.step0 (i := 1) rfl (VAL.move rfl) rfl rfl rfl ?_
    refine MV.step0 (i := 2) rfl (VAL.move rfl) rfl rfl rfl ?_
    refine MV.lift0 (i := 3) rfl (V.nc h73 rfl) rfl rfl rfl fun x120_63 h74 => ?_
    refine MV.lift0 (i := 4) rfl (V.fa h74 rfl Rcf.fo197_1) rfl rfl rfl fun x121_64 h75 => ?_
    refine MV.lift1 (i := 5) rfl hK (V.ldQ hS h75 rfl Rcf.one46) rfl rfl rfl [] (by kernel_rfl) fun x122_65 h76 => ?_
    refine MV.step0 (i := 7) rfl (VAL.move rfl) rfl rfl rfl ?_
    refine MV.lift0 (i := 8) rfl (V.nc h76 rfl) rfl rfl rfl fun x125_66 h77 => ?_
    refine MV.lift0 (i := 9) rfl (V.fa h77 rfl Rcf.fo197_1) rfl rfl rfl fun x126_67 h78 => ?_
    refine MV.lift1 (i := 10) rfl hK (V.ldQ hS h78 rfl Rcf.one46) rfl rfl rfl [5] (by kernel_rfl) fun x127_68 h79 => ?_
    refine MV.lift1 (i := 11) rfl hK (V.lenS h79 rfl Rcf.ls46) rfl rfl rfl [5] (by kernel_rfl) fun x128_69 h80 => ?_
    refine MV.force (i := 6) rfl ?_
    refine LV.call hS h80 (g57_ok _ _ _ _ ) hP rfl rfl rfl rfl fun x123_70 T16 n16 h81 ρ its hS => ?_
    obtain ⟨hK, h82⟩ := KeepS.step hR hS h81
    refine LV.nextM [11] (by kernel_rfl) (fun _ => hK) ?_
    refine MV.force (i := 12) rfl ?_
    refine vy (V.nc h82 rfl) fun x129_71 h83 => ?_
    refine LV.nextM [11] (by kernel_rfl) (fun _ => hK) ?_
    refine MV.force (i := 13) rfl ?_
    refine vy (V.fa h83 rfl Rcf.fo56_3) fun x130_72 h84 => ?_
    refine LV.nextM [11] (by kernel_rfl) (fun _ => hK) ?_
    refine MV.force (i := 14) rfl ?_
    refine LV.st hS h84 rfl rfl rfl Rcf.siz46 rfl rfl fun T17 its h85 hS => ?_
    obtain ⟨hK, h86⟩ := KeepS.step hR hS h85
    refine LV.nextM [11] (by kernel_rfl) (fun _ => hK) ?_
    refine MV.force (i := 15) rfl ?_
    refine vy (V.nc h86 rfl) fun x131_73 h87 => ?_
    refine LV.nextM [] (by kernel_rfl) (fun z => absurd rfl z) ?_
    refine MV.force (i := 16) rfl ?_
    refine vy (V.fa h87 rfl Rcf.fo56_2) fun x132_74 h88 => ?_
    refine LV.nextM [] (by kernel_rfl) (fun z => absurd rfl z) ?_
    refine MV.force (i := 17) rfl ?_
    refine LV.st hS h88 rfl rfl rfl Rcf.siz3 rfl rfl fun T18 its h89 hS => ?_
    refine LV.nextM [] (by kernel_rfl) (fun z => absurd rfl z) ?_
    replace hS := hR.up hS
    replace hP := hP0
    refine mdn ?_
    refine sr ?_
    refine mv ?_
    refine vy (V.fa h89 rfl Rcf.fo32_4) fun x134_75 h90 => ?_
    refine vy (V.ld hS h90 rfl Rcf.one30) fun x135_76 h91 => ?_
    refine mv ?_
    refine vy (V.ia h91 rfl rfl Rcf.el30) fun x137_77 h92 => ?_
    refine vy (V.ld hS h92 rfl Rcf.one3) fun x138_78 h93 => ?_
    refine mv ?_
    refine LV.call hS h93 (hI _ _ _ _ _) hP rfl rfl rfl rfl fun x140_79 T19 n19 h94 ρ its hS => ?_
    refine dn ?_
    refine CV.region ?_
    refine mv ?_
    refine mv ?_
    refine fa2 h94 Rcf.fo114_6 fun x144_80 h95 => ?_
    refine LV.st hS h95 rfl rfl rfl Rcf.siz3 rfl rfl fun T20 its h96 hS => ?_
    refine LV.done ?_
    cases h96
    exact PV.ret (by simp) Tryz.results90 hS RS.nil rfl
noncomputable def ap7 (ih : FuncId → List HT → List AV → HT → Nat → R) (f : FuncId) (ro : List HT) (args : List AV) (T : HT) (nx : Nat) : R :=
  Bool.rec (motive := fun _ => R) (Bool.rec (motive := fun _ => R) (Bool.rec (motive := fun _ => R) (.bad 2) (List.rec (motive := fun _ => R) (.bad 1) (fun a0 l0 _ => List.rec (motive := fun _ => R) (.bad 1) (fun a1 l1 _ => List.rec (motive := fun _ => R) (.bad 1) (fun a2 l2 _ => List.rec (motive := fun _ => R) (.bad 1) (fun a3 l3 _ => List.rec (motive := fun _ => R) (g90 ih ro a0 a1 a2 a3 T nx) (fun _ _ _ => .bad 1) l3) l2) l1) l0) args) (Nat.beq f 90)) (Bool.rec (motive := fun _ => R) (.bad 2) (List.rec (motive := fun _ => R) (.bad 1) (fun a0 l0 _ => List.rec (motive := fun _ => R) (.bad 1) (fun a1 l1 _ => List.rec (motive := fun _ => R) (.bad 1) (fun a2 l2 _ => List.rec (motive := fun _ => R) (g89 ih ro a0 a1 a2 T nx) (fun _ _ _ => .bad 1) l2) l1) l0) args) (Nat.beq f 89)) (Nat.ble f 89)) (Bool.rec (motive := fun _ => R) (.bad 2) (List.rec (motive := fun _ => R) (.bad 1) (fun a0 l0 _ => List.rec (motive := fun _ => R) (.bad 1) (fun a1 l1 _ => List.rec (motive := fun _ => R) (.bad 1) (fun a2 l2 _ => List.rec (motive := fun _ => R) (g58 ih ro a0 a1 a2 T nx) (fun _ _ _ => .bad 1) l2) l1) l0) args) (Nat.beq f 58)) (Nat.ble f 58)
noncomputable def scc7 (fuel : Nat) : FuncId → List HT → List AV → HT → Nat → R :=
  Nat.rec (motive := fun _ => FuncId → List HT → List AV → HT → Nat → R) (fun _ _ _ _ _ => .bad 3) (fun _ ih => ap7 ih) fuel
theorem ap7_ok (ih : FuncId → List HT → List AV → HT → Nat → R) (hI : ∀ f ro args T nx, GOk Tryz.prog envE f args ro T nx (ih f ro args T nx)) (f : FuncId) (ro : List HT) (args : List AV) (T : HT) (nx : Nat) : GOk Tryz.prog envE f args ro T nx (ap7 ih f ro args T nx) := by
  unfold ap7
  refine recb_go (fun hb => ?_) (fun _ => ?_)
  · refine recb_go (fun hb => ?_) (fun _ => ?_)
    · obtain rfl := beqT hb
      rcases args with _ | ⟨a0, l0⟩
      · exact GOk.bad
      rcases l0 with _ | ⟨a1, l1⟩
      · exact GOk.bad
      rcases l1 with _ | ⟨a2, l2⟩
      · exact GOk.bad
      rcases l2 with _ | ⟨_, _⟩
      · exact g58_ok _ hI _ _ _ _ _ _ 
      · exact GOk.bad
    · exact GOk.bad
  · refine recb_go (fun hb => ?_) (fun _ => ?_)
    · refine recb_go (fun hb => ?_) (fun _ => ?_)
      · obtain rfl := beqT hb
        rcases args with _ | ⟨a0, l0⟩
        · exact GOk.bad
        rcases l0 with _ | ⟨a1, l1⟩
        · exact GOk.bad
        rcases l1 with _ | ⟨a2, l2⟩
        · exact GOk.bad
        rcases l2 with _ | ⟨_, _⟩
        · exact g89_ok _ hI _ _ _ _ _ _ 
        · exact GOk.bad
      · exact GOk.bad
    · refine recb_go (fun hb => ?_) (fun _ => ?_)
      · obtain rfl := beqT hb
        rcases args with _ | ⟨a0, l0⟩
        · exact GOk.bad
        rcases l0 with _ | ⟨a1, l1⟩
        · exact GOk.bad
        rcases l1 with _ | ⟨a2, l2⟩
        · exact GOk.bad
        rcases l2 with _ | ⟨a3, l3⟩
        · exact GOk.bad
        rcases l3 with _ | ⟨_, _⟩
        · exact g90_ok _ hI _ _ _ _ _ _ _ 
        · exact GOk.bad
      · exact GOk.bad
theorem scc7_ok : ∀ (fuel : Nat) (f : FuncId) (ro : List HT) (args : List AV) (T : HT) (nx : Nat), GOk Tryz.prog envE f args ro T nx (scc7 fuel f ro args T nx)
  | 0, _, _, _, _, _ => GOk.bad
  | fuel + 1, f, ro, args, T, nx => ap7_ok (scc7 fuel) (scc7_ok fuel) f ro args T nx

end Go.Proofs.YtdepmlcnllofiaaGreatDoor.Rc
