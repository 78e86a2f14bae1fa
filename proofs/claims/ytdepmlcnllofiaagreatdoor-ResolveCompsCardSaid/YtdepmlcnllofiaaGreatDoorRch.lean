/-
  Proved here: plain functions that do what the program's functions do, each with its proof.
-/
import Derived.Test.YtdepmlcnllofiaaGreatDoorRcg
namespace Go.Proofs.YtdepmlcnllofiaaGreatDoor.Rc
open Go.EY Go.EX Go.SX Go.RowKit
noncomputable def g153_k3 (ro : List HT) (lp1 : AV → AV → AV → AV → AV → HT → Nat → R) (lp2 : AV → AV → AV → AV → AV → AV → HT → Nat → R) (y0 y1 y2 y3 y8 y9 y34 : AV) (T3 : HT) (n3 : Nat) : R :=
 condK 1530012 y34
 (
  subK Tryz.prog 3 (.tmp 40) (.const (.int .i64 (.ofNat 1))) 1530017 y9 (.lit (.int .i64 (.ofNat 1))) fun x41_3 =>
  subK Tryz.prog 3 (.tmp 43) (.const (.int .i64 (.ofNat 1))) 1530020 y9 (.lit (.int .i64 (.ofNat 1))) fun x44_4 =>
  iaK 1530021 y0 x44_4 3 fun x45_5 =>
  ldAK 1530022 T3 ro x45_5 3 fun x46_6 =>
  iaK 1530025 y0 y9 3 fun x49_7 =>
  ldAK 1530026 T3 ro x49_7 3 fun x50_8 =>
  iaK 1530027 y0 y9 3 fun x51_9 =>
  stAK 1530028 T3 x51_9 x46_6 3 fun T4 =>
  iaK 1530029 y0 x41_3 3 fun x52_10 =>
  stAK 1530030 T4 x52_10 x50_8 3 fun T5 =>
  subK Tryz.prog 3 (.tmp 35) (.const (.int .i64 (.ofNat 1))) 1530032 y9 (.lit (.int .i64 (.ofNat 1))) fun x36_11 =>
  lp2 y0 y1 y2 y3 y8 x36_11 T5 n3
 )
 (
  addK Tryz.prog 3 (.tmp 15) (.const (.int .i64 (.ofNat 1))) 1530035 y8 (.lit (.int .i64 (.ofNat 1))) fun x16_12 =>
  lp1 y0 y1 y2 y3 x16_12 T3 n3
 )
noncomputable def g153_b2 (ro : List HT) (lp1 : AV → AV → AV → AV → AV → HT → Nat → R) (lp2 : AV → AV → AV → AV → AV → AV → HT → Nat → R) (y0 y1 y2 y3 y8 y9 : AV) (T2 : HT) (n2 : Nat) : R :=
 gtK Tryz.prog 3 (.tmp 18) (.tmp 19) 1530039 y9 y1 fun x20_13 =>
 condK 1530041 x20_13
 (
  iaK 1530045 y0 y9 3 fun x25_14 =>
  ldAK 1530046 T2 ro x25_14 3 fun x26_15 =>
  subK Tryz.prog 3 (.tmp 28) (.const (.int .i64 (.ofNat 1))) 1530049 y9 (.lit (.int .i64 (.ofNat 1))) fun x29_16 =>
  iaK 1530050 y0 x29_16 3 fun x30_17 =>
  ldAK 1530051 T2 ro x30_17 3 fun x31_18 =>
  dynK 1530052 y3 fun f p q => callK (scc2 4000 f ro (p ++ ([x26_15, x31_18] ++ q)) T2 n2) fun x32_19 T6 n6 =>
  ltK Tryz.prog 3 (.tmp 32) (.const (.int .i64 (.ofNat 0))) 1530053 x32_19 (.lit (.int .i64 (.ofNat 0))) fun x33_20 =>
  g153_k3 ro lp1 lp2 y0 y1 y2 y3 y8 y9 x33_20 T6 n6
 )
 (
  g153_k3 ro lp1 lp2 y0 y1 y2 y3 y8 y9 (.lit (.bool false)) T2 n2
 )
noncomputable def g153_b1 (ro : List HT) (lp1 : AV → AV → AV → AV → AV → HT → Nat → R) (y0 y1 y2 y3 y8 : AV) (T1 : HT) (n1 : Nat) : R :=
 ltK Tryz.prog 3 (.tmp 12) (.tmp 13) 1530007 y8 y2 fun x14_2 =>
 condK 1530008 x14_2
 (
  lpf6 1530011 (g153_b2 ro lp1) 100000 y0 y1 y2 y3 y8 y8 T1 n1
 )
 (
  .ok (.val (.tup [])) T1 n1
 )
noncomputable def g153 (ro : List HT) (a0 a1 a2 a3 : AV) (T : HT) (nx : Nat) : R :=
 addK Tryz.prog 3 (.tmp 10) (.const (.int .i64 (.ofNat 1))) 1530002 a1 (.lit (.int .i64 (.ofNat 1))) fun x11_1 =>
 lpf5 1530004 (g153_b1 ro) 100000 a0 a1 a2 a3 x11_1 T nx
theorem g153_ok (ro : List HT) (a0 a1 a2 a3 : AV) (T : HT) (nx : Nat) : GOk Tryz.prog envE 153 [a0, a1, a2, a3] ro T nx (g153 ro a0 a1 a2 a3 T nx) := by
 refine GOk.of_body Tryz.func153 rfl Tryz.ntmps153 (by kernel_rfl) rfl fun r T' n' h1 w0 base ρ0 its hS hP => ?_
 have X : CtxW envE ρ0 ro r T' n' := trivial
 unfold g153 at h1
 refine sr ?_
 refine mv ?_
 refine vy (V.add h1 rfl rfl) fun x11_1 h2 => ?_
 refine as_ ?_
 refine dn ?_
 refine CV.block ?_
 refine cl5 X 0 1 2 3 8 [] hS h2 ⟨rfl, rfl, rfl, rfl, rfl, trivial⟩ ?_
 intro f1 y0 y1 y2 y3 y8 T1 n1 ρ its hS h3
 unfold g153_b1 at h3
 clear h1 h2
 refine CV.seq ?_
 refine sr ?_
 refine mv ?_
 refine mv ?_
 refine vy (V.lt h3 rfl rfl) fun x14_2 h4 => ?_
 refine dn ?_
 refine CV.cond h4 rfl (fun e h5 => ?_) (fun e h5 => ?_)
 ·
  clear h3 h4
  subst e
  refine CV.skip ?_
  refine PV.thenN ?_
  refine CV.seq ?_
  refine CV.block ?_
  refine sr ?_
  refine mv ?_
  refine as_ ?_
  refine dn ?_
  refine CV.block ?_
  refine cl6 X 0 1 2 3 8 9 [] hS h5 ⟨rfl, rfl, rfl, rfl, rfl, rfl, trivial⟩ ?_
  intro f2 y0 y1 y2 y3 y8 y9 T2 n2 ρ its hS h6
  unfold g153_b2 at h6
  clear h5
  refine CV.seq ?_
  refine cs7 X 0 1 2 3 8 9 34 [] (g153_k3 ro (lpf5 1530004 (g153_b1 ro) f1) (lpf6 1530011 (g153_b2 ro (lpf5 1530004 (g153_b1 ro) f1)) f2)) ?_ ?_
  ·
   refine CV.regionM [(0, .anywhere), (1, .anywhere), (2, .anywhere), (3, .anywhere), (4, .anywhere), (5, .anywhere), (6, .anywhere), (7, .anywhere), (8, .held), (9, .anywhere), (10, .anywhere), (11, .anywhere), (12, .anywhere), (13, .held), (14, .alone), (15, .alone), (16, .alone)] rfl (fun c a a' w hd hq => PanicOk.root (P := Tryz.prog) (fn := Tryz.f153) (w0 := w0) (base := base) (E := envE) (ro := ro) (r := r) (T' := T') (n' := n') (ρ0 := ρ0) c a a' w hd hq) (by kernel_rfl) ?_
   refine MV.step0 (i := 0) rfl (VAL.move rfl) rfl rfl rfl ?_
   refine MV.step0 (i := 1) rfl (VAL.move rfl) rfl rfl rfl ?_
   refine MV.lift0 (i := 2) rfl (V.gt h6 rfl rfl) rfl rfl rfl fun x20_13 h21 => ?_
   refine MV.step0 (i := 3) rfl (VAL.move rfl) rfl rfl rfl ?_
   rcases condK_inv h21 with ⟨e, h22⟩ | ⟨e, h22⟩
   ·
    clear h6 h21
    subst e
    refine MV.step0 (i := 4) rfl (VAL.move rfl) rfl rfl rfl ?_
    refine MV.step0 (i := 5) rfl (VAL.move rfl) rfl rfl rfl ?_
    refine MV.step0 (i := 6) rfl (VAL.move rfl) rfl rfl rfl ?_
    refine MV.lift0 (i := 7) rfl (V.ia h22 rfl rfl Rcf.el50) rfl rfl rfl fun x25_14 h23 => ?_
    refine MV.lift1 (i := 8) rfl (fun _ z => z) (V.ldA hS h23 rfl Rcf.agg58) rfl rfl rfl [] (by kernel_rfl) fun x26_15 h24 => ?_
    refine MV.step0 (i := 9) rfl (VAL.move rfl) rfl rfl rfl ?_
    refine MV.step0 (i := 10) rfl (VAL.move rfl) rfl rfl rfl ?_
    refine MV.lift0 (i := 11) rfl (V.sub h24 rfl rfl) rfl rfl rfl fun x29_16 h25 => ?_
    refine MV.lift0 (i := 12) rfl (V.ia h25 rfl rfl Rcf.el50) rfl rfl rfl fun x30_17 h26 => ?_
    refine MV.lift1 (i := 13) rfl (fun _ z => z) (V.ldA hS h26 rfl Rcf.agg58) rfl rfl rfl [8] (by kernel_rfl) fun x31_18 h27 => ?_
    refine MV.force (i := 14) rfl ?_
    refine LV.callD (G := fun f gs => scc2 4000 f ro gs T2 n2) (qs := [x26_15, x31_18]) hS h27 (fun f gs => scc2_ok _ _ _ _ _ _) hP rfl rfl rfl rfl rfl rfl rfl fun x32_19 T6 n6 h28 ρ its hS => ?_
    refine LV.nextM [] (by kernel_rfl) (fun z => absurd rfl z) ?_
    refine MV.force (i := 15) rfl ?_
    refine vy (V.lt h28 rfl rfl) fun x33_20 h29 => ?_
    refine LV.nextM [] (by kernel_rfl) (fun z => absurd rfl z) ?_
    refine MV.force (i := 16) rfl ?_
    refine pu ?_
    refine LV.nextM [] (by kernel_rfl) (fun z => absurd rfl z) ?_
    refine MV.done ?_
    exact pa7 hS h29 ⟨rfl, rfl, rfl, rfl, rfl, rfl, rfl, trivial⟩
   ·
    clear h6 h21
    subst e
    refine MV.skip0 (i := 4) rfl rfl rfl rfl ?_
    refine MV.skip0 (i := 5) rfl rfl rfl rfl ?_
    refine MV.skip0 (i := 6) rfl rfl rfl rfl ?_
    refine MV.skip0 (i := 7) rfl rfl rfl rfl ?_
    refine MV.skip1 (i := 8) rfl (fun _ z => z) rfl rfl rfl [] (by kernel_rfl) ?_
    refine MV.skip0 (i := 9) rfl rfl rfl rfl ?_
    refine MV.skip0 (i := 10) rfl rfl rfl rfl ?_
    refine MV.skip0 (i := 11) rfl rfl rfl rfl ?_
    refine MV.skip0 (i := 12) rfl rfl rfl rfl ?_
    refine MV.skip1 (i := 13) rfl (fun _ z => z) rfl rfl rfl [8] (by kernel_rfl) ?_
    refine MV.force (i := 14) rfl ?_
    refine sk ?_
    refine LV.nextM [] (by kernel_rfl) (fun z => absurd rfl z) ?_
    refine MV.force (i := 15) rfl ?_
    refine sk ?_
    refine LV.nextM [] (by kernel_rfl) (fun z => absurd rfl z) ?_
    refine MV.force (i := 16) rfl ?_
    refine pu ?_
    refine LV.nextM [] (by kernel_rfl) (fun z => absurd rfl z) ?_
    refine MV.done ?_
    exact pa7 hS h22 ⟨rfl, rfl, rfl, rfl, rfl, rfl, rfl, trivial⟩
  ·
   intro y0 y1 y2 y3 y8 y9 y34 T3 n3 ρ its hS h7
   unfold g153_k3 at h7
   clear h6
   refine CV.cond h7 rfl (fun e h8 => ?_) (fun e h8 => ?_)
   ·
    clear h7
    subst e
    refine CV.skip ?_
    refine PV.thenN ?_
    refine CV.seq ?_
    refine CV.block ?_
    refine CV.regionM [(0, .anywhere), (1, .anywhere), (2, .anywhere), (3, .anywhere), (4, .anywhere), (5, .anywhere), (6, .anywhere), (7, .anywhere), (8, .anywhere), (9, .held), (10, .anywhere), (11, .anywhere), (12, .anywhere), (13, .held), (14, .held), (15, .alone), (16, .alone), (17, .alone)] rfl (fun c a a' w hd hq => PanicOk.root (P := Tryz.prog) (fn := Tryz.f153) (w0 := w0) (base := base) (E := envE) (ro := ro) (r := r) (T' := T') (n' := n') (ρ0 := ρ0) c a a' w hd hq) (by kernel_rfl) ?_
    refine MV.step0 (i := 0) rfl (VAL.move rfl) rfl rfl rfl ?_
    refine MV.step0 (i := 1) rfl (VAL.move rfl) rfl rfl rfl ?_
    refine MV.step0 (i := 2) rfl (VAL.move rfl) rfl rfl rfl ?_
    refine MV.step0 (i := 3) rfl (VAL.move rfl) rfl rfl rfl ?_
    refine MV.lift0 (i := 4) rfl (V.sub h8 rfl rfl) rfl rfl rfl fun x41_3 h9 => ?_
    refine MV.step0 (i := 5) rfl (VAL.move rfl) rfl rfl rfl ?_
    refine MV.step0 (i := 6) rfl (VAL.move rfl) rfl rfl rfl ?_
    refine MV.lift0 (i := 7) rfl (V.sub h9 rfl rfl) rfl rfl rfl fun x44_4 h10 => ?_
    refine MV.lift0 (i := 8) rfl (V.ia h10 rfl rfl Rcf.el50) rfl rfl rfl fun x45_5 h11 => ?_
    refine MV.lift1 (i := 9) rfl (fun _ z => z) (V.ldA hS h11 rfl Rcf.agg58) rfl rfl rfl [] (by kernel_rfl) fun x46_6 h12 => ?_
    refine MV.step0 (i := 10) rfl (VAL.move rfl) rfl rfl rfl ?_
    refine MV.step0 (i := 11) rfl (VAL.move rfl) rfl rfl rfl ?_
    refine MV.lift0 (i := 12) rfl (V.ia h12 rfl rfl Rcf.el50) rfl rfl rfl fun x49_7 h13 => ?_
    refine MV.lift1 (i := 13) rfl (fun _ z => z) (V.ldA hS h13 rfl Rcf.agg58) rfl rfl rfl [9] (by kernel_rfl) fun x50_8 h14 => ?_
    refine MV.lift1 (i := 14) rfl (fun _ z => z) (V.ia h14 rfl rfl Rcf.el50) rfl rfl rfl [] (by kernel_rfl) fun x51_9 h15 => ?_
    refine MV.force (i := 15) rfl ?_
    refine LV.stA hS h15 rfl rfl rfl Rcf.agg58 rfl rfl rfl fun T4 its h16 hS => ?_
    refine LV.nextM [] (by kernel_rfl) (fun z => absurd rfl z) ?_
    refine MV.force (i := 16) rfl ?_
    refine vy (V.ia h16 rfl rfl Rcf.el50) fun x52_10 h17 => ?_
    refine LV.nextM [] (by kernel_rfl) (fun z => absurd rfl z) ?_
    refine MV.force (i := 17) rfl ?_
    refine LV.stA hS h17 rfl rfl rfl Rcf.agg58 rfl rfl rfl fun T5 its h18 hS => ?_
    refine LV.nextM [] (by kernel_rfl) (fun z => absurd rfl z) ?_
    refine MV.done ?_
    refine PV.blockN ?_
    refine PV.thenN ?_
    refine CV.region ?_
    refine mv ?_
    refine vy (V.sub h18 rfl rfl) fun x36_11 h19 => ?_
    refine as_ ?_
    refine LV.done ?_
    exact pb6 hS h19 ⟨rfl, rfl, rfl, rfl, rfl, rfl, trivial⟩
   ·
    clear h7
    subst e
    refine CV.exit ?_
    refine PV.thenE ?_
    refine PV.thenE ?_
    refine PV.blockE ?_
    refine PV.blockN ?_
    refine PV.thenN ?_
    refine CV.region ?_
    refine mv ?_
    refine vy (V.add h8 rfl rfl) fun x16_12 h20 => ?_
    refine as_ ?_
    refine LV.done ?_
    exact pb5 hS h20 ⟨rfl, rfl, rfl, rfl, rfl, trivial⟩
 ·
  clear h3 h4
  subst e
  refine CV.exit ?_
  refine PV.thenE ?_
  refine PV.thenE ?_
  refine PV.blockE ?_
  cases h5
  exact PV.ret (by simp) Tryz.results153 hS RS.nil rfl
noncomputable def g224 (ro : List HT) (a0 a1 a2 a3 a4 : AV) (T : HT) (nx : Nat) : R :=
 iaK 2240006 a0 a2 3 fun x15_1 =>
 ldAK 2240007 T ro x15_1 3 fun x16_2 =>
 iaK 2240010 a0 a1 3 fun x19_3 =>
 ldAK 2240011 T ro x19_3 3 fun x20_4 =>
 dynK 2240012 a4 fun f p q => callK (scc2 4000 f ro (p ++ ([x16_2, x20_4] ++ q)) T nx) fun x21_5 T1 n1 =>
 ltK Tryz.prog 3 (.tmp 21) (.const (.int .i64 (.ofNat 0))) 2240013 x21_5 (.lit (.int .i64 (.ofNat 0))) fun x22_6 =>
 condK 2240014 x22_6
 (
  ncK 2240016 a3 fun x24_7 =>
  ldK 2240017 T1 ro x24_7 fun x25_8 =>
  addK Tryz.prog 3 (.tmp 25) (.const (.int .i64 (.ofNat 1))) 2240018 x25_8 (.lit (.int .i64 (.ofNat 1))) fun x26_9 =>
  ncK 2240019 a3 fun x27_10 =>
  stK 2240020 T1 x27_10 x26_9 fun T2 =>
  .ok (.val (.tup [a2, a1])) T2 n1
 )
 (
  .ok (.val (.tup [a1, a2])) T1 n1
 )
theorem g224_ok (ro : List HT) (a0 a1 a2 a3 a4 : AV) (T : HT) (nx : Nat) : GOk Tryz.prog envE 224 [a0, a1, a2, a3, a4] ro T nx (g224 ro a0 a1 a2 a3 a4 T nx) := by
 refine GOk.of_body Tryz.func224 rfl Tryz.ntmps224 (by kernel_rfl) rfl fun r T' n' h1 w0 base ρ0 its hS hP => ?_
 have X : CtxW envE ρ0 ro r T' n' := trivial
 unfold g224 at h1
 refine sr ?_
 refine as_ ?_
 refine as_ ?_
 refine dn ?_
 refine CV.seq ?_
 refine CV.seq ?_
 refine CV.regionM [(0, .anywhere), (1, .anywhere), (2, .anywhere), (3, .anywhere), (4, .held), (5, .anywhere), (6, .anywhere), (7, .anywhere), (8, .held), (9, .alone), (10, .alone)] rfl (fun c a a' w hd hq => PanicOk.root (P := Tryz.prog) (fn := Tryz.f224) (w0 := w0) (base := base) (E := envE) (ro := ro) (r := r) (T' := T') (n' := n') (ρ0 := ρ0) c a a' w hd hq) (by kernel_rfl) ?_
 refine MV.step0 (i := 0) rfl (VAL.move rfl) rfl rfl rfl ?_
 refine MV.step0 (i := 1) rfl (VAL.move rfl) rfl rfl rfl ?_
 refine MV.step0 (i := 2) rfl (VAL.move rfl) rfl rfl rfl ?_
 refine MV.lift0 (i := 3) rfl (V.ia h1 rfl rfl Rcf.el50) rfl rfl rfl fun x15_1 h2 => ?_
 refine MV.lift1 (i := 4) rfl (fun _ z => z) (V.ldA hS h2 rfl Rcf.agg58) rfl rfl rfl [] (by kernel_rfl) fun x16_2 h3 => ?_
 refine MV.step0 (i := 5) rfl (VAL.move rfl) rfl rfl rfl ?_
 refine MV.step0 (i := 6) rfl (VAL.move rfl) rfl rfl rfl ?_
 refine MV.lift0 (i := 7) rfl (V.ia h3 rfl rfl Rcf.el50) rfl rfl rfl fun x19_3 h4 => ?_
 refine MV.lift1 (i := 8) rfl (fun _ z => z) (V.ldA hS h4 rfl Rcf.agg58) rfl rfl rfl [4] (by kernel_rfl) fun x20_4 h5 => ?_
 refine MV.force (i := 9) rfl ?_
 refine LV.callD (G := fun f gs => scc2 4000 f ro gs T nx) (qs := [x16_2, x20_4]) hS h5 (fun f gs => scc2_ok _ _ _ _ _ _) hP rfl rfl rfl rfl rfl rfl rfl fun x21_5 T1 n1 h6 ρ its hS => ?_
 refine LV.nextM [] (by kernel_rfl) (fun z => absurd rfl z) ?_
 refine MV.force (i := 10) rfl ?_
 refine vy (V.lt h6 rfl rfl) fun x22_6 h7 => ?_
 refine LV.nextM [] (by kernel_rfl) (fun z => absurd rfl z) ?_
 refine mdn ?_
 refine CV.cond h7 rfl (fun e h8 => ?_) (fun e h8 => ?_)
 ·
  clear h1 h2 h3 h4 h5 h6 h7
  subst e
  refine sr ?_
  refine mv ?_
  refine vy (V.nc h8 rfl) fun x24_7 h9 => ?_
  refine vy (V.ld hS h9 rfl Rcf.one3) fun x25_8 h10 => ?_
  refine vy (V.add h10 rfl rfl) fun x26_9 h11 => ?_
  refine vy (V.nc h11 rfl) fun x27_10 h12 => ?_
  refine LV.st hS h12 rfl rfl rfl Rcf.siz3 rfl rfl fun T2 its h13 hS => ?_
  refine dn ?_
  refine sr ?_
  refine mv ?_
  refine mv ?_
  refine as_ ?_
  refine as_ ?_
  refine dn ?_
  refine CV.ret ?_
  refine PV.thenR ?_
  cases h13
  exact PV.ret (by simp) Tryz.results224 hS (RS.tmp rfl (RS.tmp rfl RS.nil)) rfl
 ·
  clear h1 h2 h3 h4 h5 h6 h7
  subst e
  refine CV.skip ?_
  refine PV.thenN ?_
  refine sr ?_
  refine mv ?_
  refine mv ?_
  refine as_ ?_
  refine as_ ?_
  refine dn ?_
  refine CV.ret ?_
  cases h8
  exact PV.ret (by simp) Tryz.results224 hS (RS.tmp rfl (RS.tmp rfl RS.nil)) rfl
noncomputable def g204 (ro : List HT) (a0 a1 a2 a3 a4 a5 : AV) (T : HT) (nx : Nat) : R :=
 callK (g224 ro a0 a1 a2 a4 a5 T nx) fun x19_1 T1 n1 =>
 exK 2040009 x19_1 0 fun x20_2 =>
 exK 2040010 x19_1 1 fun x21_3 =>
 callK (g224 ro a0 x21_3 a3 a4 a5 T1 n1) fun x28_4 T2 n2 =>
 exK 2040020 x28_4 0 fun x29_5 =>
 exK 2040021 x28_4 1 fun x30_6 =>
 callK (g224 ro a0 x20_2 x29_5 a4 a5 T2 n2) fun x37_7 T3 n3 =>
 exK 2040031 x37_7 0 fun x38_8 =>
 exK 2040032 x37_7 1 fun x39_9 =>
 .ok (.val x39_9) T3 n3
theorem g204_ok (ro : List HT) (a0 a1 a2 a3 a4 a5 : AV) (T : HT) (nx : Nat) : GOk Tryz.prog envE 204 [a0, a1, a2, a3, a4, a5] ro T nx (g204 ro a0 a1 a2 a3 a4 a5 T nx) := by
 refine GOk.of_body Tryz.func204 rfl Tryz.ntmps204 (by kernel_rfl) rfl fun r T' n' h1 w0 base ρ0 its hS hP => ?_
 have X : CtxW envE ρ0 ro r T' n' := trivial
 unfold g204 at h1
 refine sr ?_
 refine as_ ?_
 refine dn ?_
 refine sr ?_
 refine mv ?_
 refine mv ?_
 refine mv ?_
 refine mv ?_
 refine mv ?_
 refine LV.call hS h1 (g224_ok _ _ _ _ _ _ _ _ ) hP rfl rfl rfl rfl fun x19_1 T1 n1 h2 ρ its hS => ?_
 refine mv ?_
 refine vy (V.ex h2 rfl) fun x20_2 h3 => ?_
 refine vy (V.ex h3 rfl) fun x21_3 h4 => ?_
 refine as_ ?_
 refine as_ ?_
 refine dn ?_
 refine sr ?_
 refine mv ?_
 refine mv ?_
 refine mv ?_
 refine mv ?_
 refine mv ?_
 refine LV.call hS h4 (g224_ok _ _ _ _ _ _ _ _ ) hP rfl rfl rfl rfl fun x28_4 T2 n2 h5 ρ its hS => ?_
 refine mv ?_
 refine vy (V.ex h5 rfl) fun x29_5 h6 => ?_
 refine vy (V.ex h6 rfl) fun x30_6 h7 => ?_
 refine as_ ?_
 refine as_ ?_
 refine dn ?_
 refine sr ?_
 refine mv ?_
 refine mv ?_
 refine mv ?_
 refine mv ?_
 refine mv ?_
 refine LV.call hS h7 (g224_ok _ _ _ _ _ _ _ _ ) hP rfl rfl rfl rfl fun x37_7 T3 n3 h8 ρ its hS => ?_
 refine mv ?_
 refine vy (V.ex h8 rfl) fun x38_8 h9 => ?_
 refine vy (V.ex h9 rfl) fun x39_9 h10 => ?_
 refine as_ ?_
 refine as_ ?_
 refine dn ?_
 refine sr ?_
 refine mv ?_
 refine as_ ?_
 refine dn ?_
 refine CV.ret ?_
 cases h10
 exact PV.ret (by simp) Tryz.results204 hS (RS.tmp rfl RS.nil) rfl
noncomputable def g156_k1 (ro : List HT) (y8 y9 y11 y13 : AV) (T2 : HT) (n2 : Nat) : R :=
 ldK 1560026 T2 ro y11 fun x55_12 =>
 eqK Tryz.prog 3 (.tmp 55) (.const (.int .i64 (.ofNat 0))) 1560027 x55_12 (.lit (.int .i64 (.ofNat 0))) fun x58_13 =>
 condK 1560029 x58_13
 (
  .ok (.val (.tup [y13, (.lit (.int .i64 (.ofNat 1)))])) T2 n2
 )
 (
  eqK Tryz.prog 3 (.tmp 55) (.const (.int .i64 (.ofNat 12))) 1560033 x55_12 (.lit (.int .i64 (.ofNat 12))) fun x61_14 =>
  condK 1560035 x61_14
  (
   .bad 1560036
  )
  (
   .ok (.val (.tup [y13, (.lit (.int .i64 (.ofNat 0)))])) T2 n2
  )
 )
noncomputable def g156 (ro : List HT) (a0 a1 a2 a3 : AV) (T : HT) (nx : Nat) : R :=
 subK Tryz.prog 3 (.tmp 15) (.tmp 16) 1560005 a2 a1 fun x17_1 =>
 newK T nx (.obj [.lit (.int .i64 0)] 3) fun x11_2 T1 n1 =>
 bin0 Tryz.prog .quo 3 (.tmp 19) (.const (.int .i64 (.ofNat 4))) 1560010 x17_1 (.lit (.int .i64 (.ofNat 4))) fun x20_3 =>
 bin0 Tryz.prog .mul 3 (.tmp 20) (.const (.int .i64 (.ofNat 1))) 1560011 x20_3 (.lit (.int .i64 (.ofNat 1))) fun x21_4 =>
 addK Tryz.prog 3 (.tmp 18) (.tmp 21) 1560012 a1 x21_4 fun x22_5 =>
 bin0 Tryz.prog .quo 3 (.tmp 24) (.const (.int .i64 (.ofNat 4))) 1560016 x17_1 (.lit (.int .i64 (.ofNat 4))) fun x25_6 =>
 bin0 Tryz.prog .mul 3 (.tmp 25) (.const (.int .i64 (.ofNat 2))) 1560017 x25_6 (.lit (.int .i64 (.ofNat 2))) fun x26_7 =>
 addK Tryz.prog 3 (.tmp 23) (.tmp 26) 1560018 a1 x26_7 fun x27_8 =>
 bin0 Tryz.prog .quo 3 (.tmp 29) (.const (.int .i64 (.ofNat 4))) 1560022 x17_1 (.lit (.int .i64 (.ofNat 4))) fun x30_9 =>
 bin0 Tryz.prog .mul 3 (.tmp 30) (.const (.int .i64 (.ofNat 3))) 1560023 x30_9 (.lit (.int .i64 (.ofNat 3))) fun x31_10 =>
 addK Tryz.prog 3 (.tmp 28) (.tmp 31) 1560024 a1 x31_10 fun x32_11 =>
 geK Tryz.prog 3 (.tmp 33) (.const (.int .i64 (.ofNat 8))) 1560041 x17_1 (.lit (.int .i64 (.ofNat 8))) fun x34_15 =>
 condK 1560042 x34_15
 (
  geK Tryz.prog 3 (.tmp 35) (.const (.int .i64 (.ofNat 50))) 1560044 x17_1 (.lit (.int .i64 (.ofNat 50))) fun x36_16 =>
  condK 1560045 x36_16
  (
   .bad 1560046
  )
  (
   callK (g204 ro a0 x22_5 x27_8 x32_11 x11_2 a3 T1 n1) fun x54_17 T3 n3 =>
   g156_k1 ro (.lit (.int .i64 (.ofNat 0))) (.lit (.int .i64 (.ofNat 0))) x11_2 x54_17 T3 n3
  )
 )
 (
  g156_k1 ro (.lit (.int .i64 (.ofNat 0))) (.lit (.int .i64 (.ofNat 0))) x11_2 x27_8 T1 n1
 )
theorem g156_ok (ro : List HT) (a0 a1 a2 a3 : AV) (T : HT) (nx : Nat) : GOk Tryz.prog envE 156 [a0, a1, a2, a3] ro T nx (g156 ro a0 a1 a2 a3 T nx) := by
 refine GOk.of_body Tryz.func156 rfl Tryz.ntmps156 (by kernel_rfl) rfl fun r T' n' h1 w0 base ρ0 its hS hP => ?_
 have X : CtxW envE ρ0 ro r T' n' := trivial
 unfold g156 at h1
 refine sr ?_
 refine as_ ?_
 refine as_ ?_
 refine dn ?_
 refine sr ?_
 refine mv ?_
 refine mv ?_
 refine vy (V.sub h1 rfl rfl) fun x17_1 h2 => ?_
 refine as_ ?_
 refine dn ?_
 refine sr ?_
 refine LV.alloc hS h2 rfl Rcf.zr3 rfl rfl rfl fun x11_2 T1 n1 h3 ρ its hS hdr => ?_
 refine dn ?_
 refine sr ?_
 refine mv ?_
 refine mv ?_
 refine vy (V.bin0 h3 rfl rfl) fun x20_3 h4 => ?_
 refine vy (V.bin0 h4 rfl rfl) fun x21_4 h5 => ?_
 refine vy (V.add h5 rfl rfl) fun x22_5 h6 => ?_
 refine as_ ?_
 refine dn ?_
 refine sr ?_
 refine mv ?_
 refine mv ?_
 refine vy (V.bin0 h6 rfl rfl) fun x25_6 h7 => ?_
 refine vy (V.bin0 h7 rfl rfl) fun x26_7 h8 => ?_
 refine vy (V.add h8 rfl rfl) fun x27_8 h9 => ?_
 refine as_ ?_
 refine dn ?_
 refine sr ?_
 refine mv ?_
 refine mv ?_
 refine vy (V.bin0 h9 rfl rfl) fun x30_9 h10 => ?_
 refine vy (V.bin0 h10 rfl rfl) fun x31_10 h11 => ?_
 refine vy (V.add h11 rfl rfl) fun x32_11 h12 => ?_
 refine as_ ?_
 refine dn ?_
 refine cs4 X 8 9 11 13 [] (g156_k1 ro) ?_ ?_
 ·
  refine sr ?_
  refine mv ?_
  refine vy (V.ge h12 rfl rfl) fun x34_15 h19 => ?_
  refine dn ?_
  refine CV.cond h19 rfl (fun e h20 => ?_) (fun e h20 => ?_)
  ·
   clear h1 h2 h3 h4 h5 h6 h7 h8 h9 h10 h11 h12 h19
   subst e
   refine CV.seq ?_
   refine sr ?_
   refine mv ?_
   refine vy (V.ge h20 rfl rfl) fun x36_16 h21 => ?_
   refine dn ?_
   refine CV.cond h21 rfl (fun e h22 => ?_) (fun e h22 => ?_)
   ·
    clear h20 h21
    subst e
    cases h22
   ·
    clear h20 h21
    subst e
    refine CV.skip ?_
    refine PV.thenN ?_
    refine CV.region ?_
    refine mv ?_
    refine mv ?_
    refine mv ?_
    refine mv ?_
    refine mv ?_
    refine LV.call hS h22 (g204_ok _ _ _ _ _ _ _ _ _ ) hP rfl rfl rfl rfl fun x54_17 T3 n3 h23 ρ its hS => ?_
    refine as_ ?_
    refine LV.done ?_
    exact pa4 hS h23 ⟨rfl, rfl, rfl, rfl, trivial⟩
  ·
   clear h1 h2 h3 h4 h5 h6 h7 h8 h9 h10 h11 h12 h19
   subst e
   refine CV.skip ?_
   exact pa4 hS h20 ⟨rfl, rfl, rfl, rfl, trivial⟩
 ·
  intro y8 y9 y11 y13 T2 n2 ρ its hS h13
  unfold g156_k1 at h13
  clear h1 h2 h3 h4 h5 h6 h7 h8 h9 h10 h11 h12
  refine sr ?_
  refine vy (V.ld hS h13 rfl Rcf.one3) fun x55_12 h14 => ?_
  refine dn ?_
  refine CV.block ?_
  refine sr ?_
  refine vy (V.eq h14 rfl rfl) fun x58_13 h15 => ?_
  refine as_ ?_
  refine dn ?_
  refine CV.cond h15 rfl (fun e h16 => ?_) (fun e h16 => ?_)
  ·
   clear h13 h14 h15
   subst e
   refine sr ?_
   refine mv ?_
   refine as_ ?_
   refine as_ ?_
   refine dn ?_
   refine CV.ret ?_
   refine PV.blockR ?_
   cases h16
   exact PV.ret (by simp) Tryz.results156 hS (RS.tmp rfl (RS.tmp rfl RS.nil)) rfl
  ·
   clear h13 h14 h15
   subst e
   refine sr ?_
   refine vy (V.eq h16 rfl rfl) fun x61_14 h17 => ?_
   refine as_ ?_
   refine dn ?_
   refine CV.cond h17 rfl (fun e h18 => ?_) (fun e h18 => ?_)
   ·
    clear h16 h17
    subst e
    cases h18
   ·
    clear h16 h17
    subst e
    refine sr ?_
    refine mv ?_
    refine as_ ?_
    refine as_ ?_
    refine dn ?_
    refine CV.ret ?_
    refine PV.blockR ?_
    cases h18
    exact PV.ret (by simp) Tryz.results156 hS (RS.tmp rfl (RS.tmp rfl RS.nil)) rfl
noncomputable def g158_k3 (ro : List HT) (lp1 : AV → AV → AV → AV → AV → AV → AV → HT → Nat → R) (lp2 : AV → AV → AV → AV → AV → AV → AV → HT → Nat → R) (y0 y1 y2 y3 y8 y9 y10 y36 : AV) (T3 : HT) (n3 : Nat) : R :=
 condK 1580011 y36
 (
  addK Tryz.prog 3 (.tmp 37) (.const (.int .i64 (.ofNat 1))) 1580013 y9 (.lit (.int .i64 (.ofNat 1))) fun x38_3 =>
  lp2 y0 y1 y2 y3 y8 x38_3 y10 T3 n3
 )
 (
  eqK Tryz.prog 3 (.tmp 39) (.tmp 40) 1580017 y9 y2 fun x41_4 =>
  condK 1580018 x41_4
  (
   .ok (.val (.lit (.bool true))) T3 n3
  )
  (
   subK Tryz.prog 3 (.tmp 42) (.tmp 43) 1580022 y2 y1 fun x44_5 =>
   ltK Tryz.prog 3 (.tmp 44) (.const (.int .i64 (.ofNat 50))) 1580023 x44_5 (.lit (.int .i64 (.ofNat 50))) fun x45_6 =>
   condK 1580024 x45_6
   (
    .ok (.val (.lit (.bool false))) T3 n3
   )
   (
    subK Tryz.prog 3 (.tmp 49) (.const (.int .i64 (.ofNat 1))) 1580030 y9 (.lit (.int .i64 (.ofNat 1))) fun x50_7 =>
    subK Tryz.prog 3 (.tmp 52) (.const (.int .i64 (.ofNat 1))) 1580033 y9 (.lit (.int .i64 (.ofNat 1))) fun x53_8 =>
    iaK 1580034 y0 x53_8 3 fun x54_9 =>
    ldAK 1580035 T3 ro x54_9 3 fun x55_10 =>
    iaK 1580038 y0 y9 3 fun x58_11 =>
    ldAK 1580039 T3 ro x58_11 3 fun x59_12 =>
    iaK 1580040 y0 y9 3 fun x60_13 =>
    stAK 1580041 T3 x60_13 x55_10 3 fun T4 =>
    iaK 1580042 y0 x50_7 3 fun x61_14 =>
    stAK 1580043 T4 x61_14 x59_12 3 fun T5 =>
    subK Tryz.prog 3 (.tmp 62) (.tmp 63) 1580046 y9 y1 fun x64_15 =>
    geK Tryz.prog 3 (.tmp 64) (.const (.int .i64 (.ofNat 2))) 1580047 x64_15 (.lit (.int .i64 (.ofNat 2))) fun x65_16 =>
    condK 1580048 x65_16
    (
     .bad 1580049
    )
    (
     subK Tryz.prog 3 (.tmp 101) (.tmp 102) 1580052 y2 y9 fun x103_17 =>
     geK Tryz.prog 3 (.tmp 103) (.const (.int .i64 (.ofNat 2))) 1580053 x103_17 (.lit (.int .i64 (.ofNat 2))) fun x104_18 =>
     condK 1580054 x104_18
     (
      .bad 1580055
     )
     (
      addK Tryz.prog 3 (.tmp 17) (.const (.int .i64 (.ofNat 1))) 1580057 y10 (.lit (.int .i64 (.ofNat 1))) fun x18_19 =>
      lp1 y0 y1 y2 y3 y8 y9 x18_19 T5 n3
     )
    )
   )
  )
 )
noncomputable def g158_b2 (ro : List HT) (lp1 : AV → AV → AV → AV → AV → AV → AV → HT → Nat → R) (lp2 : AV → AV → AV → AV → AV → AV → AV → HT → Nat → R) (y0 y1 y2 y3 y8 y9 y10 : AV) (T2 : HT) (n2 : Nat) : R :=
 ltK Tryz.prog 3 (.tmp 19) (.tmp 20) 1580061 y9 y2 fun x21_20 =>
 condK 1580063 x21_20
 (
  iaK 1580067 y0 y9 3 fun x26_21 =>
  ldAK 1580068 T2 ro x26_21 3 fun x27_22 =>
  subK Tryz.prog 3 (.tmp 29) (.const (.int .i64 (.ofNat 1))) 1580071 y9 (.lit (.int .i64 (.ofNat 1))) fun x30_23 =>
  iaK 1580072 y0 x30_23 3 fun x31_24 =>
  ldAK 1580073 T2 ro x31_24 3 fun x32_25 =>
  dynK 1580074 y3 fun f p q => callK (scc2 4000 f ro (p ++ ([x27_22, x32_25] ++ q)) T2 n2) fun x33_26 T6 n6 =>
  ltK Tryz.prog 3 (.tmp 33) (.const (.int .i64 (.ofNat 0))) 1580075 x33_26 (.lit (.int .i64 (.ofNat 0))) fun x34_27 =>
  notK 1580076 x34_27 fun x35_28 =>
  g158_k3 ro lp1 lp2 y0 y1 y2 y3 y8 y9 y10 x35_28 T6 n6
 )
 (
  g158_k3 ro lp1 lp2 y0 y1 y2 y3 y8 y9 y10 (.lit (.bool false)) T2 n2
 )
noncomputable def g158_b1 (ro : List HT) (lp1 : AV → AV → AV → AV → AV → AV → AV → HT → Nat → R) (y0 y1 y2 y3 y8 y9 y10 : AV) (T1 : HT) (n1 : Nat) : R :=
 ltK Tryz.prog 3 (.tmp 15) (.const (.int .i64 (.ofNat 5))) 1580008 y10 (.lit (.int .i64 (.ofNat 5))) fun x16_2 =>
 condK 1580009 x16_2
 (
  lpf7 1580010 (g158_b2 ro lp1) 100000 y0 y1 y2 y3 y8 y9 y10 T1 n1
 )
 (
  .ok (.val (.lit (.bool false))) T1 n1
 )
noncomputable def g158 (ro : List HT) (a0 a1 a2 a3 : AV) (T : HT) (nx : Nat) : R :=
 addK Tryz.prog 3 (.tmp 13) (.const (.int .i64 (.ofNat 1))) 1580003 a1 (.lit (.int .i64 (.ofNat 1))) fun x14_1 =>
 lpf7 1580006 (g158_b1 ro) 100000 a0 a1 a2 a3 (.lit (.bool false)) x14_1 (.lit (.int .i64 (.ofNat 0))) T nx
theorem g158_ok (ro : List HT) (a0 a1 a2 a3 : AV) (T : HT) (nx : Nat) : GOk Tryz.prog envE 158 [a0, a1, a2, a3] ro T nx (g158 ro a0 a1 a2 a3 T nx) := by
 refine GOk.of_body Tryz.func158 rfl Tryz.ntmps158 (by kernel_rfl) rfl fun r T' n' h1 w0 base ρ0 its hS hP => ?_
 have X : CtxW envE ρ0 ro r T' n' := trivial
 unfold g158 at h1
 refine sr ?_
 refine as_ ?_
 refine dn ?_
 refine sr ?_
 refine mv ?_
 refine vy (V.add h1 rfl rfl) fun x14_1 h2 => ?_
 refine as_ ?_
 refine dn ?_
 refine CV.seq ?_
 refine sr ?_
 refine as_ ?_
 refine dn ?_
 refine CV.block ?_
 refine cl7 X 0 1 2 3 8 9 10 [] hS h2 ⟨rfl, rfl, rfl, rfl, rfl, rfl, rfl, trivial⟩ ?_
 intro f1 y0 y1 y2 y3 y8 y9 y10 T1 n1 ρ its hS h3
 unfold g158_b1 at h3
 clear h1 h2
 refine CV.seq ?_
 refine sr ?_
 refine mv ?_
 refine vy (V.lt h3 rfl rfl) fun x16_2 h4 => ?_
 refine dn ?_
 refine CV.cond h4 rfl (fun e h5 => ?_) (fun e h5 => ?_)
 ·
  clear h3 h4
  subst e
  refine CV.skip ?_
  refine PV.thenN ?_
  refine CV.seq ?_
  refine CV.block ?_
  refine CV.seq ?_
  refine CV.block ?_
  refine cl7 X 0 1 2 3 8 9 10 [] hS h5 ⟨rfl, rfl, rfl, rfl, rfl, rfl, rfl, trivial⟩ ?_
  intro f2 y0 y1 y2 y3 y8 y9 y10 T2 n2 ρ its hS h6
  unfold g158_b2 at h6
  clear h5
  refine CV.seq ?_
  refine cs8 X 0 1 2 3 8 9 10 36 [] (g158_k3 ro (lpf7 1580006 (g158_b1 ro) f1) (lpf7 1580010 (g158_b2 ro (lpf7 1580006 (g158_b1 ro) f1)) f2)) ?_ ?_
  ·
   refine CV.regionM [(0, .anywhere), (1, .anywhere), (2, .anywhere), (3, .anywhere), (4, .anywhere), (5, .anywhere), (6, .anywhere), (7, .anywhere), (8, .held), (9, .anywhere), (10, .anywhere), (11, .anywhere), (12, .anywhere), (13, .held), (14, .alone), (15, .alone), (16, .alone), (17, .alone)] rfl (fun c a a' w hd hq => PanicOk.root (P := Tryz.prog) (fn := Tryz.f158) (w0 := w0) (base := base) (E := envE) (ro := ro) (r := r) (T' := T') (n' := n') (ρ0 := ρ0) c a a' w hd hq) (by kernel_rfl) ?_
   refine MV.step0 (i := 0) rfl (VAL.move rfl) rfl rfl rfl ?_
   refine MV.step0 (i := 1) rfl (VAL.move rfl) rfl rfl rfl ?_
   refine MV.lift0 (i := 2) rfl (V.lt h6 rfl rfl) rfl rfl rfl fun x21_20 h32 => ?_
   refine MV.step0 (i := 3) rfl (VAL.move rfl) rfl rfl rfl ?_
   rcases condK_inv h32 with ⟨e, h33⟩ | ⟨e, h33⟩
   ·
    clear h6 h32
    subst e
    refine MV.step0 (i := 4) rfl (VAL.move rfl) rfl rfl rfl ?_
    refine MV.step0 (i := 5) rfl (VAL.move rfl) rfl rfl rfl ?_
    refine MV.step0 (i := 6) rfl (VAL.move rfl) rfl rfl rfl ?_
    refine MV.lift0 (i := 7) rfl (V.ia h33 rfl rfl Rcf.el50) rfl rfl rfl fun x26_21 h34 => ?_
    refine MV.lift1 (i := 8) rfl (fun _ z => z) (V.ldA hS h34 rfl Rcf.agg58) rfl rfl rfl [] (by kernel_rfl) fun x27_22 h35 => ?_
    refine MV.step0 (i := 9) rfl (VAL.move rfl) rfl rfl rfl ?_
    refine MV.step0 (i := 10) rfl (VAL.move rfl) rfl rfl rfl ?_
    refine MV.lift0 (i := 11) rfl (V.sub h35 rfl rfl) rfl rfl rfl fun x30_23 h36 => ?_
    refine MV.lift0 (i := 12) rfl (V.ia h36 rfl rfl Rcf.el50) rfl rfl rfl fun x31_24 h37 => ?_
    refine MV.lift1 (i := 13) rfl (fun _ z => z) (V.ldA hS h37 rfl Rcf.agg58) rfl rfl rfl [8] (by kernel_rfl) fun x32_25 h38 => ?_
    refine MV.force (i := 14) rfl ?_
    refine LV.callD (G := fun f gs => scc2 4000 f ro gs T2 n2) (qs := [x27_22, x32_25]) hS h38 (fun f gs => scc2_ok _ _ _ _ _ _) hP rfl rfl rfl rfl rfl rfl rfl fun x33_26 T6 n6 h39 ρ its hS => ?_
    refine LV.nextM [] (by kernel_rfl) (fun z => absurd rfl z) ?_
    refine MV.force (i := 15) rfl ?_
    refine vy (V.lt h39 rfl rfl) fun x34_27 h40 => ?_
    refine LV.nextM [] (by kernel_rfl) (fun z => absurd rfl z) ?_
    refine MV.force (i := 16) rfl ?_
    refine vy (V.not h40 rfl) fun x35_28 h41 => ?_
    refine LV.nextM [] (by kernel_rfl) (fun z => absurd rfl z) ?_
    refine MV.force (i := 17) rfl ?_
    refine pu ?_
    refine LV.nextM [] (by kernel_rfl) (fun z => absurd rfl z) ?_
    refine MV.done ?_
    exact pa8 hS h41 ⟨rfl, rfl, rfl, rfl, rfl, rfl, rfl, rfl, trivial⟩
   ·
    clear h6 h32
    subst e
    refine MV.skip0 (i := 4) rfl rfl rfl rfl ?_
    refine MV.skip0 (i := 5) rfl rfl rfl rfl ?_
    refine MV.skip0 (i := 6) rfl rfl rfl rfl ?_
    refine MV.skip0 (i := 7) rfl rfl rfl rfl ?_
    refine MV.skip1 (i := 8) rfl (fun _ z => z) rfl rfl rfl [] (by kernel_rfl) ?_
    refine MV.skip0 (i := 9) rfl rfl rfl rfl ?_
    refine MV.skip0 (i := 10) rfl rfl rfl rfl ?_
    refine MV.skip0 (i := 11) rfl rfl rfl rfl ?_
    refine MV.skip0 (i := 12) rfl rfl rfl rfl ?_
    refine MV.skip1 (i := 13) rfl (fun _ z => z) rfl rfl rfl [8] (by kernel_rfl) ?_
    refine MV.force (i := 14) rfl ?_
    refine sk ?_
    refine LV.nextM [] (by kernel_rfl) (fun z => absurd rfl z) ?_
    refine MV.force (i := 15) rfl ?_
    refine sk ?_
    refine LV.nextM [] (by kernel_rfl) (fun z => absurd rfl z) ?_
    refine MV.force (i := 16) rfl ?_
    refine sk ?_
    refine LV.nextM [] (by kernel_rfl) (fun z => absurd rfl z) ?_
    refine MV.force (i := 17) rfl ?_
    refine pu ?_
    refine LV.nextM [] (by kernel_rfl) (fun z => absurd rfl z) ?_
    refine MV.done ?_
    exact pa8 hS h33 ⟨rfl, rfl, rfl, rfl, rfl, rfl, rfl, rfl, trivial⟩
  ·
   intro y0 y1 y2 y3 y8 y9 y10 y36 T3 n3 ρ its hS h7
   unfold g158_k3 at h7
   clear h6
   refine CV.cond h7 rfl (fun e h8 => ?_) (fun e h8 => ?_)
   ·
    clear h7
    subst e
    refine CV.skip ?_
    refine PV.thenN ?_
    refine CV.block ?_
    refine CV.region ?_
    refine mv ?_
    refine vy (V.add h8 rfl rfl) fun x38_3 h9 => ?_
    refine as_ ?_
    refine LV.done ?_
    refine PV.blockN ?_
    exact pb7 hS h9 ⟨rfl, rfl, rfl, rfl, rfl, rfl, rfl, trivial⟩
   ·
    clear h7
    subst e
    refine CV.exit ?_
    refine PV.thenE ?_
    refine PV.thenE ?_
    refine PV.blockE ?_
    refine PV.thenN ?_
    refine CV.seq ?_
    refine sr ?_
    refine mv ?_
    refine mv ?_
    refine vy (V.eq h8 rfl rfl) fun x41_4 h10 => ?_
    refine dn ?_
    refine CV.cond h10 rfl (fun e h11 => ?_) (fun e h11 => ?_)
    ·
     clear h8 h10
     subst e
     refine sr ?_
     refine as_ ?_
     refine dn ?_
     refine CV.ret ?_
     refine PV.thenR ?_
     refine PV.blockR ?_
     refine PV.thenR ?_
     refine PV.thenR ?_
     refine PV.blockR ?_
     refine PV.thenR ?_
     cases h11
     exact PV.ret (by simp) Tryz.results158 hS (RS.tmp rfl RS.nil) rfl
    ·
     clear h8 h10
     subst e
     refine CV.skip ?_
     refine PV.thenN ?_
     refine CV.seq ?_
     refine sr ?_
     refine mv ?_
     refine mv ?_
     refine vy (V.sub h11 rfl rfl) fun x44_5 h12 => ?_
     refine vy (V.lt h12 rfl rfl) fun x45_6 h13 => ?_
     refine dn ?_
     refine CV.cond h13 rfl (fun e h14 => ?_) (fun e h14 => ?_)
     ·
      clear h11 h12 h13
      subst e
      refine sr ?_
      refine as_ ?_
      refine dn ?_
      refine CV.ret ?_
      refine PV.thenR ?_
      refine PV.blockR ?_
      refine PV.thenR ?_
      refine PV.thenR ?_
      refine PV.blockR ?_
      refine PV.thenR ?_
      cases h14
      exact PV.ret (by simp) Tryz.results158 hS (RS.tmp rfl RS.nil) rfl
     ·
      clear h11 h12 h13
      subst e
      refine CV.skip ?_
      refine PV.thenN ?_
      refine CV.seq ?_
      refine CV.regionM [(0, .anywhere), (1, .anywhere), (2, .anywhere), (3, .anywhere), (4, .anywhere), (5, .anywhere), (6, .anywhere), (7, .anywhere), (8, .anywhere), (9, .held), (10, .anywhere), (11, .anywhere), (12, .anywhere), (13, .held), (14, .held), (15, .alone), (16, .alone), (17, .alone)] rfl (fun c a a' w hd hq => PanicOk.root (P := Tryz.prog) (fn := Tryz.f158) (w0 := w0) (base := base) (E := envE) (ro := ro) (r := r) (T' := T') (n' := n') (ρ0 := ρ0) c a a' w hd hq) (by kernel_rfl) ?_
      refine MV.step0 (i := 0) rfl (VAL.move rfl) rfl rfl rfl ?_
      refine MV.step0 (i := 1) rfl (VAL.move rfl) rfl rfl rfl ?_
      refine MV.step0 (i := 2) rfl (VAL.move rfl) rfl rfl rfl ?_
      refine MV.step0 (i := 3) rfl (VAL.move rfl) rfl rfl rfl ?_
      refine MV.lift0 (i := 4) rfl (V.sub h14 rfl rfl) rfl rfl rfl fun x50_7 h15 => ?_
      refine MV.step0 (i := 5) rfl (VAL.move rfl) rfl rfl rfl ?_
      refine MV.step0 (i := 6) rfl (VAL.move rfl) rfl rfl rfl ?_
      refine MV.lift0 (i := 7) rfl (V.sub h15 rfl rfl) rfl rfl rfl fun x53_8 h16 => ?_
      refine MV.lift0 (i := 8) rfl (V.ia h16 rfl rfl Rcf.el50) rfl rfl rfl fun x54_9 h17 => ?_
      refine MV.lift1 (i := 9) rfl (fun _ z => z) (V.ldA hS h17 rfl Rcf.agg58) rfl rfl rfl [] (by kernel_rfl) fun x55_10 h18 => ?_
      refine MV.step0 (i := 10) rfl (VAL.move rfl) rfl rfl rfl ?_
      refine MV.step0 (i := 11) rfl (VAL.move rfl) rfl rfl rfl ?_
      refine MV.lift0 (i := 12) rfl (V.ia h18 rfl rfl Rcf.el50) rfl rfl rfl fun x58_11 h19 => ?_
      refine MV.lift1 (i := 13) rfl (fun _ z => z) (V.ldA hS h19 rfl Rcf.agg58) rfl rfl rfl [9] (by kernel_rfl) fun x59_12 h20 => ?_
      refine MV.lift1 (i := 14) rfl (fun _ z => z) (V.ia h20 rfl rfl Rcf.el50) rfl rfl rfl [] (by kernel_rfl) fun x60_13 h21 => ?_
      refine MV.force (i := 15) rfl ?_
      refine LV.stA hS h21 rfl rfl rfl Rcf.agg58 rfl rfl rfl fun T4 its h22 hS => ?_
      refine LV.nextM [] (by kernel_rfl) (fun z => absurd rfl z) ?_
      refine MV.force (i := 16) rfl ?_
      refine vy (V.ia h22 rfl rfl Rcf.el50) fun x61_14 h23 => ?_
      refine LV.nextM [] (by kernel_rfl) (fun z => absurd rfl z) ?_
      refine MV.force (i := 17) rfl ?_
      refine LV.stA hS h23 rfl rfl rfl Rcf.agg58 rfl rfl rfl fun T5 its h24 hS => ?_
      refine LV.nextM [] (by kernel_rfl) (fun z => absurd rfl z) ?_
      refine mdn ?_
      refine CV.seq ?_
      refine sr ?_
      refine mv ?_
      refine mv ?_
      refine vy (V.sub h24 rfl rfl) fun x64_15 h25 => ?_
      refine vy (V.ge h25 rfl rfl) fun x65_16 h26 => ?_
      refine dn ?_
      refine CV.cond h26 rfl (fun e h27 => ?_) (fun e h27 => ?_)
      ·
       clear h14 h15 h16 h17 h18 h19 h20 h21 h22 h23 h24 h25 h26
       subst e
       cases h27
      ·
       clear h14 h15 h16 h17 h18 h19 h20 h21 h22 h23 h24 h25 h26
       subst e
       refine CV.skip ?_
       refine PV.thenN ?_
       refine sr ?_
       refine mv ?_
       refine mv ?_
       refine vy (V.sub h27 rfl rfl) fun x103_17 h28 => ?_
       refine vy (V.ge h28 rfl rfl) fun x104_18 h29 => ?_
       refine dn ?_
       refine CV.cond h29 rfl (fun e h30 => ?_) (fun e h30 => ?_)
       ·
        clear h27 h28 h29
        subst e
        cases h30
       ·
        clear h27 h28 h29
        subst e
        refine CV.skip ?_
        refine PV.blockN ?_
        refine PV.thenN ?_
        refine CV.region ?_
        refine mv ?_
        refine vy (V.add h30 rfl rfl) fun x18_19 h31 => ?_
        refine as_ ?_
        refine LV.done ?_
        exact pb7 hS h31 ⟨rfl, rfl, rfl, rfl, rfl, rfl, rfl, trivial⟩
 ·
  clear h3 h4
  subst e
  refine CV.exit ?_
  refine PV.thenE ?_
  refine PV.thenE ?_
  refine PV.blockE ?_
  refine PV.thenN ?_
  refine sr ?_
  refine as_ ?_
  refine dn ?_
  refine CV.ret ?_
  cases h5
  exact PV.ret (by simp) Tryz.results158 hS (RS.tmp rfl RS.nil) rfl
noncomputable def g160_k9 (ro : List HT) (lp5 : AV → AV → AV → AV → AV → AV → AV → HT → Nat → R) (lp8 : AV → AV → AV → AV → AV → AV → AV → HT → Nat → R) (y0 y1 y4 y10 y11 y12 y13 y139 : AV) (T15 : HT) (n15 : Nat) : R :=
 condK 1600087 y139
 (
  subK Tryz.prog 3 (.tmp 140) (.const (.int .i64 (.ofNat 1))) 1600089 y13 (.lit (.int .i64 (.ofNat 1))) fun x141_27 =>
  lp8 y0 y1 y4 y10 y11 y12 x141_27 T15 n15
 )
 (
  gtK Tryz.prog 3 (.tmp 142) (.tmp 143) 1600093 y12 y13 fun x144_28 =>
  condK 1600094 x144_28
  (
   iaK 1600101 y0 y1 3 fun x169_29 =>
   ldAK 1600102 T15 ro x169_29 3 fun x170_30 =>
   iaK 1600105 y0 y13 3 fun x173_31 =>
   ldAK 1600106 T15 ro x173_31 3 fun x174_32 =>
   iaK 1600107 y0 y13 3 fun x175_33 =>
   stAK 1600108 T15 x175_33 x170_30 3 fun T16 =>
   iaK 1600109 y0 y1 3 fun x176_34 =>
   stAK 1600110 T16 x176_34 x174_32 3 fun T17 =>
   .ok (.val (.tup [y13, (.lit (.bool false))])) T17 n15
  )
  (
   iaK 1600120 y0 y13 3 fun x151_35 =>
   ldAK 1600121 T15 ro x151_35 3 fun x152_36 =>
   iaK 1600124 y0 y12 3 fun x155_37 =>
   ldAK 1600125 T15 ro x155_37 3 fun x156_38 =>
   iaK 1600126 y0 y12 3 fun x157_39 =>
   stAK 1600127 T15 x157_39 x152_36 3 fun T18 =>
   iaK 1600128 y0 y13 3 fun x158_40 =>
   stAK 1600129 T18 x158_40 x156_38 3 fun T19 =>
   addK Tryz.prog 3 (.tmp 159) (.const (.int .i64 (.ofNat 1))) 1600131 y12 (.lit (.int .i64 (.ofNat 1))) fun x160_41 =>
   subK Tryz.prog 3 (.tmp 161) (.const (.int .i64 (.ofNat 1))) 1600134 y13 (.lit (.int .i64 (.ofNat 1))) fun x162_42 =>
   lp5 y0 y1 y4 y10 y11 x160_41 x162_42 T19 n15
  )
 )
noncomputable def g160_b8 (ro : List HT) (lp5 : AV → AV → AV → AV → AV → AV → AV → HT → Nat → R) (lp8 : AV → AV → AV → AV → AV → AV → AV → HT → Nat → R) (y0 y1 y4 y10 y11 y12 y13 : AV) (T14 : HT) (n14 : Nat) : R :=
 leK Tryz.prog 3 (.tmp 123) (.tmp 124) 1600138 y12 y13 fun x125_43 =>
 condK 1600140 x125_43
 (
  iaK 1600144 y0 y13 3 fun x130_44 =>
  ldAK 1600145 T14 ro x130_44 3 fun x131_45 =>
  iaK 1600148 y0 y1 3 fun x134_46 =>
  ldAK 1600149 T14 ro x134_46 3 fun x135_47 =>
  dynK 1600150 y4 fun f p q => callK (scc2 4000 f ro (p ++ ([x131_45, x135_47] ++ q)) T14 n14) fun x136_48 T20 n20 =>
  ltK Tryz.prog 3 (.tmp 136) (.const (.int .i64 (.ofNat 0))) 1600151 x136_48 (.lit (.int .i64 (.ofNat 0))) fun x137_49 =>
  notK 1600152 x137_49 fun x138_50 =>
  g160_k9 ro lp5 lp8 y0 y1 y4 y10 y11 y12 y13 x138_50 T20 n20
 )
 (
  g160_k9 ro lp5 lp8 y0 y1 y4 y10 y11 y12 y13 (.lit (.bool false)) T14 n14
 )
noncomputable def g160_k7 (ro : List HT) (lp5 : AV → AV → AV → AV → AV → AV → AV → HT → Nat → R) (lp6 : AV → AV → AV → AV → AV → AV → AV → HT → Nat → R) (y0 y1 y4 y10 y11 y12 y13 y120 : AV) (T13 : HT) (n13 : Nat) : R :=
 condK 1600082 y120
 (
  addK Tryz.prog 3 (.tmp 121) (.const (.int .i64 (.ofNat 1))) 1600084 y12 (.lit (.int .i64 (.ofNat 1))) fun x122_26 =>
  lp6 y0 y1 y4 y10 y11 x122_26 y13 T13 n13
 )
 (
  lpf7 1600086 (g160_b8 ro lp5) 100000 y0 y1 y4 y10 y11 y12 y13 T13 n13
 )
noncomputable def g160_b6 (ro : List HT) (lp5 : AV → AV → AV → AV → AV → AV → AV → HT → Nat → R) (lp6 : AV → AV → AV → AV → AV → AV → AV → HT → Nat → R) (y0 y1 y4 y10 y11 y12 y13 : AV) (T12 : HT) (n12 : Nat) : R :=
 leK Tryz.prog 3 (.tmp 105) (.tmp 106) 1600157 y12 y13 fun x107_51 =>
 condK 1600159 x107_51
 (
  iaK 1600163 y0 y12 3 fun x112_52 =>
  ldAK 1600164 T12 ro x112_52 3 fun x113_53 =>
  iaK 1600167 y0 y1 3 fun x116_54 =>
  ldAK 1600168 T12 ro x116_54 3 fun x117_55 =>
  dynK 1600169 y4 fun f p q => callK (scc2 4000 f ro (p ++ ([x113_53, x117_55] ++ q)) T12 n12) fun x118_56 T21 n21 =>
  ltK Tryz.prog 3 (.tmp 118) (.const (.int .i64 (.ofNat 0))) 1600170 x118_56 (.lit (.int .i64 (.ofNat 0))) fun x119_57 =>
  g160_k7 ro lp5 lp6 y0 y1 y4 y10 y11 y12 y13 x119_57 T21 n21
 )
 (
  g160_k7 ro lp5 lp6 y0 y1 y4 y10 y11 y12 y13 (.lit (.bool false)) T12 n12
 )
noncomputable def g160_b5 (ro : List HT) (lp5 : AV → AV → AV → AV → AV → AV → AV → HT → Nat → R) (y0 y1 y4 y10 y11 y12 y13 : AV) (T11 : HT) (n11 : Nat) : R :=
 lpf7 1600081 (g160_b6 ro lp5) 100000 y0 y1 y4 y10 y11 y12 y13 T11 n11
noncomputable def g160_k4 (ro : List HT) (lp3 : AV → AV → AV → AV → AV → AV → AV → HT → Nat → R) (y0 y1 y4 y10 y11 y12 y13 y66 : AV) (T6 : HT) (n6 : Nat) : R :=
 condK 1600031 y66
 (
  subK Tryz.prog 3 (.tmp 67) (.const (.int .i64 (.ofNat 1))) 1600033 y13 (.lit (.int .i64 (.ofNat 1))) fun x68_10 =>
  lp3 y0 y1 y4 y10 y11 y12 x68_10 T6 n6
 )
 (
  gtK Tryz.prog 3 (.tmp 69) (.tmp 70) 1600037 y12 y13 fun x71_11 =>
  condK 1600038 x71_11
  (
   iaK 1600045 y0 y1 3 fun x78_12 =>
   ldAK 1600046 T6 ro x78_12 3 fun x79_13 =>
   iaK 1600049 y0 y13 3 fun x82_14 =>
   ldAK 1600050 T6 ro x82_14 3 fun x83_15 =>
   iaK 1600051 y0 y13 3 fun x84_16 =>
   stAK 1600052 T6 x84_16 x79_13 3 fun T7 =>
   iaK 1600053 y0 y1 3 fun x85_17 =>
   stAK 1600054 T7 x85_17 x83_15 3 fun T8 =>
   .ok (.val (.tup [y13, (.lit (.bool true))])) T8 n6
  )
  (
   iaK 1600064 y0 y13 3 fun x93_18 =>
   ldAK 1600065 T6 ro x93_18 3 fun x94_19 =>
   iaK 1600068 y0 y12 3 fun x97_20 =>
   ldAK 1600069 T6 ro x97_20 3 fun x98_21 =>
   iaK 1600070 y0 y12 3 fun x99_22 =>
   stAK 1600071 T6 x99_22 x94_19 3 fun T9 =>
   iaK 1600072 y0 y13 3 fun x100_23 =>
   stAK 1600073 T9 x100_23 x98_21 3 fun T10 =>
   addK Tryz.prog 3 (.tmp 101) (.const (.int .i64 (.ofNat 1))) 1600075 y12 (.lit (.int .i64 (.ofNat 1))) fun x102_24 =>
   subK Tryz.prog 3 (.tmp 103) (.const (.int .i64 (.ofNat 1))) 1600078 y13 (.lit (.int .i64 (.ofNat 1))) fun x104_25 =>
   lpf7 1600080 (g160_b5 ro) 100000 y0 y1 y4 y10 y11 x102_24 x104_25 T10 n6
  )
 )
noncomputable def g160_b3 (ro : List HT) (lp3 : AV → AV → AV → AV → AV → AV → AV → HT → Nat → R) (y0 y1 y4 y10 y11 y12 y13 : AV) (T5 : HT) (n5 : Nat) : R :=
 leK Tryz.prog 3 (.tmp 50) (.tmp 51) 1600175 y12 y13 fun x52_58 =>
 condK 1600177 x52_58
 (
  iaK 1600181 y0 y13 3 fun x57_59 =>
  ldAK 1600182 T5 ro x57_59 3 fun x58_60 =>
  iaK 1600185 y0 y1 3 fun x61_61 =>
  ldAK 1600186 T5 ro x61_61 3 fun x62_62 =>
  dynK 1600187 y4 fun f p q => callK (scc2 4000 f ro (p ++ ([x58_60, x62_62] ++ q)) T5 n5) fun x63_63 T22 n22 =>
  ltK Tryz.prog 3 (.tmp 63) (.const (.int .i64 (.ofNat 0))) 1600188 x63_63 (.lit (.int .i64 (.ofNat 0))) fun x64_64 =>
  notK 1600189 x64_64 fun x65_65 =>
  g160_k4 ro lp3 y0 y1 y4 y10 y11 y12 y13 x65_65 T22 n22
 )
 (
  g160_k4 ro lp3 y0 y1 y4 y10 y11 y12 y13 (.lit (.bool false)) T5 n5
 )
noncomputable def g160_k2 (ro : List HT) (lp1 : AV → AV → AV → AV → AV → AV → AV → HT → Nat → R) (y0 y1 y4 y10 y11 y12 y13 y47 : AV) (T4 : HT) (n4 : Nat) : R :=
 condK 1600026 y47
 (
  addK Tryz.prog 3 (.tmp 48) (.const (.int .i64 (.ofNat 1))) 1600028 y12 (.lit (.int .i64 (.ofNat 1))) fun x49_9 =>
  lp1 y0 y1 y4 y10 y11 x49_9 y13 T4 n4
 )
 (
  lpf7 1600030 (g160_b3 ro) 100000 y0 y1 y4 y10 y11 y12 y13 T4 n4
 )
noncomputable def g160_b1 (ro : List HT) (lp1 : AV → AV → AV → AV → AV → AV → AV → HT → Nat → R) (y0 y1 y4 y10 y11 y12 y13 : AV) (T3 : HT) (n3 : Nat) : R :=
 leK Tryz.prog 3 (.tmp 32) (.tmp 33) 1600194 y12 y13 fun x34_66 =>
 condK 1600196 x34_66
 (
  iaK 1600200 y0 y12 3 fun x39_67 =>
  ldAK 1600201 T3 ro x39_67 3 fun x40_68 =>
  iaK 1600204 y0 y1 3 fun x43_69 =>
  ldAK 1600205 T3 ro x43_69 3 fun x44_70 =>
  dynK 1600206 y4 fun f p q => callK (scc2 4000 f ro (p ++ ([x40_68, x44_70] ++ q)) T3 n3) fun x45_71 T23 n23 =>
  ltK Tryz.prog 3 (.tmp 45) (.const (.int .i64 (.ofNat 0))) 1600207 x45_71 (.lit (.int .i64 (.ofNat 0))) fun x46_72 =>
  g160_k2 ro lp1 y0 y1 y4 y10 y11 y12 y13 x46_72 T23 n23
 )
 (
  g160_k2 ro lp1 y0 y1 y4 y10 y11 y12 y13 (.lit (.bool false)) T3 n3
 )
noncomputable def g160 (ro : List HT) (a0 a1 a2 a3 a4 : AV) (T : HT) (nx : Nat) : R :=
 iaK 1600009 a0 a3 3 fun x20_1 =>
 ldAK 1600010 T ro x20_1 3 fun x21_2 =>
 iaK 1600013 a0 a1 3 fun x24_3 =>
 ldAK 1600014 T ro x24_3 3 fun x25_4 =>
 iaK 1600015 a0 a1 3 fun x26_5 =>
 stAK 1600016 T x26_5 x21_2 3 fun T1 =>
 iaK 1600017 a0 a3 3 fun x27_6 =>
 stAK 1600018 T1 x27_6 x25_4 3 fun T2 =>
 addK Tryz.prog 3 (.tmp 28) (.const (.int .i64 (.ofNat 1))) 1600020 a1 (.lit (.int .i64 (.ofNat 1))) fun x29_7 =>
 subK Tryz.prog 3 (.tmp 30) (.const (.int .i64 (.ofNat 1))) 1600022 a2 (.lit (.int .i64 (.ofNat 1))) fun x31_8 =>
 lpf7 1600025 (g160_b1 ro) 100000 a0 a1 a4 (.lit (.int .i64 (.ofNat 0))) (.lit (.bool false)) x29_7 x31_8 T2 nx
theorem g160_ok (ro : List HT) (a0 a1 a2 a3 a4 : AV) (T : HT) (nx : Nat) : GOk Tryz.prog envE 160 [a0, a1, a2, a3, a4] ro T nx (g160 ro a0 a1 a2 a3 a4 T nx) := by
 refine GOk.of_body Tryz.func160 rfl Tryz.ntmps160 (by kernel_rfl) rfl fun r T' n' h1 w0 base ρ0 its hS hP => ?_
 have X : CtxW envE ρ0 ro r T' n' := trivial
 unfold g160 at h1
 refine sr ?_
 refine as_ ?_
 refine as_ ?_
 refine dn ?_
 refine CV.seq ?_
 refine CV.regionM [(0, .anywhere), (1, .anywhere), (2, .anywhere), (3, .anywhere), (4, .anywhere), (5, .anywhere), (6, .anywhere), (7, .held), (8, .anywhere), (9, .anywhere), (10, .anywhere), (11, .held), (12, .held), (13, .alone), (14, .alone), (15, .alone)] rfl (fun c a a' w hd hq => PanicOk.root (P := Tryz.prog) (fn := Tryz.f160) (w0 := w0) (base := base) (E := envE) (ro := ro) (r := r) (T' := T') (n' := n') (ρ0 := ρ0) c a a' w hd hq) (by kernel_rfl) ?_
 refine MV.step0 (i := 0) rfl (VAL.move rfl) rfl rfl rfl ?_
 refine MV.step0 (i := 1) rfl (VAL.move rfl) rfl rfl rfl ?_
 refine MV.step0 (i := 2) rfl (VAL.move rfl) rfl rfl rfl ?_
 refine MV.step0 (i := 3) rfl (VAL.move rfl) rfl rfl rfl ?_
 refine MV.step0 (i := 4) rfl (VAL.move rfl) rfl rfl rfl ?_
 refine MV.step0 (i := 5) rfl (VAL.move rfl) rfl rfl rfl ?_
 refine MV.lift0 (i := 6) rfl (V.ia h1 rfl rfl Rcf.el50) rfl rfl rfl fun x20_1 h2 => ?_
 refine MV.lift1 (i := 7) rfl (fun _ z => z) (V.ldA hS h2 rfl Rcf.agg58) rfl rfl rfl [] (by kernel_rfl) fun x21_2 h3 => ?_
 refine MV.step0 (i := 8) rfl (VAL.move rfl) rfl rfl rfl ?_
 refine MV.step0 (i := 9) rfl (VAL.move rfl) rfl rfl rfl ?_
 refine MV.lift0 (i := 10) rfl (V.ia h3 rfl rfl Rcf.el50) rfl rfl rfl fun x24_3 h4 => ?_
 refine MV.lift1 (i := 11) rfl (fun _ z => z) (V.ldA hS h4 rfl Rcf.agg58) rfl rfl rfl [7] (by kernel_rfl) fun x25_4 h5 => ?_
 refine MV.lift1 (i := 12) rfl (fun _ z => z) (V.ia h5 rfl rfl Rcf.el50) rfl rfl rfl [] (by kernel_rfl) fun x26_5 h6 => ?_
 refine MV.force (i := 13) rfl ?_
 refine LV.stA hS h6 rfl rfl rfl Rcf.agg58 rfl rfl rfl fun T1 its h7 hS => ?_
 refine LV.nextM [] (by kernel_rfl) (fun z => absurd rfl z) ?_
 refine MV.force (i := 14) rfl ?_
 refine vy (V.ia h7 rfl rfl Rcf.el50) fun x27_6 h8 => ?_
 refine LV.nextM [] (by kernel_rfl) (fun z => absurd rfl z) ?_
 refine MV.force (i := 15) rfl ?_
 refine LV.stA hS h8 rfl rfl rfl Rcf.agg58 rfl rfl rfl fun T2 its h9 hS => ?_
 refine LV.nextM [] (by kernel_rfl) (fun z => absurd rfl z) ?_
 refine mdn ?_
 refine sr ?_
 refine mv ?_
 refine vy (V.add h9 rfl rfl) fun x29_7 h10 => ?_
 refine mv ?_
 refine vy (V.sub h10 rfl rfl) fun x31_8 h11 => ?_
 refine as_ ?_
 refine as_ ?_
 refine dn ?_
 refine CV.seq ?_
 refine CV.block ?_
 refine cl7 X 0 1 4 10 11 12 13 [] hS h11 ⟨rfl, rfl, rfl, rfl, rfl, rfl, rfl, trivial⟩ ?_
 intro f1 y0 y1 y4 y10 y11 y12 y13 T3 n3 ρ its hS h12
 unfold g160_b1 at h12
 clear h1 h2 h3 h4 h5 h6 h7 h8 h9 h10 h11
 refine CV.seq ?_
 refine cs8 X 0 1 4 10 11 12 13 47 [] (g160_k2 ro (lpf7 1600025 (g160_b1 ro) f1)) ?_ ?_
 ·
  refine CV.regionM [(0, .anywhere), (1, .anywhere), (2, .anywhere), (3, .anywhere), (4, .anywhere), (5, .anywhere), (6, .anywhere), (7, .anywhere), (8, .held), (9, .anywhere), (10, .anywhere), (11, .anywhere), (12, .held), (13, .alone), (14, .alone), (15, .alone)] rfl (fun c a a' w hd hq => PanicOk.root (P := Tryz.prog) (fn := Tryz.f160) (w0 := w0) (base := base) (E := envE) (ro := ro) (r := r) (T' := T') (n' := n') (ρ0 := ρ0) c a a' w hd hq) (by kernel_rfl) ?_
  refine MV.step0 (i := 0) rfl (VAL.move rfl) rfl rfl rfl ?_
  refine MV.step0 (i := 1) rfl (VAL.move rfl) rfl rfl rfl ?_
  refine MV.lift0 (i := 2) rfl (V.le h12 rfl rfl) rfl rfl rfl fun x34_66 h95 => ?_
  refine MV.step0 (i := 3) rfl (VAL.move rfl) rfl rfl rfl ?_
  rcases condK_inv h95 with ⟨e, h96⟩ | ⟨e, h96⟩
  ·
   clear h12 h95
   subst e
   refine MV.step0 (i := 4) rfl (VAL.move rfl) rfl rfl rfl ?_
   refine MV.step0 (i := 5) rfl (VAL.move rfl) rfl rfl rfl ?_
   refine MV.step0 (i := 6) rfl (VAL.move rfl) rfl rfl rfl ?_
   refine MV.lift0 (i := 7) rfl (V.ia h96 rfl rfl Rcf.el50) rfl rfl rfl fun x39_67 h97 => ?_
   refine MV.lift1 (i := 8) rfl (fun _ z => z) (V.ldA hS h97 rfl Rcf.agg58) rfl rfl rfl [] (by kernel_rfl) fun x40_68 h98 => ?_
   refine MV.step0 (i := 9) rfl (VAL.move rfl) rfl rfl rfl ?_
   refine MV.step0 (i := 10) rfl (VAL.move rfl) rfl rfl rfl ?_
   refine MV.lift0 (i := 11) rfl (V.ia h98 rfl rfl Rcf.el50) rfl rfl rfl fun x43_69 h99 => ?_
   refine MV.lift1 (i := 12) rfl (fun _ z => z) (V.ldA hS h99 rfl Rcf.agg58) rfl rfl rfl [8] (by kernel_rfl) fun x44_70 h100 => ?_
   refine MV.force (i := 13) rfl ?_
   refine LV.callD (G := fun f gs => scc2 4000 f ro gs T3 n3) (qs := [x40_68, x44_70]) hS h100 (fun f gs => scc2_ok _ _ _ _ _ _) hP rfl rfl rfl rfl rfl rfl rfl fun x45_71 T23 n23 h101 ρ its hS => ?_
   refine LV.nextM [] (by kernel_rfl) (fun z => absurd rfl z) ?_
   refine MV.force (i := 14) rfl ?_
   refine vy (V.lt h101 rfl rfl) fun x46_72 h102 => ?_
   refine LV.nextM [] (by kernel_rfl) (fun z => absurd rfl z) ?_
   refine MV.force (i := 15) rfl ?_
   refine pu ?_
   refine LV.nextM [] (by kernel_rfl) (fun z => absurd rfl z) ?_
   refine MV.done ?_
   exact pa8 hS h102 ⟨rfl, rfl, rfl, rfl, rfl, rfl, rfl, rfl, trivial⟩
  ·
   clear h12 h95
   subst e
   refine MV.skip0 (i := 4) rfl rfl rfl rfl ?_
   refine MV.skip0 (i := 5) rfl rfl rfl rfl ?_
   refine MV.skip0 (i := 6) rfl rfl rfl rfl ?_
   refine MV.skip0 (i := 7) rfl rfl rfl rfl ?_
   refine MV.skip1 (i := 8) rfl (fun _ z => z) rfl rfl rfl [] (by kernel_rfl) ?_
   refine MV.skip0 (i := 9) rfl rfl rfl rfl ?_
   refine MV.skip0 (i := 10) rfl rfl rfl rfl ?_
   refine MV.skip0 (i := 11) rfl rfl rfl rfl ?_
   refine MV.skip1 (i := 12) rfl (fun _ z => z) rfl rfl rfl [8] (by kernel_rfl) ?_
   refine MV.force (i := 13) rfl ?_
   refine sk ?_
   refine LV.nextM [] (by kernel_rfl) (fun z => absurd rfl z) ?_
   refine MV.force (i := 14) rfl ?_
   refine sk ?_
   refine LV.nextM [] (by kernel_rfl) (fun z => absurd rfl z) ?_
   refine MV.force (i := 15) rfl ?_
   refine pu ?_
   refine LV.nextM [] (by kernel_rfl) (fun z => absurd rfl z) ?_
   refine MV.done ?_
   exact pa8 hS h96 ⟨rfl, rfl, rfl, rfl, rfl, rfl, rfl, rfl, trivial⟩
 ·
  intro y0 y1 y4 y10 y11 y12 y13 y47 T4 n4 ρ its hS h13
  unfold g160_k2 at h13
  clear h12
  refine CV.cond h13 rfl (fun e h14 => ?_) (fun e h14 => ?_)
  ·
   clear h13
   subst e
   refine CV.skip ?_
   refine PV.thenN ?_
   refine CV.block ?_
   refine CV.region ?_
   refine mv ?_
   refine vy (V.add h14 rfl rfl) fun x49_9 h15 => ?_
   refine as_ ?_
   refine LV.done ?_
   refine PV.blockN ?_
   exact pb7 hS h15 ⟨rfl, rfl, rfl, rfl, rfl, rfl, rfl, trivial⟩
  ·
   clear h13
   subst e
   refine CV.exit ?_
   refine PV.thenE ?_
   refine PV.thenE ?_
   refine PV.blockE ?_
   refine PV.thenN ?_
   refine CV.seq ?_
   refine CV.block ?_
   refine cl7 X 0 1 4 10 11 12 13 [] hS h14 ⟨rfl, rfl, rfl, rfl, rfl, rfl, rfl, trivial⟩ ?_
   intro f3 y0 y1 y4 y10 y11 y12 y13 T5 n5 ρ its hS h16
   unfold g160_b3 at h16
   clear h14
   refine CV.seq ?_
   refine cs8 X 0 1 4 10 11 12 13 66 [] (g160_k4 ro (lpf7 1600030 (g160_b3 ro) f3)) ?_ ?_
   ·
    refine CV.regionM [(0, .anywhere), (1, .anywhere), (2, .anywhere), (3, .anywhere), (4, .anywhere), (5, .anywhere), (6, .anywhere), (7, .anywhere), (8, .held), (9, .anywhere), (10, .anywhere), (11, .anywhere), (12, .held), (13, .alone), (14, .alone), (15, .alone), (16, .alone)] rfl (fun c a a' w hd hq => PanicOk.root (P := Tryz.prog) (fn := Tryz.f160) (w0 := w0) (base := base) (E := envE) (ro := ro) (r := r) (T' := T') (n' := n') (ρ0 := ρ0) c a a' w hd hq) (by kernel_rfl) ?_
    refine MV.step0 (i := 0) rfl (VAL.move rfl) rfl rfl rfl ?_
    refine MV.step0 (i := 1) rfl (VAL.move rfl) rfl rfl rfl ?_
    refine MV.lift0 (i := 2) rfl (V.le h16 rfl rfl) rfl rfl rfl fun x52_58 h86 => ?_
    refine MV.step0 (i := 3) rfl (VAL.move rfl) rfl rfl rfl ?_
    rcases condK_inv h86 with ⟨e, h87⟩ | ⟨e, h87⟩
    ·
     clear h16 h86
     subst e
     refine MV.step0 (i := 4) rfl (VAL.move rfl) rfl rfl rfl ?_
     refine MV.step0 (i := 5) rfl (VAL.move rfl) rfl rfl rfl ?_
     refine MV.step0 (i := 6) rfl (VAL.move rfl) rfl rfl rfl ?_
     refine MV.lift0 (i := 7) rfl (V.ia h87 rfl rfl Rcf.el50) rfl rfl rfl fun x57_59 h88 => ?_
     refine MV.lift1 (i := 8) rfl (fun _ z => z) (V.ldA hS h88 rfl Rcf.agg58) rfl rfl rfl [] (by kernel_rfl) fun x58_60 h89 => ?_
     refine MV.step0 (i := 9) rfl (VAL.move rfl) rfl rfl rfl ?_
     refine MV.step0 (i := 10) rfl (VAL.move rfl) rfl rfl rfl ?_
     refine MV.lift0 (i := 11) rfl (V.ia h89 rfl rfl Rcf.el50) rfl rfl rfl fun x61_61 h90 => ?_
     refine MV.lift1 (i := 12) rfl (fun _ z => z) (V.ldA hS h90 rfl Rcf.agg58) rfl rfl rfl [8] (by kernel_rfl) fun x62_62 h91 => ?_
     refine MV.force (i := 13) rfl ?_
     refine LV.callD (G := fun f gs => scc2 4000 f ro gs T5 n5) (qs := [x58_60, x62_62]) hS h91 (fun f gs => scc2_ok _ _ _ _ _ _) hP rfl rfl rfl rfl rfl rfl rfl fun x63_63 T22 n22 h92 ρ its hS => ?_
     refine LV.nextM [] (by kernel_rfl) (fun z => absurd rfl z) ?_
     refine MV.force (i := 14) rfl ?_
     refine vy (V.lt h92 rfl rfl) fun x64_64 h93 => ?_
     refine LV.nextM [] (by kernel_rfl) (fun z => absurd rfl z) ?_
     refine MV.force (i := 15) rfl ?_
     refine vy (V.not h93 rfl) fun x65_65 h94 => ?_
     refine LV.nextM [] (by kernel_rfl) (fun z => absurd rfl z) ?_
     refine MV.force (i := 16) rfl ?_
     refine pu ?_
     refine LV.nextM [] (by kernel_rfl) (fun z => absurd rfl z) ?_
     refine MV.done ?_
     exact pa8 hS h94 ⟨rfl, rfl, rfl, rfl, rfl, rfl, rfl, rfl, trivial⟩
    ·
     clear h16 h86
     subst e
     refine MV.skip0 (i := 4) rfl rfl rfl rfl ?_
     refine MV.skip0 (i := 5) rfl rfl rfl rfl ?_
     refine MV.skip0 (i := 6) rfl rfl rfl rfl ?_
     refine MV.skip0 (i := 7) rfl rfl rfl rfl ?_
     refine MV.skip1 (i := 8) rfl (fun _ z => z) rfl rfl rfl [] (by kernel_rfl) ?_
     refine MV.skip0 (i := 9) rfl rfl rfl rfl ?_
     refine MV.skip0 (i := 10) rfl rfl rfl rfl ?_
     refine MV.skip0 (i := 11) rfl rfl rfl rfl ?_
     refine MV.skip1 (i := 12) rfl (fun _ z => z) rfl rfl rfl [8] (by kernel_rfl) ?_
     refine MV.force (i := 13) rfl ?_
     refine sk ?_
     refine LV.nextM [] (by kernel_rfl) (fun z => absurd rfl z) ?_
     refine MV.force (i := 14) rfl ?_
     refine sk ?_
     refine LV.nextM [] (by kernel_rfl) (fun z => absurd rfl z) ?_
     refine MV.force (i := 15) rfl ?_
     refine sk ?_
     refine LV.nextM [] (by kernel_rfl) (fun z => absurd rfl z) ?_
     refine MV.force (i := 16) rfl ?_
     refine pu ?_
     refine LV.nextM [] (by kernel_rfl) (fun z => absurd rfl z) ?_
     refine MV.done ?_
     exact pa8 hS h87 ⟨rfl, rfl, rfl, rfl, rfl, rfl, rfl, rfl, trivial⟩
   ·
    intro y0 y1 y4 y10 y11 y12 y13 y66 T6 n6 ρ its hS h17
    unfold g160_k4 at h17
    clear h16
    refine CV.cond h17 rfl (fun e h18 => ?_) (fun e h18 => ?_)
    ·
     clear h17
     subst e
     refine CV.skip ?_
     refine PV.thenN ?_
     refine CV.block ?_
     refine CV.region ?_
     refine mv ?_
     refine vy (V.sub h18 rfl rfl) fun x68_10 h19 => ?_
     refine as_ ?_
     refine LV.done ?_
     refine PV.blockN ?_
     exact pb7 hS h19 ⟨rfl, rfl, rfl, rfl, rfl, rfl, rfl, trivial⟩
    ·
     clear h17
     subst e
     refine CV.exit ?_
     refine PV.thenE ?_
     refine PV.thenE ?_
     refine PV.blockE ?_
     refine PV.thenN ?_
     refine CV.seq ?_
     refine sr ?_
     refine mv ?_
     refine mv ?_
     refine vy (V.gt h18 rfl rfl) fun x71_11 h20 => ?_
     refine dn ?_
     refine CV.cond h20 rfl (fun e h21 => ?_) (fun e h21 => ?_)
     ·
      clear h18 h20
      subst e
      refine CV.seq ?_
      refine CV.regionM [(0, .anywhere), (1, .anywhere), (2, .anywhere), (3, .anywhere), (4, .anywhere), (5, .anywhere), (6, .anywhere), (7, .held), (8, .anywhere), (9, .anywhere), (10, .anywhere), (11, .held), (12, .held), (13, .alone), (14, .alone), (15, .alone)] rfl (fun c a a' w hd hq => PanicOk.root (P := Tryz.prog) (fn := Tryz.f160) (w0 := w0) (base := base) (E := envE) (ro := ro) (r := r) (T' := T') (n' := n') (ρ0 := ρ0) c a a' w hd hq) (by kernel_rfl) ?_
      refine MV.step0 (i := 0) rfl (VAL.move rfl) rfl rfl rfl ?_
      refine MV.step0 (i := 1) rfl (VAL.move rfl) rfl rfl rfl ?_
      refine MV.step0 (i := 2) rfl (VAL.move rfl) rfl rfl rfl ?_
      refine MV.step0 (i := 3) rfl (VAL.move rfl) rfl rfl rfl ?_
      refine MV.step0 (i := 4) rfl (VAL.move rfl) rfl rfl rfl ?_
      refine MV.step0 (i := 5) rfl (VAL.move rfl) rfl rfl rfl ?_
      refine MV.lift0 (i := 6) rfl (V.ia h21 rfl rfl Rcf.el50) rfl rfl rfl fun x78_12 h22 => ?_
      refine MV.lift1 (i := 7) rfl (fun _ z => z) (V.ldA hS h22 rfl Rcf.agg58) rfl rfl rfl [] (by kernel_rfl) fun x79_13 h23 => ?_
      refine MV.step0 (i := 8) rfl (VAL.move rfl) rfl rfl rfl ?_
      refine MV.step0 (i := 9) rfl (VAL.move rfl) rfl rfl rfl ?_
      refine MV.lift0 (i := 10) rfl (V.ia h23 rfl rfl Rcf.el50) rfl rfl rfl fun x82_14 h24 => ?_
      refine MV.lift1 (i := 11) rfl (fun _ z => z) (V.ldA hS h24 rfl Rcf.agg58) rfl rfl rfl [7] (by kernel_rfl) fun x83_15 h25 => ?_
      refine MV.lift1 (i := 12) rfl (fun _ z => z) (V.ia h25 rfl rfl Rcf.el50) rfl rfl rfl [] (by kernel_rfl) fun x84_16 h26 => ?_
      refine MV.force (i := 13) rfl ?_
      refine LV.stA hS h26 rfl rfl rfl Rcf.agg58 rfl rfl rfl fun T7 its h27 hS => ?_
      refine LV.nextM [] (by kernel_rfl) (fun z => absurd rfl z) ?_
      refine MV.force (i := 14) rfl ?_
      refine vy (V.ia h27 rfl rfl Rcf.el50) fun x85_17 h28 => ?_
      refine LV.nextM [] (by kernel_rfl) (fun z => absurd rfl z) ?_
      refine MV.force (i := 15) rfl ?_
      refine LV.stA hS h28 rfl rfl rfl Rcf.agg58 rfl rfl rfl fun T8 its h29 hS => ?_
      refine LV.nextM [] (by kernel_rfl) (fun z => absurd rfl z) ?_
      refine mdn ?_
      refine sr ?_
      refine mv ?_
      refine as_ ?_
      refine as_ ?_
      refine dn ?_
      refine CV.ret ?_
      refine PV.thenR ?_
      cases h29
      exact PV.ret (by simp) Tryz.results160 hS (RS.tmp rfl (RS.tmp rfl RS.nil)) rfl
     ·
      clear h18 h20
      subst e
      refine CV.skip ?_
      refine PV.thenN ?_
      refine CV.seq ?_
      refine CV.regionM [(0, .anywhere), (1, .anywhere), (2, .anywhere), (3, .anywhere), (4, .anywhere), (5, .anywhere), (6, .anywhere), (7, .held), (8, .anywhere), (9, .anywhere), (10, .anywhere), (11, .held), (12, .held), (13, .alone), (14, .alone), (15, .alone)] rfl (fun c a a' w hd hq => PanicOk.root (P := Tryz.prog) (fn := Tryz.f160) (w0 := w0) (base := base) (E := envE) (ro := ro) (r := r) (T' := T') (n' := n') (ρ0 := ρ0) c a a' w hd hq) (by kernel_rfl) ?_
      refine MV.step0 (i := 0) rfl (VAL.move rfl) rfl rfl rfl ?_
      refine MV.step0 (i := 1) rfl (VAL.move rfl) rfl rfl rfl ?_
      refine MV.step0 (i := 2) rfl (VAL.move rfl) rfl rfl rfl ?_
      refine MV.step0 (i := 3) rfl (VAL.move rfl) rfl rfl rfl ?_
      refine MV.step0 (i := 4) rfl (VAL.move rfl) rfl rfl rfl ?_
      refine MV.step0 (i := 5) rfl (VAL.move rfl) rfl rfl rfl ?_
      refine MV.lift0 (i := 6) rfl (V.ia h21 rfl rfl Rcf.el50) rfl rfl rfl fun x93_18 h30 => ?_
      refine MV.lift1 (i := 7) rfl (fun _ z => z) (V.ldA hS h30 rfl Rcf.agg58) rfl rfl rfl [] (by kernel_rfl) fun x94_19 h31 => ?_
      refine MV.step0 (i := 8) rfl (VAL.move rfl) rfl rfl rfl ?_
      refine MV.step0 (i := 9) rfl (VAL.move rfl) rfl rfl rfl ?_
      refine MV.lift0 (i := 10) rfl (V.ia h31 rfl rfl Rcf.el50) rfl rfl rfl fun x97_20 h32 => ?_
      refine MV.lift1 (i := 11) rfl (fun _ z => z) (V.ldA hS h32 rfl Rcf.agg58) rfl rfl rfl [7] (by kernel_rfl) fun x98_21 h33 => ?_
      refine MV.lift1 (i := 12) rfl (fun _ z => z) (V.ia h33 rfl rfl Rcf.el50) rfl rfl rfl [] (by kernel_rfl) fun x99_22 h34 => ?_
      refine MV.force (i := 13) rfl ?_
      refine LV.stA hS h34 rfl rfl rfl Rcf.agg58 rfl rfl rfl fun T9 its h35 hS => ?_
      refine LV.nextM [] (by kernel_rfl) (fun z => absurd rfl z) ?_
      refine MV.force (i := 14) rfl ?_
      refine vy (V.ia h35 rfl rfl Rcf.el50) fun x100_23 h36 => ?_
      refine LV.nextM [] (by kernel_rfl) (fun z => absurd rfl z) ?_
      refine MV.force (i := 15) rfl ?_
      refine LV.stA hS h36 rfl rfl rfl Rcf.agg58 rfl rfl rfl fun T10 its h37 hS => ?_
      refine LV.nextM [] (by kernel_rfl) (fun z => absurd rfl z) ?_
      refine mdn ?_
      refine sr ?_
      refine mv ?_
      refine vy (V.add h37 rfl rfl) fun x102_24 h38 => ?_
      refine as_ ?_
      refine dn ?_
      refine sr ?_
      refine mv ?_
      refine vy (V.sub h38 rfl rfl) fun x104_25 h39 => ?_
      refine as_ ?_
      refine dn ?_
      refine CV.seq ?_
      refine CV.block ?_
      refine cl7 X 0 1 4 10 11 12 13 [] hS h39 ⟨rfl, rfl, rfl, rfl, rfl, rfl, rfl, trivial⟩ ?_
      intro f5 y0 y1 y4 y10 y11 y12 y13 T11 n11 ρ its hS h40
      unfold g160_b5 at h40
      clear h21 h30 h31 h32 h33 h34 h35 h36 h37 h38 h39
      refine CV.block ?_
      refine CV.seq ?_
      refine CV.block ?_
      refine cl7 X 0 1 4 10 11 12 13 [] hS h40 ⟨rfl, rfl, rfl, rfl, rfl, rfl, rfl, trivial⟩ ?_
      intro f6 y0 y1 y4 y10 y11 y12 y13 T12 n12 ρ its hS h41
      unfold g160_b6 at h41
      clear h40
      refine CV.seq ?_
      refine cs8 X 0 1 4 10 11 12 13 120 [] (g160_k7 ro (lpf7 1600080 (g160_b5 ro) f5) (lpf7 1600081 (g160_b6 ro (lpf7 1600080 (g160_b5 ro) f5)) f6)) ?_ ?_
      ·
       refine CV.regionM [(0, .anywhere), (1, .anywhere), (2, .anywhere), (3, .anywhere), (4, .anywhere), (5, .anywhere), (6, .anywhere), (7, .anywhere), (8, .held), (9, .anywhere), (10, .anywhere), (11, .anywhere), (12, .held), (13, .alone), (14, .alone), (15, .alone)] rfl (fun c a a' w hd hq => PanicOk.root (P := Tryz.prog) (fn := Tryz.f160) (w0 := w0) (base := base) (E := envE) (ro := ro) (r := r) (T' := T') (n' := n') (ρ0 := ρ0) c a a' w hd hq) (by kernel_rfl) ?_
       refine MV.step0 (i := 0) rfl (VAL.move rfl) rfl rfl rfl ?_
       refine MV.step0 (i := 1) rfl (VAL.move rfl) rfl rfl rfl ?_
       refine MV.lift0 (i := 2) rfl (V.le h41 rfl rfl) rfl rfl rfl fun x107_51 h78 => ?_
       refine MV.step0 (i := 3) rfl (VAL.move rfl) rfl rfl rfl ?_
       rcases condK_inv h78 with ⟨e, h79⟩ | ⟨e, h79⟩
       ·
        clear h41 h78
        subst e
        refine MV.step0 (i := 4) rfl (VAL.move rfl) rfl rfl rfl ?_
        refine MV.step0 (i := 5) rfl (VAL.move rfl) rfl rfl rfl ?_
        refine MV.step0 (i := 6) rfl (VAL.move rfl) rfl rfl rfl ?_
        refine MV.lift0 (i := 7) rfl (V.ia h79 rfl rfl Rcf.el50) rfl rfl rfl fun x112_52 h80 => ?_
        refine MV.lift1 (i := 8) rfl (fun _ z => z) (V.ldA hS h80 rfl Rcf.agg58) rfl rfl rfl [] (by kernel_rfl) fun x113_53 h81 => ?_
        refine MV.step0 (i := 9) rfl (VAL.move rfl) rfl rfl rfl ?_
        refine MV.step0 (i := 10) rfl (VAL.move rfl) rfl rfl rfl ?_
        refine MV.lift0 (i := 11) rfl (V.ia h81 rfl rfl Rcf.el50) rfl rfl rfl fun x116_54 h82 => ?_
        refine MV.lift1 (i := 12) rfl (fun _ z => z) (V.ldA hS h82 rfl Rcf.agg58) rfl rfl rfl [8] (by kernel_rfl) fun x117_55 h83 => ?_
        refine MV.force (i := 13) rfl ?_
        refine LV.callD (G := fun f gs => scc2 4000 f ro gs T12 n12) (qs := [x113_53, x117_55]) hS h83 (fun f gs => scc2_ok _ _ _ _ _ _) hP rfl rfl rfl rfl rfl rfl rfl fun x118_56 T21 n21 h84 ρ its hS => ?_
        refine LV.nextM [] (by kernel_rfl) (fun z => absurd rfl z) ?_
        refine MV.force (i := 14) rfl ?_
        refine vy (V.lt h84 rfl rfl) fun x119_57 h85 => ?_
        refine LV.nextM [] (by kernel_rfl) (fun z => absurd rfl z) ?_
        refine MV.force (i := 15) rfl ?_
        refine pu ?_
        refine LV.nextM [] (by kernel_rfl) (fun z => absurd rfl z) ?_
        refine MV.done ?_
        exact pa8 hS h85 ⟨rfl, rfl, rfl, rfl, rfl, rfl, rfl, rfl, trivial⟩
       ·
        clear h41 h78
        subst e
        refine MV.skip0 (i := 4) rfl rfl rfl rfl ?_
        refine MV.skip0 (i := 5) rfl rfl rfl rfl ?_
        refine MV.skip0 (i := 6) rfl rfl rfl rfl ?_
        refine MV.skip0 (i := 7) rfl rfl rfl rfl ?_
        refine MV.skip1 (i := 8) rfl (fun _ z => z) rfl rfl rfl [] (by kernel_rfl) ?_
        refine MV.skip0 (i := 9) rfl rfl rfl rfl ?_
        refine MV.skip0 (i := 10) rfl rfl rfl rfl ?_
        refine MV.skip0 (i := 11) rfl rfl rfl rfl ?_
        refine MV.skip1 (i := 12) rfl (fun _ z => z) rfl rfl rfl [8] (by kernel_rfl) ?_
        refine MV.force (i := 13) rfl ?_
        refine sk ?_
        refine LV.nextM [] (by kernel_rfl) (fun z => absurd rfl z) ?_
        refine MV.force (i := 14) rfl ?_
        refine sk ?_
        refine LV.nextM [] (by kernel_rfl) (fun z => absurd rfl z) ?_
        refine MV.force (i := 15) rfl ?_
        refine pu ?_
        refine LV.nextM [] (by kernel_rfl) (fun z => absurd rfl z) ?_
        refine MV.done ?_
        exact pa8 hS h79 ⟨rfl, rfl, rfl, rfl, rfl, rfl, rfl, rfl, trivial⟩
      ·
       intro y0 y1 y4 y10 y11 y12 y13 y120 T13 n13 ρ its hS h42
       unfold g160_k7 at h42
       clear h41
       refine CV.cond h42 rfl (fun e h43 => ?_) (fun e h43 => ?_)
       ·
        clear h42
        subst e
        refine CV.skip ?_
        refine PV.thenN ?_
        refine CV.block ?_
        refine CV.region ?_
        refine mv ?_
        refine vy (V.add h43 rfl rfl) fun x122_26 h44 => ?_
        refine as_ ?_
        refine LV.done ?_
        refine PV.blockN ?_
        exact pb7 hS h44 ⟨rfl, rfl, rfl, rfl, rfl, rfl, rfl, trivial⟩
       ·
        clear h42
        subst e
        refine CV.exit ?_
        refine PV.thenE ?_
        refine PV.thenE ?_
        refine PV.blockE ?_
        refine PV.thenN ?_
        refine CV.seq ?_
        refine CV.block ?_
        refine cl7 X 0 1 4 10 11 12 13 [] hS h43 ⟨rfl, rfl, rfl, rfl, rfl, rfl, rfl, trivial⟩ ?_
        intro f8 y0 y1 y4 y10 y11 y12 y13 T14 n14 ρ its hS h45
        unfold g160_b8 at h45
        clear h43
        refine CV.seq ?_
        refine cs8 X 0 1 4 10 11 12 13 139 [] (g160_k9 ro (lpf7 1600080 (g160_b5 ro) f5) (lpf7 1600086 (g160_b8 ro (lpf7 1600080 (g160_b5 ro) f5)) f8)) ?_ ?_
        ·
         refine CV.regionM [(0, .anywhere), (1, .anywhere), (2, .anywhere), (3, .anywhere), (4, .anywhere), (5, .anywhere), (6, .anywhere), (7, .anywhere), (8, .held), (9, .anywhere), (10, .anywhere), (11, .anywhere), (12, .held), (13, .alone), (14, .alone), (15, .alone), (16, .alone)] rfl (fun c a a' w hd hq => PanicOk.root (P := Tryz.prog) (fn := Tryz.f160) (w0 := w0) (base := base) (E := envE) (ro := ro) (r := r) (T' := T') (n' := n') (ρ0 := ρ0) c a a' w hd hq) (by kernel_rfl) ?_
         refine MV.step0 (i := 0) rfl (VAL.move rfl) rfl rfl rfl ?_
         refine MV.step0 (i := 1) rfl (VAL.move rfl) rfl rfl rfl ?_
         refine MV.lift0 (i := 2) rfl (V.le h45 rfl rfl) rfl rfl rfl fun x125_43 h69 => ?_
         refine MV.step0 (i := 3) rfl (VAL.move rfl) rfl rfl rfl ?_
         rcases condK_inv h69 with ⟨e, h70⟩ | ⟨e, h70⟩
         ·
          clear h45 h69
          subst e
          refine MV.step0 (i := 4) rfl (VAL.move rfl) rfl rfl rfl ?_
          refine MV.step0 (i := 5) rfl (VAL.move rfl) rfl rfl rfl ?_
          refine MV.step0 (i := 6) rfl (VAL.move rfl) rfl rfl rfl ?_
          refine MV.lift0 (i := 7) rfl (V.ia h70 rfl rfl Rcf.el50) rfl rfl rfl fun x130_44 h71 => ?_
          refine MV.lift1 (i := 8) rfl (fun _ z => z) (V.ldA hS h71 rfl Rcf.agg58) rfl rfl rfl [] (by kernel_rfl) fun x131_45 h72 => ?_
          refine MV.step0 (i := 9) rfl (VAL.move rfl) rfl rfl rfl ?_
          refine MV.step0 (i := 10) rfl (VAL.move rfl) rfl rfl rfl ?_
          refine MV.lift0 (i := 11) rfl (V.ia h72 rfl rfl Rcf.el50) rfl rfl rfl fun x134_46 h73 => ?_
          refine MV.lift1 (i := 12) rfl (fun _ z => z) (V.ldA hS h73 rfl Rcf.agg58) rfl rfl rfl [8] (by kernel_rfl) fun x135_47 h74 => ?_
          refine MV.force (i := 13) rfl ?_
          refine LV.callD (G := fun f gs => scc2 4000 f ro gs T14 n14) (qs := [x131_45, x135_47]) hS h74 (fun f gs => scc2_ok _ _ _ _ _ _) hP rfl rfl rfl rfl rfl rfl rfl fun x136_48 T20 n20 h75 ρ its hS => ?_
          refine LV.nextM [] (by kernel_rfl) (fun z => absurd rfl z) ?_
          refine MV.force (i := 14) rfl ?_
          refine vy (V.lt h75 rfl rfl) fun x137_49 h76 => ?_
          refine LV.nextM [] (by kernel_rfl) (fun z => absurd rfl z) ?_
          refine MV.force (i := 15) rfl ?_
          refine vy (V.not h76 rfl) fun x138_50 h77 => ?_
          refine LV.nextM [] (by kernel_rfl) (fun z => absurd rfl z) ?_
          refine MV.force (i := 16) rfl ?_
          refine pu ?_
          refine LV.nextM [] (by kernel_rfl) (fun z => absurd rfl z) ?_
          refine MV.done ?_
          exact pa8 hS h77 ⟨rfl, rfl, rfl, rfl, rfl, rfl, rfl, rfl, trivial⟩
         ·
          clear h45 h69
          subst e
          refine MV.skip0 (i := 4) rfl rfl rfl rfl ?_
          refine MV.skip0 (i := 5) rfl rfl rfl rfl ?_
          refine MV.skip0 (i := 6) rfl rfl rfl rfl ?_
          refine MV.skip0 (i := 7) rfl rfl rfl rfl ?_
          refine MV.skip1 (i := 8) rfl (fun _ z => z) rfl rfl rfl [] (by kernel_rfl) ?_
          refine MV.skip0 (i := 9) rfl rfl rfl rfl ?_
          refine MV.skip0 (i := 10) rfl rfl rfl rfl ?_
          refine MV.skip0 (i := 11) rfl rfl rfl rfl ?_
          refine MV.skip1 (i := 12) rfl (fun _ z => z) rfl rfl rfl [8] (by kernel_rfl) ?_
          refine MV.force (i := 13) rfl ?_
          refine sk ?_
          refine LV.nextM [] (by kernel_rfl) (fun z => absurd rfl z) ?_
          refine MV.force (i := 14) rfl ?_
          refine sk ?_
          refine LV.nextM [] (by kernel_rfl) (fun z => absurd rfl z) ?_
          refine MV.force (i := 15) rfl ?_
          refine sk ?_
          refine LV.nextM [] (by kernel_rfl) (fun z => absurd rfl z) ?_
          refine MV.force (i := 16) rfl ?_
          refine pu ?_
          refine LV.nextM [] (by kernel_rfl) (fun z => absurd rfl z) ?_
          refine MV.done ?_
          exact pa8 hS h70 ⟨rfl, rfl, rfl, rfl, rfl, rfl, rfl, rfl, trivial⟩
        ·
         intro y0 y1 y4 y10 y11 y12 y13 y139 T15 n15 ρ its hS h46
         unfold g160_k9 at h46
         clear h45
         refine CV.cond h46 rfl (fun e h47 => ?_) (fun e h47 => ?_)
         ·
          clear h46
          subst e
          refine CV.skip ?_
          refine PV.thenN ?_
          refine CV.block ?_
          refine CV.region ?_
          refine mv ?_
          refine vy (V.sub h47 rfl rfl) fun x141_27 h48 => ?_
          refine as_ ?_
          refine LV.done ?_
          refine PV.blockN ?_
          exact pb7 hS h48 ⟨rfl, rfl, rfl, rfl, rfl, rfl, rfl, trivial⟩
         ·
          clear h46
          subst e
          refine CV.exit ?_
          refine PV.thenE ?_
          refine PV.thenE ?_
          refine PV.blockE ?_
          refine PV.thenN ?_
          refine CV.seq ?_
          refine sr ?_
          refine mv ?_
          refine mv ?_
          refine vy (V.gt h47 rfl rfl) fun x144_28 h49 => ?_
          refine dn ?_
          refine CV.cond h49 rfl (fun e h50 => ?_) (fun e h50 => ?_)
          ·
           clear h47 h49
           subst e
           refine CV.exit ?_
           refine PV.thenE ?_
           refine PV.blockO rfl ?_
           refine PV.thenE ?_
           refine PV.blockE ?_
           refine PV.thenN ?_
           refine CV.seq ?_
           refine CV.regionM [(0, .anywhere), (1, .anywhere), (2, .anywhere), (3, .anywhere), (4, .anywhere), (5, .anywhere), (6, .anywhere), (7, .held), (8, .anywhere), (9, .anywhere), (10, .anywhere), (11, .held), (12, .held), (13, .alone), (14, .alone), (15, .alone)] rfl (fun c a a' w hd hq => PanicOk.root (P := Tryz.prog) (fn := Tryz.f160) (w0 := w0) (base := base) (E := envE) (ro := ro) (r := r) (T' := T') (n' := n') (ρ0 := ρ0) c a a' w hd hq) (by kernel_rfl) ?_
           refine MV.step0 (i := 0) rfl (VAL.move rfl) rfl rfl rfl ?_
           refine MV.step0 (i := 1) rfl (VAL.move rfl) rfl rfl rfl ?_
           refine MV.step0 (i := 2) rfl (VAL.move rfl) rfl rfl rfl ?_
           refine MV.step0 (i := 3) rfl (VAL.move rfl) rfl rfl rfl ?_
           refine MV.step0 (i := 4) rfl (VAL.move rfl) rfl rfl rfl ?_
           refine MV.step0 (i := 5) rfl (VAL.move rfl) rfl rfl rfl ?_
           refine MV.lift0 (i := 6) rfl (V.ia h50 rfl rfl Rcf.el50) rfl rfl rfl fun x169_29 h51 => ?_
           refine MV.lift1 (i := 7) rfl (fun _ z => z) (V.ldA hS h51 rfl Rcf.agg58) rfl rfl rfl [] (by kernel_rfl) fun x170_30 h52 => ?_
           refine MV.step0 (i := 8) rfl (VAL.move rfl) rfl rfl rfl ?_
           refine MV.step0 (i := 9) rfl (VAL.move rfl) rfl rfl rfl ?_
           refine MV.lift0 (i := 10) rfl (V.ia h52 rfl rfl Rcf.el50) rfl rfl rfl fun x173_31 h53 => ?_
           refine MV.lift1 (i := 11) rfl (fun _ z => z) (V.ldA hS h53 rfl Rcf.agg58) rfl rfl rfl [7] (by kernel_rfl) fun x174_32 h54 => ?_
           refine MV.lift1 (i := 12) rfl (fun _ z => z) (V.ia h54 rfl rfl Rcf.el50) rfl rfl rfl [] (by kernel_rfl) fun x175_33 h55 => ?_
           refine MV.force (i := 13) rfl ?_
           refine LV.stA hS h55 rfl rfl rfl Rcf.agg58 rfl rfl rfl fun T16 its h56 hS => ?_
           refine LV.nextM [] (by kernel_rfl) (fun z => absurd rfl z) ?_
           refine MV.force (i := 14) rfl ?_
           refine vy (V.ia h56 rfl rfl Rcf.el50) fun x176_34 h57 => ?_
           refine LV.nextM [] (by kernel_rfl) (fun z => absurd rfl z) ?_
           refine MV.force (i := 15) rfl ?_
           refine LV.stA hS h57 rfl rfl rfl Rcf.agg58 rfl rfl rfl fun T17 its h58 hS => ?_
           refine LV.nextM [] (by kernel_rfl) (fun z => absurd rfl z) ?_
           refine mdn ?_
           refine sr ?_
           refine mv ?_
           refine as_ ?_
           refine as_ ?_
           refine dn ?_
           refine CV.ret ?_
           cases h58
           exact PV.ret (by simp) Tryz.results160 hS (RS.tmp rfl (RS.tmp rfl RS.nil)) rfl
          ·
           clear h47 h49
           subst e
           refine CV.skip ?_
           refine PV.thenN ?_
           refine CV.seq ?_
           refine CV.regionM [(0, .anywhere), (1, .anywhere), (2, .anywhere), (3, .anywhere), (4, .anywhere), (5, .anywhere), (6, .anywhere), (7, .held), (8, .anywhere), (9, .anywhere), (10, .anywhere), (11, .held), (12, .held), (13, .alone), (14, .alone), (15, .alone)] rfl (fun c a a' w hd hq => PanicOk.root (P := Tryz.prog) (fn := Tryz.f160) (w0 := w0) (base := base) (E := envE) (ro := ro) (r := r) (T' := T') (n' := n') (ρ0 := ρ0) c a a' w hd hq) (by kernel_rfl) ?_
           refine MV.step0 (i := 0) rfl (VAL.move rfl) rfl rfl rfl ?_
           refine MV.step0 (i := 1) rfl (VAL.move rfl) rfl rfl rfl ?_
           refine MV.step0 (i := 2) rfl (VAL.move rfl) rfl rfl rfl ?_
           refine MV.step0 (i := 3) rfl (VAL.move rfl) rfl rfl rfl ?_
           refine MV.step0 (i := 4) rfl (VAL.move rfl) rfl rfl rfl ?_
           refine MV.step0 (i := 5) rfl (VAL.move rfl) rfl rfl rfl ?_
           refine MV.lift0 (i := 6) rfl (V.ia h50 rfl rfl Rcf.el50) rfl rfl rfl fun x151_35 h59 => ?_
           refine MV.lift1 (i := 7) rfl (fun _ z => z) (V.ldA hS h59 rfl Rcf.agg58) rfl rfl rfl [] (by kernel_rfl) fun x152_36 h60 => ?_
           refine MV.step0 (i := 8) rfl (VAL.move rfl) rfl rfl rfl ?_
           refine MV.step0 (i := 9) rfl (VAL.move rfl) rfl rfl rfl ?_
           refine MV.lift0 (i := 10) rfl (V.ia h60 rfl rfl Rcf.el50) rfl rfl rfl fun x155_37 h61 => ?_
           refine MV.lift1 (i := 11) rfl (fun _ z => z) (V.ldA hS h61 rfl Rcf.agg58) rfl rfl rfl [7] (by kernel_rfl) fun x156_38 h62 => ?_
           refine MV.lift1 (i := 12) rfl (fun _ z => z) (V.ia h62 rfl rfl Rcf.el50) rfl rfl rfl [] (by kernel_rfl) fun x157_39 h63 => ?_
           refine MV.force (i := 13) rfl ?_
           refine LV.stA hS h63 rfl rfl rfl Rcf.agg58 rfl rfl rfl fun T18 its h64 hS => ?_
           refine LV.nextM [] (by kernel_rfl) (fun z => absurd rfl z) ?_
           refine MV.force (i := 14) rfl ?_
           refine vy (V.ia h64 rfl rfl Rcf.el50) fun x158_40 h65 => ?_
           refine LV.nextM [] (by kernel_rfl) (fun z => absurd rfl z) ?_
           refine MV.force (i := 15) rfl ?_
           refine LV.stA hS h65 rfl rfl rfl Rcf.agg58 rfl rfl rfl fun T19 its h66 hS => ?_
           refine LV.nextM [] (by kernel_rfl) (fun z => absurd rfl z) ?_
           refine mdn ?_
           refine sr ?_
           refine mv ?_
           refine vy (V.add h66 rfl rfl) fun x160_41 h67 => ?_
           refine as_ ?_
           refine dn ?_
           refine CV.region ?_
           refine mv ?_
           refine vy (V.sub h67 rfl rfl) fun x162_42 h68 => ?_
           refine as_ ?_
           refine LV.done ?_
           refine PV.blockN ?_
           exact pb7 hS h68 ⟨rfl, rfl, rfl, rfl, rfl, rfl, rfl, trivial⟩
noncomputable def g91_k3 (ih : FuncId → List HT → List AV → HT → Nat → R) (ro : List HT) (lp1 : AV → AV → AV → AV → AV → AV → AV → HT → Nat → R) (y0 y1 y2 y3 y4 y10 y11 y12 y13 y97 : AV) (T5 : HT) (n5 : Nat) : R :=
 condK 910038 y97
 (
  .bad 910039
 )
 (
  callK (g160 ro y0 y1 y2 y13 y4 T5 n5) fun x111_10 T6 n6 =>
  exK 910047 x111_10 0 fun x112_11 =>
  exK 910048 x111_10 1 fun x113_12 =>
  subK Tryz.prog 3 (.tmp 115) (.tmp 116) 910055 x112_11 y1 fun x117_13 =>
  subK Tryz.prog 3 (.tmp 118) (.tmp 119) 910058 y2 x112_11 fun x120_14 =>
  bin0 Tryz.prog .quo 3 (.tmp 121) (.const (.int .i64 (.ofNat 8))) 910062 y12 (.lit (.int .i64 (.ofNat 8))) fun x122_15 =>
  ltK Tryz.prog 3 (.tmp 123) (.tmp 124) 910066 x117_13 x120_14 fun x125_16 =>
  condK 910067 x125_16
  (
   geK Tryz.prog 3 (.tmp 126) (.tmp 127) 910070 x117_13 x122_15 fun x128_17 =>
   callK (ih 91 ro [y0, y1, x112_11, y3, y4] T6 n6) fun x134_18 T7 n7 =>
   addK Tryz.prog 3 (.tmp 135) (.const (.int .i64 (.ofNat 1))) 910079 x112_11 (.lit (.int .i64 (.ofNat 1))) fun x136_19 =>
   lp1 y0 x136_19 y2 y3 y4 x128_17 x113_12 T7 n7
  )
  (
   geK Tryz.prog 3 (.tmp 137) (.tmp 138) 910083 x120_14 x122_15 fun x139_20 =>
   addK Tryz.prog 3 (.tmp 141) (.const (.int .i64 (.ofNat 1))) 910087 x112_11 (.lit (.int .i64 (.ofNat 1))) fun x142_21 =>
   callK (ih 91 ro [y0, x142_21, y2, y3, y4] T6 n6) fun x146_22 T8 n8 =>
   lp1 y0 y1 x112_11 y3 y4 x139_20 x113_12 T8 n8
  )
 )
noncomputable def g91_k2 (ih : FuncId → List HT → List AV → HT → Nat → R) (ro : List HT) (lp1 : AV → AV → AV → AV → AV → AV → AV → HT → Nat → R) (y0 y1 y2 y3 y4 y10 y11 y12 y13 : AV) (T4 : HT) (n4 : Nat) : R :=
 gtK Tryz.prog 3 (.tmp 81) (.const (.int .i64 (.ofNat 0))) 910095 y1 (.lit (.int .i64 (.ofNat 0))) fun x82_23 =>
 condK 910097 x82_23
 (
  subK Tryz.prog 3 (.tmp 86) (.const (.int .i64 (.ofNat 1))) 910101 y1 (.lit (.int .i64 (.ofNat 1))) fun x87_24 =>
  iaK 910102 y0 x87_24 3 fun x88_25 =>
  ldAK 910103 T4 ro x88_25 3 fun x89_26 =>
  iaK 910106 y0 y13 3 fun x92_27 =>
  ldAK 910107 T4 ro x92_27 3 fun x93_28 =>
  dynK 910108 y4 fun f p q => callK (scc2 4000 f ro (p ++ ([x89_26, x93_28] ++ q)) T4 n4) fun x94_29 T9 n9 =>
  ltK Tryz.prog 3 (.tmp 94) (.const (.int .i64 (.ofNat 0))) 910109 x94_29 (.lit (.int .i64 (.ofNat 0))) fun x95_30 =>
  notK 910110 x95_30 fun x96_31 =>
  g91_k3 ih ro lp1 y0 y1 y2 y3 y4 y10 y11 y12 y13 x96_31 T9 n9
 )
 (
  g91_k3 ih ro lp1 y0 y1 y2 y3 y4 y10 y11 y12 y13 (.lit (.bool false)) T4 n4
 )
noncomputable def g91_k5 (ih : FuncId → List HT → List AV → HT → Nat → R) (ro : List HT) (lp1 : AV → AV → AV → AV → AV → AV → AV → HT → Nat → R) (y0 y1 y2 y3 y4 y10 y11 y12 y13 y75 : AV) (T11 : HT) (n11 : Nat) : R :=
 condK 910116 y75
 (
  callK (g158 ro y0 y1 y2 y4 T11 n11) fun x80_32 T12 n12 =>
  condK 910122 x80_32
  (
   .ok (.val (.tup [])) T12 n12
  )
  (
   g91_k2 ih ro lp1 y0 y1 y2 y3 y4 y10 y11 y12 y13 T12 n12
  )
 )
 (
  g91_k2 ih ro lp1 y0 y1 y2 y3 y4 y10 y11 y12 y13 T11 n11
 )
noncomputable def g91_k4 (ih : FuncId → List HT → List AV → HT → Nat → R) (ro : List HT) (lp1 : AV → AV → AV → AV → AV → AV → AV → HT → Nat → R) (y0 y1 y2 y3 y4 y10 y11 y12 y13 y14 y71 : AV) (T10 : HT) (n10 : Nat) : R :=
 condK 910123 y71
 (
  eqK Tryz.prog 202 (.tmp 73) (.const (.int .i64 (.ofNat 1))) 910125 y14 (.lit (.int .i64 (.ofNat 1))) fun x74_33 =>
  g91_k5 ih ro lp1 y0 y1 y2 y3 y4 y10 y11 y12 y13 x74_33 T10 n10
 )
 (
  g91_k5 ih ro lp1 y0 y1 y2 y3 y4 y10 y11 y12 y13 (.lit (.bool false)) T10 n10
 )
noncomputable def g91_b1 (ih : FuncId → List HT → List AV → HT → Nat → R) (ro : List HT) (lp1 : AV → AV → AV → AV → AV → AV → AV → HT → Nat → R) (y0 y1 y2 y3 y4 y10 y11 : AV) (T1 : HT) (n1 : Nat) : R :=
 subK Tryz.prog 3 (.tmp 21) (.tmp 22) 910006 y2 y1 fun x23_1 =>
 leK Tryz.prog 3 (.tmp 24) (.const (.int .i64 (.ofNat 12))) 910009 x23_1 (.lit (.int .i64 (.ofNat 12))) fun x25_2 =>
 condK 910010 x25_2
 (
  callK (g153 ro y0 y1 y2 y4 T1 n1) fun x30_3 T2 n2 =>
  .ok (.val (.tup [])) T2 n2
 )
 (
  eqK Tryz.prog 3 (.tmp 31) (.const (.int .i64 (.ofNat 0))) 910017 y3 (.lit (.int .i64 (.ofNat 0))) fun x32_4 =>
  condK 910018 x32_4
  (
   .bad 910019
  )
  (
   notK 910021 y10 fun x39_5 =>
   condK 910022 x39_5
   (
    .bad 910023
   )
   (
    callK (g156 ro y0 y1 y2 y4 T1 n1) fun x52_6 T3 n3 =>
    exK 910030 x52_6 0 fun x53_7 =>
    exK 910031 x52_6 1 fun x54_8 =>
    eqK Tryz.prog 202 (.tmp 55) (.const (.int .i64 (.ofNat 2))) 910035 x54_8 (.lit (.int .i64 (.ofNat 2))) fun x56_9 =>
    condK 910036 x56_9
    (
     .bad 910037
    )
    (
     condK 910128 y10
     (
      g91_k4 ih ro lp1 y0 y1 y2 y3 y4 (.lit (.bool true)) y11 x23_1 x53_7 x54_8 y11 T3 n3
     )
     (
      g91_k4 ih ro lp1 y0 y1 y2 y3 y4 (.lit (.bool false)) y11 x23_1 x53_7 x54_8 (.lit (.bool false)) T3 n3
     )
    )
   )
  )
 )
noncomputable def g91 (ih : FuncId → List HT → List AV → HT → Nat → R) (ro : List HT) (a0 a1 a2 a3 a4 : AV) (T : HT) (nx : Nat) : R :=
 lpf7 910003 (g91_b1 ih ro) 100000 a0 a1 a2 a3 a4 (.lit (.bool true)) (.lit (.bool true)) T nx
theorem g91_ok (ih : FuncId → List HT → List AV → HT → Nat → R) (hI : ∀ f ro args T nx, GOk Tryz.prog envE f args ro T nx (ih f ro args T nx)) (ro : List HT) (a0 a1 a2 a3 a4 : AV) (T : HT) (nx : Nat) : GOk Tryz.prog envE 91 [a0, a1, a2, a3, a4] ro T nx (g91 ih ro a0 a1 a2 a3 a4 T nx) := by
 refine GOk.of_body Tryz.func91 rfl Tryz.ntmps91 (by kernel_rfl) rfl fun r T' n' h1 w0 base ρ0 its hS hP => ?_
 have X : CtxW envE ρ0 ro r T' n' := trivial
 unfold g91 at h1
 refine sr ?_
 refine as_ ?_
 refine dn ?_
 refine sr ?_
 refine as_ ?_
 refine dn ?_
 refine CV.block ?_
 refine cl7 X 0 1 2 3 4 10 11 [] hS h1 ⟨rfl, rfl, rfl, rfl, rfl, rfl, rfl, trivial⟩ ?_
 intro f1 y0 y1 y2 y3 y4 y10 y11 T1 n1 ρ its hS h2
 unfold g91_b1 at h2
 clear h1
 refine CV.block ?_
 refine sr ?_
 refine mv ?_
 refine mv ?_
 refine vy (V.sub h2 rfl rfl) fun x23_1 h3 => ?_
 refine as_ ?_
 refine dn ?_
 refine CV.seq ?_
 refine sr ?_
 refine mv ?_
 refine vy (V.le h3 rfl rfl) fun x25_2 h4 => ?_
 refine dn ?_
 refine CV.cond h4 rfl (fun e h5 => ?_) (fun e h5 => ?_)
 ·
  clear h2 h3 h4
  subst e
  refine sr ?_
  refine mv ?_
  refine mv ?_
  refine mv ?_
  refine mv ?_
  refine LV.call hS h5 (g153_ok _ _ _ _ _ _ _ ) hP rfl rfl rfl rfl fun x30_3 T2 n2 h6 ρ its hS => ?_
  refine dn ?_
  refine CV.ret ?_
  refine PV.thenR ?_
  refine PV.blockR ?_
  refine PV.thenR ?_
  refine PV.blockR ?_
  cases h6
  exact PV.ret (by simp) Tryz.results91 hS RS.nil rfl
 ·
  clear h2 h3 h4
  subst e
  refine CV.skip ?_
  refine PV.thenN ?_
  refine CV.seq ?_
  refine sr ?_
  refine mv ?_
  refine vy (V.eq h5 rfl rfl) fun x32_4 h7 => ?_
  refine dn ?_
  refine CV.cond h7 rfl (fun e h8 => ?_) (fun e h8 => ?_)
  ·
   clear h5 h7
   subst e
   cases h8
  ·
   clear h5 h7
   subst e
   refine CV.skip ?_
   refine PV.thenN ?_
   refine CV.seq ?_
   refine sr ?_
   refine mv ?_
   refine vy (V.not h8 rfl) fun x39_5 h9 => ?_
   refine dn ?_
   refine CV.cond h9 rfl (fun e h10 => ?_) (fun e h10 => ?_)
   ·
    clear h8 h9
    subst e
    cases h10
   ·
    clear h8 h9
    subst e
    refine CV.skip ?_
    refine PV.thenN ?_
    refine sr ?_
    refine mv ?_
    refine mv ?_
    refine mv ?_
    refine mv ?_
    refine LV.call hS h10 (g156_ok _ _ _ _ _ _ _ ) hP rfl rfl rfl rfl fun x52_6 T3 n3 h11 ρ its hS => ?_
    refine mv ?_
    refine vy (V.ex h11 rfl) fun x53_7 h12 => ?_
    refine vy (V.ex h12 rfl) fun x54_8 h13 => ?_
    refine as_ ?_
    refine as_ ?_
    refine dn ?_
    refine CV.seq ?_
    refine sr ?_
    refine mv ?_
    refine vy (V.eq h13 rfl rfl) fun x56_9 h14 => ?_
    refine dn ?_
    refine CV.cond h14 rfl (fun e h15 => ?_) (fun e h15 => ?_)
    ·
     clear h10 h11 h12 h13 h14
     subst e
     cases h15
    ·
     clear h10 h11 h12 h13 h14
     subst e
     refine CV.skip ?_
     refine PV.thenN ?_
     refine cs9 X 0 1 2 3 4 10 11 12 13 [] (g91_k2 ih ro (lpf7 910003 (g91_b1 ih ro) f1)) ?_ ?_
     ·
      refine sr ?_
      refine mv ?_
      refine mv ?_
      refine ls11 X 0 1 2 3 4 10 11 12 13 14 71 [] (g91_k4 ih ro (lpf7 910003 (g91_b1 ih ro) f1)) 2 ?_ ?_
      ·
       rcases condK_inv h15 with ⟨e, h50⟩ | ⟨e, h50⟩
       ·
        clear h15
        subst e
        refine mv ?_
        refine pu ?_
        exact la11 hS h50 ⟨rfl, rfl, rfl, rfl, rfl, rfl, rfl, rfl, rfl, rfl, rfl, trivial⟩
       ·
        clear h15
        subst e
        refine sk ?_
        refine pu ?_
        exact la11 hS h50 ⟨rfl, rfl, rfl, rfl, rfl, rfl, rfl, rfl, rfl, rfl, rfl, trivial⟩
      ·
       intro y0 y1 y2 y3 y4 y10 y11 y12 y13 y14 y71 T10 n10 ρ its hS h43
       unfold g91_k4 at h43
       clear h15
       refine mv ?_
       refine ls10 X 0 1 2 3 4 10 11 12 13 75 [] (g91_k5 ih ro (lpf7 910003 (g91_b1 ih ro) f1)) 3 ?_ ?_
       ·
        rcases condK_inv h43 with ⟨e, h48⟩ | ⟨e, h48⟩
        ·
         clear h43
         subst e
         refine mv ?_
         refine vy (V.eq h48 rfl rfl) fun x74_33 h49 => ?_
         refine pu ?_
         exact la10 hS h49 ⟨rfl, rfl, rfl, rfl, rfl, rfl, rfl, rfl, rfl, rfl, trivial⟩
        ·
         clear h43
         subst e
         refine sk ?_
         refine sk ?_
         refine pu ?_
         exact la10 hS h48 ⟨rfl, rfl, rfl, rfl, rfl, rfl, rfl, rfl, rfl, rfl, trivial⟩
       ·
        intro y0 y1 y2 y3 y4 y10 y11 y12 y13 y75 T11 n11 ρ its hS h44
        unfold g91_k5 at h44
        clear h43
        refine dn ?_
        refine CV.cond h44 rfl (fun e h45 => ?_) (fun e h45 => ?_)
        ·
         clear h44
         subst e
         refine sr ?_
         refine mv ?_
         refine mv ?_
         refine mv ?_
         refine mv ?_
         refine LV.call hS h45 (g158_ok _ _ _ _ _ _ _ ) hP rfl rfl rfl rfl fun x80_32 T12 n12 h46 ρ its hS => ?_
         refine dn ?_
         refine CV.cond h46 rfl (fun e h47 => ?_) (fun e h47 => ?_)
         ·
          clear h45 h46
          subst e
          refine CV.ret ?_
          refine PV.thenR ?_
          refine PV.blockR ?_
          refine PV.thenR ?_
          refine PV.blockR ?_
          cases h47
          exact PV.ret (by simp) Tryz.results91 hS RS.nil rfl
         ·
          clear h45 h46
          subst e
          refine CV.skip ?_
          exact pa9 hS h47 ⟨rfl, rfl, rfl, rfl, rfl, rfl, rfl, rfl, rfl, trivial⟩
        ·
         clear h44
         subst e
         refine CV.skip ?_
         exact pa9 hS h45 ⟨rfl, rfl, rfl, rfl, rfl, rfl, rfl, rfl, rfl, trivial⟩
     ·
      intro y0 y1 y2 y3 y4 y10 y11 y12 y13 T4 n4 ρ its hS h16
      unfold g91_k2 at h16
      clear h15
      refine CV.seq ?_
      refine cs10 X 0 1 2 3 4 10 11 12 13 97 [] (g91_k3 ih ro (lpf7 910003 (g91_b1 ih ro) f1)) ?_ ?_
      ·
       refine CV.regionM [(0, .anywhere), (1, .anywhere), (2, .anywhere), (3, .anywhere), (4, .anywhere), (5, .anywhere), (6, .anywhere), (7, .anywhere), (8, .held), (9, .anywhere), (10, .anywhere), (11, .anywhere), (12, .held), (13, .alone), (14, .alone), (15, .alone), (16, .alone)] rfl (fun c a a' w hd hq => PanicOk.root (P := Tryz.prog) (fn := Tryz.f91) (w0 := w0) (base := base) (E := envE) (ro := ro) (r := r) (T' := T') (n' := n') (ρ0 := ρ0) c a a' w hd hq) (by kernel_rfl) ?_
       refine MV.step0 (i := 0) rfl (VAL.move rfl) rfl rfl rfl ?_
       refine MV.lift0 (i := 1) rfl (V.gt h16 rfl rfl) rfl rfl rfl fun x82_23 h33 => ?_
       refine MV.step0 (i := 2) rfl (VAL.move rfl) rfl rfl rfl ?_
       rcases condK_inv h33 with ⟨e, h34⟩ | ⟨e, h34⟩
       ·
        clear h16 h33
        subst e
        refine MV.step0 (i := 3) rfl (VAL.move rfl) rfl rfl rfl ?_
        refine MV.step0 (i := 4) rfl (VAL.move rfl) rfl rfl rfl ?_
        refine MV.step0 (i := 5) rfl (VAL.move rfl) rfl rfl rfl ?_
        refine MV.lift0 (i := 6) rfl (V.sub h34 rfl rfl) rfl rfl rfl fun x87_24 h35 => ?_
        refine MV.lift0 (i := 7) rfl (V.ia h35 rfl rfl Rcf.el50) rfl rfl rfl fun x88_25 h36 => ?_
        refine MV.lift1 (i := 8) rfl (fun _ z => z) (V.ldA hS h36 rfl Rcf.agg58) rfl rfl rfl [] (by kernel_rfl) fun x89_26 h37 => ?_
        refine MV.step0 (i := 9) rfl (VAL.move rfl) rfl rfl rfl ?_
        refine MV.step0 (i := 10) rfl (VAL.move rfl) rfl rfl rfl ?_
        refine MV.lift0 (i := 11) rfl (V.ia h37 rfl rfl Rcf.el50) rfl rfl rfl fun x92_27 h38 => ?_
        refine MV.lift1 (i := 12) rfl (fun _ z => z) (V.ldA hS h38 rfl Rcf.agg58) rfl rfl rfl [8] (by kernel_rfl) fun x93_28 h39 => ?_
        refine MV.force (i := 13) rfl ?_
        refine LV.callD (G := fun f gs => scc2 4000 f ro gs T4 n4) (qs := [x89_26, x93_28]) hS h39 (fun f gs => scc2_ok _ _ _ _ _ _) hP rfl rfl rfl rfl rfl rfl rfl fun x94_29 T9 n9 h40 ρ its hS => ?_
        refine LV.nextM [] (by kernel_rfl) (fun z => absurd rfl z) ?_
        refine MV.force (i := 14) rfl ?_
        refine vy (V.lt h40 rfl rfl) fun x95_30 h41 => ?_
        refine LV.nextM [] (by kernel_rfl) (fun z => absurd rfl z) ?_
        refine MV.force (i := 15) rfl ?_
        refine vy (V.not h41 rfl) fun x96_31 h42 => ?_
        refine LV.nextM [] (by kernel_rfl) (fun z => absurd rfl z) ?_
        refine MV.force (i := 16) rfl ?_
        refine pu ?_
        refine LV.nextM [] (by kernel_rfl) (fun z => absurd rfl z) ?_
        refine MV.done ?_
        exact pa10 hS h42 ⟨rfl, rfl, rfl, rfl, rfl, rfl, rfl, rfl, rfl, rfl, trivial⟩
       ·
        clear h16 h33
        subst e
        refine MV.skip0 (i := 3) rfl rfl rfl rfl ?_
        refine MV.skip0 (i := 4) rfl rfl rfl rfl ?_
        refine MV.skip0 (i := 5) rfl rfl rfl rfl ?_
        refine MV.skip0 (i := 6) rfl rfl rfl rfl ?_
        refine MV.skip0 (i := 7) rfl rfl rfl rfl ?_
        refine MV.skip1 (i := 8) rfl (fun _ z => z) rfl rfl rfl [] (by kernel_rfl) ?_
        refine MV.skip0 (i := 9) rfl rfl rfl rfl ?_
        refine MV.skip0 (i := 10) rfl rfl rfl rfl ?_
        refine MV.skip0 (i := 11) rfl rfl rfl rfl ?_
        refine MV.skip1 (i := 12) rfl (fun _ z => z) rfl rfl rfl [8] (by kernel_rfl) ?_
        refine MV.force (i := 13) rfl ?_
        refine sk ?_
        refine LV.nextM [] (by kernel_rfl) (fun z => absurd rfl z) ?_
        refine MV.force (i := 14) rfl ?_
        refine sk ?_
        refine LV.nextM [] (by kernel_rfl) (fun z => absurd rfl z) ?_
        refine MV.force (i := 15) rfl ?_
        refine sk ?_
        refine LV.nextM [] (by kernel_rfl) (fun z => absurd rfl z) ?_
        refine MV.force (i := 16) rfl ?_
        refine pu ?_
        refine LV.nextM [] (by kernel_rfl) (fun z => absurd rfl z) ?_
        refine MV.done ?_
        exact pa10 hS h34 ⟨rfl, rfl, rfl, rfl, rfl, rfl, rfl, rfl, rfl, rfl, trivial⟩
      ·
       intro y0 y1 y2 y3 y4 y10 y11 y12 y13 y97 T5 n5 ρ its hS h17
       unfold g91_k3 at h17
       clear h16
       refine CV.cond h17 rfl (fun e h18 => ?_) (fun e h18 => ?_)
       ·
        clear h17
        subst e
        cases h18
       ·
        clear h17
        subst e
        refine CV.skip ?_
        refine PV.thenN ?_
        refine sr ?_
        refine mv ?_
        refine mv ?_
        refine mv ?_
        refine mv ?_
        refine mv ?_
        refine LV.call hS h18 (g160_ok _ _ _ _ _ _ _ _ ) hP rfl rfl rfl rfl fun x111_10 T6 n6 h19 ρ its hS => ?_
        refine mv ?_
        refine vy (V.ex h19 rfl) fun x112_11 h20 => ?_
        refine vy (V.ex h20 rfl) fun x113_12 h21 => ?_
        refine as_ ?_
        refine as_ ?_
        refine dn ?_
        refine sr ?_
        refine mv ?_
        refine as_ ?_
        refine dn ?_
        refine sr ?_
        refine mv ?_
        refine mv ?_
        refine vy (V.sub h21 rfl rfl) fun x117_13 h22 => ?_
        refine mv ?_
        refine mv ?_
        refine vy (V.sub h22 rfl rfl) fun x120_14 h23 => ?_
        refine as_ ?_
        refine as_ ?_
        refine dn ?_
        refine sr ?_
        refine mv ?_
        refine vy (V.bin0 h23 rfl rfl) fun x122_15 h24 => ?_
        refine as_ ?_
        refine dn ?_
        refine sr ?_
        refine mv ?_
        refine mv ?_
        refine vy (V.lt h24 rfl rfl) fun x125_16 h25 => ?_
        refine dn ?_
        refine CV.cond h25 rfl (fun e h26 => ?_) (fun e h26 => ?_)
        ·
         clear h18 h19 h20 h21 h22 h23 h24 h25
         subst e
         refine sr ?_
         refine mv ?_
         refine mv ?_
         refine vy (V.ge h26 rfl rfl) fun x128_17 h27 => ?_
         refine as_ ?_
         refine dn ?_
         refine sr ?_
         refine mv ?_
         refine mv ?_
         refine mv ?_
         refine mv ?_
         refine mv ?_
         refine LV.call hS h27 (hI _ _ _ _ _) hP rfl rfl rfl rfl fun x134_18 T7 n7 h28 ρ its hS => ?_
         refine dn ?_
         refine CV.region ?_
         refine mv ?_
         refine vy (V.add h28 rfl rfl) fun x136_19 h29 => ?_
         refine as_ ?_
         refine LV.done ?_
         refine PV.blockN ?_
         exact pb7 hS h29 ⟨rfl, rfl, rfl, rfl, rfl, rfl, rfl, trivial⟩
        ·
         clear h18 h19 h20 h21 h22 h23 h24 h25
         subst e
         refine sr ?_
         refine mv ?_
         refine mv ?_
         refine vy (V.ge h26 rfl rfl) fun x139_20 h30 => ?_
         refine as_ ?_
         refine dn ?_
         refine sr ?_
         refine mv ?_
         refine mv ?_
         refine vy (V.add h30 rfl rfl) fun x142_21 h31 => ?_
         refine mv ?_
         refine mv ?_
         refine mv ?_
         refine LV.call hS h31 (hI _ _ _ _ _) hP rfl rfl rfl rfl fun x146_22 T8 n8 h32 ρ its hS => ?_
         refine dn ?_
         refine CV.region ?_
         refine mv ?_
         refine as_ ?_
         refine LV.done ?_
         refine PV.blockN ?_
         exact pb7 hS h32 ⟨rfl, rfl, rfl, rfl, rfl, rfl, rfl, trivial⟩
noncomputable def ap8 (ih : FuncId → List HT → List AV → HT → Nat → R) (f : FuncId) (ro : List HT) (args : List AV) (T : HT) (nx : Nat) : R :=
  Bool.rec (motive := fun _ => R) (.bad 2) (List.rec (motive := fun _ => R) (.bad 1) (fun a0 l0 _ => List.rec (motive := fun _ => R) (.bad 1) (fun a1 l1 _ => List.rec (motive := fun _ => R) (.bad 1) (fun a2 l2 _ => List.rec (motive := fun _ => R) (.bad 1) (fun a3 l3 _ => List.rec (motive := fun _ => R) (.bad 1) (fun a4 l4 _ => List.rec (motive := fun _ => R) (g91 ih ro a0 a1 a2 a3 a4 T nx) (fun _ _ _ => .bad 1) l4) l3) l2) l1) l0) args) (Nat.beq f 91)
noncomputable def scc8 (fuel : Nat) : FuncId → List HT → List AV → HT → Nat → R :=
  Nat.rec (motive := fun _ => FuncId → List HT → List AV → HT → Nat → R) (fun _ _ _ _ _ => .bad 3) (fun _ ih => ap8 ih) fuel
theorem ap8_ok (ih : FuncId → List HT → List AV → HT → Nat → R) (hI : ∀ f ro args T nx, GOk Tryz.prog envE f args ro T nx (ih f ro args T nx)) (f : FuncId) (ro : List HT) (args : List AV) (T : HT) (nx : Nat) : GOk Tryz.prog envE f args ro T nx (ap8 ih f ro args T nx) := by
  unfold ap8
  refine recb_go (fun hb => ?_) (fun _ => ?_)
  · obtain rfl := beqT hb
    rcases args with _ | ⟨a0, l0⟩
    · exact GOk.bad
    rcases l0 with _ | ⟨a1, l1⟩
    · exact GOk.bad
    rcases l1 with _ | ⟨a2, l2⟩
    · exact GOk.bad
    rcases l2 with _ | ⟨a3, l3⟩
    · exact GOk.bad
    rcases l3 with _ | ⟨a4, l4⟩
    · exact GOk.bad
    rcases l4 with _ | ⟨_, _⟩
    · exact g91_ok _ hI _ _ _ _ _ _ _ _ 
    · exact GOk.bad
  · exact GOk.bad
theorem scc8_ok : ∀ (fuel : Nat) (f : FuncId) (ro : List HT) (args : List AV) (T : HT) (nx : Nat), GOk Tryz.prog envE f args ro T nx (scc8 fuel f ro args T nx)
  | 0, _, _, _, _, _ => GOk.bad
  | fuel + 1, f, ro, args, T, nx => ap8_ok (scc8 fuel) (scc8_ok fuel) f ro args T nx
noncomputable def g59 (ro : List HT) (a0 a1 : AV) (T : HT) (nx : Nat) : R :=
 lenSK 590002 a0 fun x6_1 =>
 optK 590007 (convV Tryz.prog 3 164 x6_1) fun x10_2 =>
 callK (g92 ro x10_2 T nx) fun x11_3 T1 n1 =>
 callK (scc8 4000 91 ro [a0, (.lit (.int .i64 (.ofNat 0))), x6_1, x11_3, a1] T1 n1) fun x13_4 T2 n2 =>
 .ok (.val (.tup [])) T2 n2
theorem g59_ok (ro : List HT) (a0 a1 : AV) (T : HT) (nx : Nat) : GOk Tryz.prog envE 59 [a0, a1] ro T nx (g59 ro a0 a1 T nx) := by
 refine GOk.of_body Tryz.func59 rfl Tryz.ntmps59 (by kernel_rfl) rfl fun r T' n' h1 w0 base ρ0 its hS hP => ?_
 have X : CtxW envE ρ0 ro r T' n' := trivial
 unfold g59 at h1
 refine sr ?_
 refine mv ?_
 refine vy (V.lenS h1 rfl Rcf.ls50) fun x6_1 h2 => ?_
 refine as_ ?_
 refine dn ?_
 refine CV.region ?_
 refine mv ?_
 refine mv ?_
 refine mv ?_
 refine vy (V.conv h2 rfl) fun x10_2 h3 => ?_
 refine LV.call hS h3 (g92_ok _ _ _ _ ) hP rfl rfl rfl rfl fun x11_3 T1 n1 h4 ρ its hS => ?_
 refine mv ?_
 refine LV.call hS h4 (scc8_ok _ _ _ _ _ _) hP rfl rfl rfl rfl fun x13_4 T2 n2 h5 ρ its hS => ?_
 refine LV.done ?_
 cases h5
 exact PV.ret (by simp) Tryz.results59 hS RS.nil rfl

end Go.Proofs.YtdepmlcnllofiaaGreatDoor.Rc
