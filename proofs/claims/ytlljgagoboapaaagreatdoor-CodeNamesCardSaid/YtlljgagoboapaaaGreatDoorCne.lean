/-
  Proved here: plain functions that do what the program's functions do, each with its proof.
-/
import Derived.Test.YtlljgagoboapaaaGreatDoorCnd
namespace Go.Proofs.YtlljgagoboapaaaGreatDoor.Cn
open Go.EY Go.EX Go.SX Go.RowKit
noncomputable def g236_k3 (ro : List HT) (lp1 : AV → AV → AV → AV → AV → HT → Nat → R) (lp2 : AV → AV → AV → AV → AV → AV → HT → Nat → R) (y0 y1 y2 y3 y8 y9 y34 : AV) (T3 : HT) (n3 : Nat) : R :=
 condK 2360012 y34
 (
  subK Tryz.prog 3 (.tmp 40) (.const (.int .i64 (.ofNat 1))) 2360017 y9 (.lit (.int .i64 (.ofNat 1))) fun x41_3 =>
  subK Tryz.prog 3 (.tmp 43) (.const (.int .i64 (.ofNat 1))) 2360020 y9 (.lit (.int .i64 (.ofNat 1))) fun x44_4 =>
  iaK 2360021 y0 x44_4 2 fun x45_5 =>
  ldAK 2360022 T3 ro x45_5 2 fun x46_6 =>
  iaK 2360025 y0 y9 2 fun x49_7 =>
  ldAK 2360026 T3 ro x49_7 2 fun x50_8 =>
  iaK 2360027 y0 y9 2 fun x51_9 =>
  stAK 2360028 T3 x51_9 x46_6 2 fun T4 =>
  iaK 2360029 y0 x41_3 2 fun x52_10 =>
  stAK 2360030 T4 x52_10 x50_8 2 fun T5 =>
  subK Tryz.prog 3 (.tmp 35) (.const (.int .i64 (.ofNat 1))) 2360032 y9 (.lit (.int .i64 (.ofNat 1))) fun x36_11 =>
  lp2 y0 y1 y2 y3 y8 x36_11 T5 n3
 )
 (
  addK Tryz.prog 3 (.tmp 15) (.const (.int .i64 (.ofNat 1))) 2360035 y8 (.lit (.int .i64 (.ofNat 1))) fun x16_12 =>
  lp1 y0 y1 y2 y3 x16_12 T3 n3
 )
noncomputable def g236_b2 (ro : List HT) (lp1 : AV → AV → AV → AV → AV → HT → Nat → R) (lp2 : AV → AV → AV → AV → AV → AV → HT → Nat → R) (y0 y1 y2 y3 y8 y9 : AV) (T2 : HT) (n2 : Nat) : R :=
 gtK Tryz.prog 3 (.tmp 18) (.tmp 19) 2360039 y9 y1 fun x20_13 =>
 condK 2360041 x20_13
 (
  iaK 2360045 y0 y9 2 fun x25_14 =>
  ldAK 2360046 T2 ro x25_14 2 fun x26_15 =>
  subK Tryz.prog 3 (.tmp 28) (.const (.int .i64 (.ofNat 1))) 2360049 y9 (.lit (.int .i64 (.ofNat 1))) fun x29_16 =>
  iaK 2360050 y0 x29_16 2 fun x30_17 =>
  ldAK 2360051 T2 ro x30_17 2 fun x31_18 =>
  dynK 2360052 y3 fun f p q => callK (scc3 4000 f ro (p ++ ([x26_15, x31_18] ++ q)) T2 n2) fun x32_19 T6 n6 =>
  ltK Tryz.prog 3 (.tmp 32) (.const (.int .i64 (.ofNat 0))) 2360053 x32_19 (.lit (.int .i64 (.ofNat 0))) fun x33_20 =>
  g236_k3 ro lp1 lp2 y0 y1 y2 y3 y8 y9 x33_20 T6 n6
 )
 (
  g236_k3 ro lp1 lp2 y0 y1 y2 y3 y8 y9 (.lit (.bool false)) T2 n2
 )
noncomputable def g236_b1 (ro : List HT) (lp1 : AV → AV → AV → AV → AV → HT → Nat → R) (y0 y1 y2 y3 y8 : AV) (T1 : HT) (n1 : Nat) : R :=
 ltK Tryz.prog 3 (.tmp 12) (.tmp 13) 2360007 y8 y2 fun x14_2 =>
 condK 2360008 x14_2
 (
  lpf6 2360011 (g236_b2 ro lp1) 100000 y0 y1 y2 y3 y8 y8 T1 n1
 )
 (
  .ok (.val (.tup [])) T1 n1
 )
noncomputable def g236 (ro : List HT) (a0 a1 a2 a3 : AV) (T : HT) (nx : Nat) : R :=
 addK Tryz.prog 3 (.tmp 10) (.const (.int .i64 (.ofNat 1))) 2360002 a1 (.lit (.int .i64 (.ofNat 1))) fun x11_1 =>
 lpf5 2360004 (g236_b1 ro) 100000 a0 a1 a2 a3 x11_1 T nx
theorem g236_ok (ro : List HT) (a0 a1 a2 a3 : AV) (T : HT) (nx : Nat) : GOk Tryz.prog envE 236 [a0, a1, a2, a3] ro T nx (g236 ro a0 a1 a2 a3 T nx) := by
 refine GOk.of_body Tryz.func236 rfl Tryz.ntmps236 (by kernel_rfl) rfl fun r T' n' h1 w0 base ρ0 its hS hP => ?_
 have X : CtxW envE ρ0 ro r T' n' := trivial
 unfold g236 at h1
 refine sr ?_
 refine mv ?_
 refine vy (V.add h1 rfl rfl) fun x11_1 h2 => ?_
 refine as_ ?_
 refine dn ?_
 refine CV.block ?_
 refine cl5 X 0 1 2 3 8 [] hS h2 ⟨rfl, rfl, rfl, rfl, rfl, trivial⟩ ?_
 intro f1 y0 y1 y2 y3 y8 T1 n1 ρ its hS h3
 unfold g236_b1 at h3
 clear h1 h2
 refine CV.seq ?_
 refine sr ?_
 refine mv ?_
 refine mv ?_
 refine vy (V.lt h3 rfl rfl) fun x14_2 h4 => ?_
 refine dn ?_
 refine CV.cond h4 rfl (fun e h5 => ?_) (fun e h5 => ?_)
 ·
  clear h3 h4
  subst e
  refine CV.skip ?_
  refine PV.thenN ?_
  refine CV.seq ?_
  refine CV.block ?_
  refine sr ?_
  refine mv ?_
  refine as_ ?_
  refine dn ?_
  refine CV.block ?_
  refine cl6 X 0 1 2 3 8 9 [] hS h5 ⟨rfl, rfl, rfl, rfl, rfl, rfl, trivial⟩ ?_
  intro f2 y0 y1 y2 y3 y8 y9 T2 n2 ρ its hS h6
  unfold g236_b2 at h6
  clear h5
  refine CV.seq ?_
  refine cs7 X 0 1 2 3 8 9 34 [] (g236_k3 ro (lpf5 2360004 (g236_b1 ro) f1) (lpf6 2360011 (g236_b2 ro (lpf5 2360004 (g236_b1 ro) f1)) f2)) ?_ ?_
  ·
   refine CV.regionM [(0, .anywhere), (1, .anywhere), (2, .anywhere), (3, .anywhere), (4, .anywhere), (5, .anywhere), (6, .anywhere), (7, .anywhere), (8, .held), (9, .anywhere), (10, .anywhere), (11, .anywhere), (12, .anywhere), (13, .held), (14, .alone), (15, .alone), (16, .alone)] rfl (fun c a a' w hd hq => PanicOk.root (P := Tryz.prog) (fn := Tryz.f236) (w0 := w0) (base := base) (E := envE) (ro := ro) (r := r) (T' := T') (n' := n') (ρ0 := ρ0) c a a' w hd hq) (by kernel_rfl) ?_
   refine MV.step0 (i := 0) rfl (VAL.move rfl) rfl rfl rfl ?_
   refine MV.step0 (i := 1) rfl (VAL.move rfl) rfl rfl rfl ?_
   refine MV.lift0 (i := 2) rfl (V.gt h6 rfl rfl) rfl rfl rfl fun x20_13 h21 => ?_
   refine MV.step0 (i := 3) rfl (VAL.move rfl) rfl rfl rfl ?_
   rcases condK_inv h21 with ⟨e, h22⟩ | ⟨e, h22⟩
   ·
    clear h6 h21
    subst e
    refine MV.step0 (i := 4) rfl (VAL.move rfl) rfl rfl rfl ?_
    refine MV.step0 (i := 5) rfl (VAL.move rfl) rfl rfl rfl ?_
    refine MV.step0 (i := 6) rfl (VAL.move rfl) rfl rfl rfl ?_
    refine MV.lift0 (i := 7) rfl (V.ia h22 rfl rfl Cnf.el259) rfl rfl rfl fun x25_14 h23 => ?_
    refine MV.lift1 (i := 8) rfl (fun _ z => z) (V.ldA hS h23 rfl Cnf.agg264) rfl rfl rfl [] (by kernel_rfl) fun x26_15 h24 => ?_
    refine MV.step0 (i := 9) rfl (VAL.move rfl) rfl rfl rfl ?_
    refine MV.step0 (i := 10) rfl (VAL.move rfl) rfl rfl rfl ?_
    refine MV.lift0 (i := 11) rfl (V.sub h24 rfl rfl) rfl rfl rfl fun x29_16 h25 => ?_
    refine MV.lift0 (i := 12) rfl (V.ia h25 rfl rfl Cnf.el259) rfl rfl rfl fun x30_17 h26 => ?_
    refine MV.lift1 (i := 13) rfl (fun _ z => z) (V.ldA hS h26 rfl Cnf.agg264) rfl rfl rfl [8] (by kernel_rfl) fun x31_18 h27 => ?_
    refine MV.force (i := 14) rfl ?_
    refine LV.callD (G := fun f gs => scc3 4000 f ro gs T2 n2) (qs := [x26_15, x31_18]) hS h27 (fun f gs => scc3_ok _ _ _ _ _ _) hP rfl rfl rfl rfl rfl rfl rfl fun x32_19 T6 n6 h28 ρ its hS => ?_
    refine LV.nextM [] (by kernel_rfl) (fun z => absurd rfl z) ?_
    refine MV.force (i := 15) rfl ?_
    refine vy (V.lt h28 rfl rfl) fun x33_20 h29 => ?_
    refine LV.nextM [] (by kernel_rfl) (fun z => absurd rfl z) ?_
    refine MV.force (i := 16) rfl ?_
    refine pu ?_
    refine LV.nextM [] (by kernel_rfl) (fun z => absurd rfl z) ?_
    refine MV.done ?_
    exact pa7 hS h29 ⟨rfl, rfl, rfl, rfl, rfl, rfl, rfl, trivial⟩
   ·
    clear h6 h21
    subst e
    refine MV.skip0 (i := 4) rfl rfl rfl rfl ?_
    refine MV.skip0 (i := 5) rfl rfl rfl rfl ?_
    refine MV.skip0 (i := 6) rfl rfl rfl rfl ?_
    refine MV.skip0 (i := 7) rfl rfl rfl rfl ?_
    refine MV.skip1 (i := 8) rfl (fun _ z => z) rfl rfl rfl [] (by kernel_rfl) ?_
    refine MV.skip0 (i := 9) rfl rfl rfl rfl ?_
    refine MV.skip0 (i := 10) rfl rfl rfl rfl ?_
    refine MV.skip0 (i := 11) rfl rfl rfl rfl ?_
    refine MV.skip0 (i := 12) rfl rfl rfl rfl ?_
    refine MV.skip1 (i := 13) rfl (fun _ z => z) rfl rfl rfl [8] (by kernel_rfl) ?_
    refine MV.force (i := 14) rfl ?_
    refine sk ?_
    refine LV.nextM [] (by kernel_rfl) (fun z => absurd rfl z) ?_
    refine MV.force (i := 15) rfl ?_
    refine sk ?_
    refine LV.nextM [] (by kernel_rfl) (fun z => absurd rfl z) ?_
    refine MV.force (i := 16) rfl ?_
    refine pu ?_
    refine LV.nextM [] (by kernel_rfl) (fun z => absurd rfl z) ?_
    refine MV.done ?_
    exact pa7 hS h22 ⟨rfl, rfl, rfl, rfl, rfl, rfl, rfl, trivial⟩
  ·
   intro y0 y1 y2 y3 y8 y9 y34 T3 n3 ρ its hS h7
   unfold g236_k3 at h7
   clear h6
   refine CV.cond h7 rfl (fun e h8 => ?_) (fun e h8 => ?_)
   ·
    clear h7
    subst e
    refine CV.skip ?_
    refine PV.thenN ?_
    refine CV.seq ?_
    refine CV.block ?_
    refine CV.regionM [(0, .anywhere), (1, .anywhere), (2, .anywhere), (3, .anywhere), (4, .anywhere), (5, .anywhere), (6, .anywhere), (7, .anywhere), (8, .anywhere), (9, .held), (10, .anywhere), (11, .anywhere), (12, .anywhere), (13, .held), (14, .held), (15, .alone), (16, .alone), (17, .alone)] rfl (fun c a a' w hd hq => PanicOk.root (P := Tryz.prog) (fn := Tryz.f236) (w0 := w0) (base := base) (E := envE) (ro := ro) (r := r) (T' := T') (n' := n') (ρ0 := ρ0) c a a' w hd hq) (by kernel_rfl) ?_
    refine MV.step0 (i := 0) rfl (VAL.move rfl) rfl rfl rfl ?_
    refine MV.step0 (i := 1) rfl (VAL.move rfl) rfl rfl rfl ?_
    refine MV.step0 (i := 2) rfl (VAL.move rfl) rfl rfl rfl ?_
    refine MV.step0 (i := 3) rfl (VAL.move rfl) rfl rfl rfl ?_
    refine MV.lift0 (i := 4) rfl (V.sub h8 rfl rfl) rfl rfl rfl fun x41_3 h9 => ?_
    refine MV.step0 (i := 5) rfl (VAL.move rfl) rfl rfl rfl ?_
    refine MV.step0 (i := 6) rfl (VAL.move rfl) rfl rfl rfl ?_
    refine MV.lift0 (i := 7) rfl (V.sub h9 rfl rfl) rfl rfl rfl fun x44_4 h10 => ?_
    refine MV.lift0 (i := 8) rfl (V.ia h10 rfl rfl Cnf.el259) rfl rfl rfl fun x45_5 h11 => ?_
    refine MV.lift1 (i := 9) rfl (fun _ z => z) (V.ldA hS h11 rfl Cnf.agg264) rfl rfl rfl [] (by kernel_rfl) fun x46_6 h12 => ?_
    refine MV.step0 (i := 10) rfl (VAL.move rfl) rfl rfl rfl ?_
    refine MV.step0 (i := 11) rfl (VAL.move rfl) rfl rfl rfl ?_
    refine MV.lift0 (i := 12) rfl (V.ia h12 rfl rfl Cnf.el259) rfl rfl rfl fun x49_7 h13 => ?_
    refine MV.lift1 (i := 13) rfl (fun _ z => z) (V.ldA hS h13 rfl Cnf.agg264) rfl rfl rfl [9] (by kernel_rfl) fun x50_8 h14 => ?_
    refine MV.lift1 (i := 14) rfl (fun _ z => z) (V.ia h14 rfl rfl Cnf.el259) rfl rfl rfl [] (by kernel_rfl) fun x51_9 h15 => ?_
    refine MV.force (i := 15) rfl ?_
    refine LV.stA hS h15 rfl rfl rfl Cnf.agg264 rfl rfl rfl fun T4 its h16 hS => ?_
    refine LV.nextM [] (by kernel_rfl) (fun z => absurd rfl z) ?_
    refine MV.force (i := 16) rfl ?_
    refine vy (V.ia h16 rfl rfl Cnf.el259) fun x52_10 h17 => ?_
    refine LV.nextM [] (by kernel_rfl) (fun z => absurd rfl z) ?_
    refine MV.force (i := 17) rfl ?_
    refine LV.stA hS h17 rfl rfl rfl Cnf.agg264 rfl rfl rfl fun T5 its h18 hS => ?_
    refine LV.nextM [] (by kernel_rfl) (fun z => absurd rfl z) ?_
    refine MV.done ?_
    refine PV.blockN ?_
    refine PV.thenN ?_
    refine CV.region ?_
    refine mv ?_
    refine vy (V.sub h18 rfl rfl) fun x36_11 h19 => ?_
    refine as_ ?_
    refine LV.done ?_
    exact pb6 hS h19 ⟨rfl, rfl, rfl, rfl, rfl, rfl, trivial⟩
   ·
    clear h7
    subst e
    refine CV.exit ?_
    refine PV.thenE ?_
    refine PV.thenE ?_
    refine PV.blockE ?_
    refine PV.blockN ?_
    refine PV.thenN ?_
    refine CV.region ?_
    refine mv ?_
    refine vy (V.add h8 rfl rfl) fun x16_12 h20 => ?_
    refine as_ ?_
    refine LV.done ?_
    exact pb5 hS h20 ⟨rfl, rfl, rfl, rfl, rfl, trivial⟩
 ·
  clear h3 h4
  subst e
  refine CV.exit ?_
  refine PV.thenE ?_
  refine PV.thenE ?_
  refine PV.blockE ?_
  cases h5
  exact PV.ret (by simp) Tryz.results236 hS RS.nil rfl
noncomputable def g239 (ro : List HT) (a0 a1 a2 a3 : AV) (T : HT) (nx : Nat) : R :=
 subK Tryz.prog 3 (.tmp 15) (.tmp 16) 2390005 a2 a1 fun x17_1 =>
 newK T nx (.obj [.lit (.int .i64 0)] 3) fun x11_2 T1 n1 =>
 bin0 Tryz.prog .quo 3 (.tmp 19) (.const (.int .i64 (.ofNat 4))) 2390010 x17_1 (.lit (.int .i64 (.ofNat 4))) fun x20_3 =>
 bin0 Tryz.prog .mul 3 (.tmp 20) (.const (.int .i64 (.ofNat 1))) 2390011 x20_3 (.lit (.int .i64 (.ofNat 1))) fun x21_4 =>
 addK Tryz.prog 3 (.tmp 18) (.tmp 21) 2390012 a1 x21_4 fun x22_5 =>
 bin0 Tryz.prog .quo 3 (.tmp 24) (.const (.int .i64 (.ofNat 4))) 2390016 x17_1 (.lit (.int .i64 (.ofNat 4))) fun x25_6 =>
 bin0 Tryz.prog .mul 3 (.tmp 25) (.const (.int .i64 (.ofNat 2))) 2390017 x25_6 (.lit (.int .i64 (.ofNat 2))) fun x26_7 =>
 addK Tryz.prog 3 (.tmp 23) (.tmp 26) 2390018 a1 x26_7 fun x27_8 =>
 bin0 Tryz.prog .quo 3 (.tmp 29) (.const (.int .i64 (.ofNat 4))) 2390022 x17_1 (.lit (.int .i64 (.ofNat 4))) fun x30_9 =>
 bin0 Tryz.prog .mul 3 (.tmp 30) (.const (.int .i64 (.ofNat 3))) 2390023 x30_9 (.lit (.int .i64 (.ofNat 3))) fun x31_10 =>
 addK Tryz.prog 3 (.tmp 28) (.tmp 31) 2390024 a1 x31_10 fun x32_11 =>
 geK Tryz.prog 3 (.tmp 33) (.const (.int .i64 (.ofNat 8))) 2390027 x17_1 (.lit (.int .i64 (.ofNat 8))) fun x34_12 =>
 condK 2390028 x34_12
 (
  .bad 2390029
 )
 (
  ldK 2390030 T1 ro x11_2 fun x55_13 =>
  eqK Tryz.prog 3 (.tmp 55) (.const (.int .i64 (.ofNat 0))) 2390031 x55_13 (.lit (.int .i64 (.ofNat 0))) fun x58_14 =>
  condK 2390033 x58_14
  (
   .bad 2390034
  )
  (
   eqK Tryz.prog 3 (.tmp 55) (.const (.int .i64 (.ofNat 12))) 2390035 x55_13 (.lit (.int .i64 (.ofNat 12))) fun x61_15 =>
   .bad 2390037
  )
 )
theorem g239_ok (ro : List HT) (a0 a1 a2 a3 : AV) (T : HT) (nx : Nat) : GOk Tryz.prog envE 239 [a0, a1, a2, a3] ro T nx (g239 ro a0 a1 a2 a3 T nx) := by
 refine GOk.of_body Tryz.func239 rfl Tryz.ntmps239 (by kernel_rfl) rfl fun r T' n' h1 w0 base ρ0 its hS hP => ?_
 have X : CtxW envE ρ0 ro r T' n' := trivial
 unfold g239 at h1
 refine sr ?_
 refine as_ ?_
 refine as_ ?_
 refine dn ?_
 refine sr ?_
 refine mv ?_
 refine mv ?_
 refine vy (V.sub h1 rfl rfl) fun x17_1 h2 => ?_
 refine as_ ?_
 refine dn ?_
 refine sr ?_
 refine LV.alloc hS h2 rfl Cnf.zr3 rfl rfl rfl fun x11_2 T1 n1 h3 ρ its hS hdr => ?_
 refine dn ?_
 refine sr ?_
 refine mv ?_
 refine mv ?_
 refine vy (V.bin0 h3 rfl rfl) fun x20_3 h4 => ?_
 refine vy (V.bin0 h4 rfl rfl) fun x21_4 h5 => ?_
 refine vy (V.add h5 rfl rfl) fun x22_5 h6 => ?_
 refine as_ ?_
 refine dn ?_
 refine sr ?_
 refine mv ?_
 refine mv ?_
 refine vy (V.bin0 h6 rfl rfl) fun x25_6 h7 => ?_
 refine vy (V.bin0 h7 rfl rfl) fun x26_7 h8 => ?_
 refine vy (V.add h8 rfl rfl) fun x27_8 h9 => ?_
 refine as_ ?_
 refine dn ?_
 refine sr ?_
 refine mv ?_
 refine mv ?_
 refine vy (V.bin0 h9 rfl rfl) fun x30_9 h10 => ?_
 refine vy (V.bin0 h10 rfl rfl) fun x31_10 h11 => ?_
 refine vy (V.add h11 rfl rfl) fun x32_11 h12 => ?_
 refine as_ ?_
 refine dn ?_
 refine CV.seq ?_
 refine sr ?_
 refine mv ?_
 refine vy (V.ge h12 rfl rfl) fun x34_12 h13 => ?_
 refine dn ?_
 refine CV.cond h13 rfl (fun e h14 => ?_) (fun e h14 => ?_)
 ·
  clear h1 h2 h3 h4 h5 h6 h7 h8 h9 h10 h11 h12 h13
  subst e
  cases h14
 ·
  clear h1 h2 h3 h4 h5 h6 h7 h8 h9 h10 h11 h12 h13
  subst e
  refine CV.skip ?_
  refine PV.thenN ?_
  refine sr ?_
  refine vy (V.ld hS h14 rfl Cnf.one3) fun x55_13 h15 => ?_
  refine dn ?_
  refine CV.block ?_
  refine sr ?_
  refine vy (V.eq h15 rfl rfl) fun x58_14 h16 => ?_
  refine as_ ?_
  refine dn ?_
  refine CV.cond h16 rfl (fun e h17 => ?_) (fun e h17 => ?_)
  ·
   clear h14 h15 h16
   subst e
   cases h17
  ·
   clear h14 h15 h16
   subst e
   refine sr ?_
   refine vy (V.eq h17 rfl rfl) fun x61_15 h18 => ?_
   refine as_ ?_
   refine dn ?_
   cases h18
noncomputable def g243_k9 (ro : List HT) (lp5 : AV → AV → AV → AV → AV → AV → AV → HT → Nat → R) (lp8 : AV → AV → AV → AV → AV → AV → AV → HT → Nat → R) (y0 y1 y4 y10 y11 y12 y13 y139 : AV) (T13 : HT) (n13 : Nat) : R :=
 condK 2430069 y139
 (
  subK Tryz.prog 3 (.tmp 140) (.const (.int .i64 (.ofNat 1))) 2430071 y13 (.lit (.int .i64 (.ofNat 1))) fun x141_21 =>
  lp8 y0 y1 y4 y10 y11 y12 x141_21 T13 n13
 )
 (
  gtK Tryz.prog 3 (.tmp 142) (.tmp 143) 2430075 y12 y13 fun x144_22 =>
  condK 2430076 x144_22
  (
   iaK 2430083 y0 y1 2 fun x169_23 =>
   ldAK 2430084 T13 ro x169_23 2 fun x170_24 =>
   iaK 2430087 y0 y13 2 fun x173_25 =>
   ldAK 2430088 T13 ro x173_25 2 fun x174_26 =>
   iaK 2430089 y0 y13 2 fun x175_27 =>
   stAK 2430090 T13 x175_27 x170_24 2 fun T14 =>
   iaK 2430091 y0 y1 2 fun x176_28 =>
   stAK 2430092 T14 x176_28 x174_26 2 fun T15 =>
   .ok (.val (.tup [y13, (.lit (.bool false))])) T15 n13
  )
  (
   iaK 2430102 y0 y13 2 fun x151_29 =>
   ldAK 2430103 T13 ro x151_29 2 fun x152_30 =>
   iaK 2430106 y0 y12 2 fun x155_31 =>
   ldAK 2430107 T13 ro x155_31 2 fun x156_32 =>
   iaK 2430108 y0 y12 2 fun x157_33 =>
   stAK 2430109 T13 x157_33 x152_30 2 fun T16 =>
   iaK 2430110 y0 y13 2 fun x158_34 =>
   stAK 2430111 T16 x158_34 x156_32 2 fun T17 =>
   addK Tryz.prog 3 (.tmp 159) (.const (.int .i64 (.ofNat 1))) 2430113 y12 (.lit (.int .i64 (.ofNat 1))) fun x160_35 =>
   subK Tryz.prog 3 (.tmp 161) (.const (.int .i64 (.ofNat 1))) 2430116 y13 (.lit (.int .i64 (.ofNat 1))) fun x162_36 =>
   lp5 y0 y1 y4 y10 y11 x160_35 x162_36 T17 n13
  )
 )
noncomputable def g243_b8 (ro : List HT) (lp5 : AV → AV → AV → AV → AV → AV → AV → HT → Nat → R) (lp8 : AV → AV → AV → AV → AV → AV → AV → HT → Nat → R) (y0 y1 y4 y10 y11 y12 y13 : AV) (T12 : HT) (n12 : Nat) : R :=
 leK Tryz.prog 3 (.tmp 123) (.tmp 124) 2430120 y12 y13 fun x125_37 =>
 condK 2430122 x125_37
 (
  iaK 2430126 y0 y13 2 fun x130_38 =>
  ldAK 2430127 T12 ro x130_38 2 fun x131_39 =>
  iaK 2430130 y0 y1 2 fun x134_40 =>
  ldAK 2430131 T12 ro x134_40 2 fun x135_41 =>
  dynK 2430132 y4 fun f p q => callK (scc3 4000 f ro (p ++ ([x131_39, x135_41] ++ q)) T12 n12) fun x136_42 T18 n18 =>
  ltK Tryz.prog 3 (.tmp 136) (.const (.int .i64 (.ofNat 0))) 2430133 x136_42 (.lit (.int .i64 (.ofNat 0))) fun x137_43 =>
  notK 2430134 x137_43 fun x138_44 =>
  g243_k9 ro lp5 lp8 y0 y1 y4 y10 y11 y12 y13 x138_44 T18 n18
 )
 (
  g243_k9 ro lp5 lp8 y0 y1 y4 y10 y11 y12 y13 (.lit (.bool false)) T12 n12
 )
noncomputable def g243_k7 (ro : List HT) (lp5 : AV → AV → AV → AV → AV → AV → AV → HT → Nat → R) (lp6 : AV → AV → AV → AV → AV → AV → AV → HT → Nat → R) (y0 y1 y4 y10 y11 y12 y13 y120 : AV) (T11 : HT) (n11 : Nat) : R :=
 condK 2430064 y120
 (
  addK Tryz.prog 3 (.tmp 121) (.const (.int .i64 (.ofNat 1))) 2430066 y12 (.lit (.int .i64 (.ofNat 1))) fun x122_20 =>
  lp6 y0 y1 y4 y10 y11 x122_20 y13 T11 n11
 )
 (
  lpf7 2430068 (g243_b8 ro lp5) 100000 y0 y1 y4 y10 y11 y12 y13 T11 n11
 )
noncomputable def g243_b6 (ro : List HT) (lp5 : AV → AV → AV → AV → AV → AV → AV → HT → Nat → R) (lp6 : AV → AV → AV → AV → AV → AV → AV → HT → Nat → R) (y0 y1 y4 y10 y11 y12 y13 : AV) (T10 : HT) (n10 : Nat) : R :=
 leK Tryz.prog 3 (.tmp 105) (.tmp 106) 2430139 y12 y13 fun x107_45 =>
 condK 2430141 x107_45
 (
  iaK 2430145 y0 y12 2 fun x112_46 =>
  ldAK 2430146 T10 ro x112_46 2 fun x113_47 =>
  iaK 2430149 y0 y1 2 fun x116_48 =>
  ldAK 2430150 T10 ro x116_48 2 fun x117_49 =>
  dynK 2430151 y4 fun f p q => callK (scc3 4000 f ro (p ++ ([x113_47, x117_49] ++ q)) T10 n10) fun x118_50 T19 n19 =>
  ltK Tryz.prog 3 (.tmp 118) (.const (.int .i64 (.ofNat 0))) 2430152 x118_50 (.lit (.int .i64 (.ofNat 0))) fun x119_51 =>
  g243_k7 ro lp5 lp6 y0 y1 y4 y10 y11 y12 y13 x119_51 T19 n19
 )
 (
  g243_k7 ro lp5 lp6 y0 y1 y4 y10 y11 y12 y13 (.lit (.bool false)) T10 n10
 )
noncomputable def g243_b5 (ro : List HT) (lp5 : AV → AV → AV → AV → AV → AV → AV → HT → Nat → R) (y0 y1 y4 y10 y11 y12 y13 : AV) (T9 : HT) (n9 : Nat) : R :=
 lpf7 2430063 (g243_b6 ro lp5) 100000 y0 y1 y4 y10 y11 y12 y13 T9 n9
noncomputable def g243_k4 (ro : List HT) (lp3 : AV → AV → AV → AV → AV → AV → AV → HT → Nat → R) (y0 y1 y4 y10 y11 y12 y13 y66 : AV) (T6 : HT) (n6 : Nat) : R :=
 condK 2430031 y66
 (
  subK Tryz.prog 3 (.tmp 67) (.const (.int .i64 (.ofNat 1))) 2430033 y13 (.lit (.int .i64 (.ofNat 1))) fun x68_10 =>
  lp3 y0 y1 y4 y10 y11 y12 x68_10 T6 n6
 )
 (
  gtK Tryz.prog 3 (.tmp 69) (.tmp 70) 2430037 y12 y13 fun x71_11 =>
  condK 2430038 x71_11
  (
   .bad 2430039
  )
  (
   iaK 2430046 y0 y13 2 fun x93_12 =>
   ldAK 2430047 T6 ro x93_12 2 fun x94_13 =>
   iaK 2430050 y0 y12 2 fun x97_14 =>
   ldAK 2430051 T6 ro x97_14 2 fun x98_15 =>
   iaK 2430052 y0 y12 2 fun x99_16 =>
   stAK 2430053 T6 x99_16 x94_13 2 fun T7 =>
   iaK 2430054 y0 y13 2 fun x100_17 =>
   stAK 2430055 T7 x100_17 x98_15 2 fun T8 =>
   addK Tryz.prog 3 (.tmp 101) (.const (.int .i64 (.ofNat 1))) 2430057 y12 (.lit (.int .i64 (.ofNat 1))) fun x102_18 =>
   subK Tryz.prog 3 (.tmp 103) (.const (.int .i64 (.ofNat 1))) 2430060 y13 (.lit (.int .i64 (.ofNat 1))) fun x104_19 =>
   lpf7 2430062 (g243_b5 ro) 100000 y0 y1 y4 y10 y11 x102_18 x104_19 T8 n6
  )
 )
noncomputable def g243_b3 (ro : List HT) (lp3 : AV → AV → AV → AV → AV → AV → AV → HT → Nat → R) (y0 y1 y4 y10 y11 y12 y13 : AV) (T5 : HT) (n5 : Nat) : R :=
 leK Tryz.prog 3 (.tmp 50) (.tmp 51) 2430157 y12 y13 fun x52_52 =>
 condK 2430159 x52_52
 (
  iaK 2430163 y0 y13 2 fun x57_53 =>
  ldAK 2430164 T5 ro x57_53 2 fun x58_54 =>
  iaK 2430167 y0 y1 2 fun x61_55 =>
  ldAK 2430168 T5 ro x61_55 2 fun x62_56 =>
  dynK 2430169 y4 fun f p q => callK (scc3 4000 f ro (p ++ ([x58_54, x62_56] ++ q)) T5 n5) fun x63_57 T20 n20 =>
  ltK Tryz.prog 3 (.tmp 63) (.const (.int .i64 (.ofNat 0))) 2430170 x63_57 (.lit (.int .i64 (.ofNat 0))) fun x64_58 =>
  notK 2430171 x64_58 fun x65_59 =>
  g243_k4 ro lp3 y0 y1 y4 y10 y11 y12 y13 x65_59 T20 n20
 )
 (
  g243_k4 ro lp3 y0 y1 y4 y10 y11 y12 y13 (.lit (.bool false)) T5 n5
 )
noncomputable def g243_k2 (ro : List HT) (lp1 : AV → AV → AV → AV → AV → AV → AV → HT → Nat → R) (y0 y1 y4 y10 y11 y12 y13 y47 : AV) (T4 : HT) (n4 : Nat) : R :=
 condK 2430026 y47
 (
  addK Tryz.prog 3 (.tmp 48) (.const (.int .i64 (.ofNat 1))) 2430028 y12 (.lit (.int .i64 (.ofNat 1))) fun x49_9 =>
  lp1 y0 y1 y4 y10 y11 x49_9 y13 T4 n4
 )
 (
  lpf7 2430030 (g243_b3 ro) 100000 y0 y1 y4 y10 y11 y12 y13 T4 n4
 )
noncomputable def g243_b1 (ro : List HT) (lp1 : AV → AV → AV → AV → AV → AV → AV → HT → Nat → R) (y0 y1 y4 y10 y11 y12 y13 : AV) (T3 : HT) (n3 : Nat) : R :=
 leK Tryz.prog 3 (.tmp 32) (.tmp 33) 2430176 y12 y13 fun x34_60 =>
 condK 2430178 x34_60
 (
  iaK 2430182 y0 y12 2 fun x39_61 =>
  ldAK 2430183 T3 ro x39_61 2 fun x40_62 =>
  iaK 2430186 y0 y1 2 fun x43_63 =>
  ldAK 2430187 T3 ro x43_63 2 fun x44_64 =>
  dynK 2430188 y4 fun f p q => callK (scc3 4000 f ro (p ++ ([x40_62, x44_64] ++ q)) T3 n3) fun x45_65 T21 n21 =>
  ltK Tryz.prog 3 (.tmp 45) (.const (.int .i64 (.ofNat 0))) 2430189 x45_65 (.lit (.int .i64 (.ofNat 0))) fun x46_66 =>
  g243_k2 ro lp1 y0 y1 y4 y10 y11 y12 y13 x46_66 T21 n21
 )
 (
  g243_k2 ro lp1 y0 y1 y4 y10 y11 y12 y13 (.lit (.bool false)) T3 n3
 )
noncomputable def g243 (ro : List HT) (a0 a1 a2 a3 a4 : AV) (T : HT) (nx : Nat) : R :=
 iaK 2430009 a0 a3 2 fun x20_1 =>
 ldAK 2430010 T ro x20_1 2 fun x21_2 =>
 iaK 2430013 a0 a1 2 fun x24_3 =>
 ldAK 2430014 T ro x24_3 2 fun x25_4 =>
 iaK 2430015 a0 a1 2 fun x26_5 =>
 stAK 2430016 T x26_5 x21_2 2 fun T1 =>
 iaK 2430017 a0 a3 2 fun x27_6 =>
 stAK 2430018 T1 x27_6 x25_4 2 fun T2 =>
 addK Tryz.prog 3 (.tmp 28) (.const (.int .i64 (.ofNat 1))) 2430020 a1 (.lit (.int .i64 (.ofNat 1))) fun x29_7 =>
 subK Tryz.prog 3 (.tmp 30) (.const (.int .i64 (.ofNat 1))) 2430022 a2 (.lit (.int .i64 (.ofNat 1))) fun x31_8 =>
 lpf7 2430025 (g243_b1 ro) 100000 a0 a1 a4 (.lit (.int .i64 (.ofNat 0))) (.lit (.bool false)) x29_7 x31_8 T2 nx
theorem g243_ok (ro : List HT) (a0 a1 a2 a3 a4 : AV) (T : HT) (nx : Nat) : GOk Tryz.prog envE 243 [a0, a1, a2, a3, a4] ro T nx (g243 ro a0 a1 a2 a3 a4 T nx) := by
 refine GOk.of_body Tryz.func243 rfl Tryz.ntmps243 (by kernel_rfl) rfl fun r T' n' h1 w0 base ρ0 its hS hP => ?_
 have X : CtxW envE ρ0 ro r T' n' := trivial
 unfold g243 at h1
 refine sr ?_
 refine as_ ?_
 refine as_ ?_
 refine dn ?_
 refine CV.seq ?_
 refine CV.regionM [(0, .anywhere), (1, .anywhere), (2, .anywhere), (3, .anywhere), (4, .anywhere), (5, .anywhere), (6, .anywhere), (7, .held), (8, .anywhere), (9, .anywhere), (10, .anywhere), (11, .held), (12, .held), (13, .alone), (14, .alone), (15, .alone)] rfl (fun c a a' w hd hq => PanicOk.root (P := Tryz.prog) (fn := Tryz.f243) (w0 := w0) (base := base) (E := envE) (ro := ro) (r := r) (T' := T') (n' := n') (ρ0 := ρ0) c a a' w hd hq) (by kernel_rfl) ?_
 refine MV.step0 (i := 0) rfl (VAL.move rfl) rfl rfl rfl ?_
 refine MV.step0 (i := 1) rfl (VAL.move rfl) rfl rfl rfl ?_
 refine MV.step0 (i := 2) rfl (VAL.move rfl) rfl rfl rfl ?_
 refine MV.step0 (i := 3) rfl (VAL.move rfl) rfl rfl rfl ?_
 refine MV.step0 (i := 4) rfl (VAL.move rfl) rfl rfl rfl ?_
 refine MV.step0 (i := 5) rfl (VAL.move rfl) rfl rfl rfl ?_
 refine MV.lift0 (i := 6) rfl (V.ia h1 rfl rfl Cnf.el259) rfl rfl rfl fun x20_1 h2 => ?_
 refine MV.lift1 (i := 7) rfl (fun _ z => z) (V.ldA hS h2 rfl Cnf.agg264) rfl rfl rfl [] (by kernel_rfl) fun x21_2 h3 => ?_
 refine MV.step0 (i := 8) rfl (VAL.move rfl) rfl rfl rfl ?_
 refine MV.step0 (i := 9) rfl (VAL.move rfl) rfl rfl rfl ?_
 refine MV.lift0 (i := 10) rfl (V.ia h3 rfl rfl Cnf.el259) rfl rfl rfl fun x24_3 h4 => ?_
 refine MV.lift1 (i := 11) rfl (fun _ z => z) (V.ldA hS h4 rfl Cnf.agg264) rfl rfl rfl [7] (by kernel_rfl) fun x25_4 h5 => ?_
 refine MV.lift1 (i := 12) rfl (fun _ z => z) (V.ia h5 rfl rfl Cnf.el259) rfl rfl rfl [] (by kernel_rfl) fun x26_5 h6 => ?_
 refine MV.force (i := 13) rfl ?_
 refine LV.stA hS h6 rfl rfl rfl Cnf.agg264 rfl rfl rfl fun T1 its h7 hS => ?_
 refine LV.nextM [] (by kernel_rfl) (fun z => absurd rfl z) ?_
 refine MV.force (i := 14) rfl ?_
 refine vy (V.ia h7 rfl rfl Cnf.el259) fun x27_6 h8 => ?_
 refine LV.nextM [] (by kernel_rfl) (fun z => absurd rfl z) ?_
 refine MV.force (i := 15) rfl ?_
 refine LV.stA hS h8 rfl rfl rfl Cnf.agg264 rfl rfl rfl fun T2 its h9 hS => ?_
 refine LV.nextM [] (by kernel_rfl) (fun z => absurd rfl z) ?_
 refine mdn ?_
 refine sr ?_
 refine mv ?_
 refine vy (V.add h9 rfl rfl) fun x29_7 h10 => ?_
 refine mv ?_
 refine vy (V.sub h10 rfl rfl) fun x31_8 h11 => ?_
 refine as_ ?_
 refine as_ ?_
 refine dn ?_
 refine CV.seq ?_
 refine CV.block ?_
 refine cl7 X 0 1 4 10 11 12 13 [] hS h11 ⟨rfl, rfl, rfl, rfl, rfl, rfl, rfl, trivial⟩ ?_
 intro f1 y0 y1 y4 y10 y11 y12 y13 T3 n3 ρ its hS h12
 unfold g243_b1 at h12
 clear h1 h2 h3 h4 h5 h6 h7 h8 h9 h10 h11
 refine CV.seq ?_
 refine cs8 X 0 1 4 10 11 12 13 47 [] (g243_k2 ro (lpf7 2430025 (g243_b1 ro) f1)) ?_ ?_
 ·
  refine CV.regionM [(0, .anywhere), (1, .anywhere), (2, .anywhere), (3, .anywhere), (4, .anywhere), (5, .anywhere), (6, .anywhere), (7, .anywhere), (8, .held), (9, .anywhere), (10, .anywhere), (11, .anywhere), (12, .held), (13, .alone), (14, .alone), (15, .alone)] rfl (fun c a a' w hd hq => PanicOk.root (P := Tryz.prog) (fn := Tryz.f243) (w0 := w0) (base := base) (E := envE) (ro := ro) (r := r) (T' := T') (n' := n') (ρ0 := ρ0) c a a' w hd hq) (by kernel_rfl) ?_
  refine MV.step0 (i := 0) rfl (VAL.move rfl) rfl rfl rfl ?_
  refine MV.step0 (i := 1) rfl (VAL.move rfl) rfl rfl rfl ?_
  refine MV.lift0 (i := 2) rfl (V.le h12 rfl rfl) rfl rfl rfl fun x34_60 h87 => ?_
  refine MV.step0 (i := 3) rfl (VAL.move rfl) rfl rfl rfl ?_
  rcases condK_inv h87 with ⟨e, h88⟩ | ⟨e, h88⟩
  ·
   clear h12 h87
   subst e
   refine MV.step0 (i := 4) rfl (VAL.move rfl) rfl rfl rfl ?_
   refine MV.step0 (i := 5) rfl (VAL.move rfl) rfl rfl rfl ?_
   refine MV.step0 (i := 6) rfl (VAL.move rfl) rfl rfl rfl ?_
   refine MV.lift0 (i := 7) rfl (V.ia h88 rfl rfl Cnf.el259) rfl rfl rfl fun x39_61 h89 => ?_
   refine MV.lift1 (i := 8) rfl (fun _ z => z) (V.ldA hS h89 rfl Cnf.agg264) rfl rfl rfl [] (by kernel_rfl) fun x40_62 h90 => ?_
   refine MV.step0 (i := 9) rfl (VAL.move rfl) rfl rfl rfl ?_
   refine MV.step0 (i := 10) rfl (VAL.move rfl) rfl rfl rfl ?_
   refine MV.lift0 (i := 11) rfl (V.ia h90 rfl rfl Cnf.el259) rfl rfl rfl fun x43_63 h91 => ?_
   refine MV.lift1 (i := 12) rfl (fun _ z => z) (V.ldA hS h91 rfl Cnf.agg264) rfl rfl rfl [8] (by kernel_rfl) fun x44_64 h92 => ?_
   refine MV.force (i := 13) rfl ?_
   refine LV.callD (G := fun f gs => scc3 4000 f ro gs T3 n3) (qs := [x40_62, x44_64]) hS h92 (fun f gs => scc3_ok _ _ _ _ _ _) hP rfl rfl rfl rfl rfl rfl rfl fun x45_65 T21 n21 h93 ρ its hS => ?_
   refine LV.nextM [] (by kernel_rfl) (fun z => absurd rfl z) ?_
   refine MV.force (i := 14) rfl ?_
   refine vy (V.lt h93 rfl rfl) fun x46_66 h94 => ?_
   refine LV.nextM [] (by kernel_rfl) (fun z => absurd rfl z) ?_
   refine MV.force (i := 15) rfl ?_
   refine pu ?_
   refine LV.nextM [] (by kernel_rfl) (fun z => absurd rfl z) ?_
   refine MV.done ?_
   exact pa8 hS h94 ⟨rfl, rfl, rfl, rfl, rfl, rfl, rfl, rfl, trivial⟩
  ·
   clear h12 h87
   subst e
   refine MV.skip0 (i := 4) rfl rfl rfl rfl ?_
   refine MV.skip0 (i := 5) rfl rfl rfl rfl ?_
   refine MV.skip0 (i := 6) rfl rfl rfl rfl ?_
   refine MV.skip0 (i := 7) rfl rfl rfl rfl ?_
   refine MV.skip1 (i := 8) rfl (fun _ z => z) rfl rfl rfl [] (by kernel_rfl) ?_
   refine MV.skip0 (i := 9) rfl rfl rfl rfl ?_
   refine MV.skip0 (i := 10) rfl rfl rfl rfl ?_
   refine MV.skip0 (i := 11) rfl rfl rfl rfl ?_
   refine MV.skip1 (i := 12) rfl (fun _ z => z) rfl rfl rfl [8] (by kernel_rfl) ?_
   refine MV.force (i := 13) rfl ?_
   refine sk ?_
   refine LV.nextM [] (by kernel_rfl) (fun z => absurd rfl z) ?_
   refine MV.force (i := 14) rfl ?_
   refine sk ?_
   refine LV.nextM [] (by kernel_rfl) (fun z => absurd rfl z) ?_
   refine MV.force (i := 15) rfl ?_
   refine pu ?_
   refine LV.nextM [] (by kernel_rfl) (fun z => absurd rfl z) ?_
   refine MV.done ?_
   exact pa8 hS h88 ⟨rfl, rfl, rfl, rfl, rfl, rfl, rfl, rfl, trivial⟩
 ·
  intro y0 y1 y4 y10 y11 y12 y13 y47 T4 n4 ρ its hS h13
  unfold g243_k2 at h13
  clear h12
  refine CV.cond h13 rfl (fun e h14 => ?_) (fun e h14 => ?_)
  ·
   clear h13
   subst e
   refine CV.skip ?_
   refine PV.thenN ?_
   refine CV.block ?_
   refine CV.region ?_
   refine mv ?_
   refine vy (V.add h14 rfl rfl) fun x49_9 h15 => ?_
   refine as_ ?_
   refine LV.done ?_
   refine PV.blockN ?_
   exact pb7 hS h15 ⟨rfl, rfl, rfl, rfl, rfl, rfl, rfl, trivial⟩
  ·
   clear h13
   subst e
   refine CV.exit ?_
   refine PV.thenE ?_
   refine PV.thenE ?_
   refine PV.blockE ?_
   refine PV.thenN ?_
   refine CV.seq ?_
   refine CV.block ?_
   refine cl7 X 0 1 4 10 11 12 13 [] hS h14 ⟨rfl, rfl, rfl, rfl, rfl, rfl, rfl, trivial⟩ ?_
   intro f3 y0 y1 y4 y10 y11 y12 y13 T5 n5 ρ its hS h16
   unfold g243_b3 at h16
   clear h14
   refine CV.seq ?_
   refine cs8 X 0 1 4 10 11 12 13 66 [] (g243_k4 ro (lpf7 2430030 (g243_b3 ro) f3)) ?_ ?_
   ·
    refine CV.regionM [(0, .anywhere), (1, .anywhere), (2, .anywhere), (3, .anywhere), (4, .anywhere), (5, .anywhere), (6, .anywhere), (7, .anywhere), (8, .held), (9, .anywhere), (10, .anywhere), (11, .anywhere), (12, .held), (13, .alone), (14, .alone), (15, .alone), (16, .alone)] rfl (fun c a a' w hd hq => PanicOk.root (P := Tryz.prog) (fn := Tryz.f243) (w0 := w0) (base := base) (E := envE) (ro := ro) (r := r) (T' := T') (n' := n') (ρ0 := ρ0) c a a' w hd hq) (by kernel_rfl) ?_
    refine MV.step0 (i := 0) rfl (VAL.move rfl) rfl rfl rfl ?_
    refine MV.step0 (i := 1) rfl (VAL.move rfl) rfl rfl rfl ?_
    refine MV.lift0 (i := 2) rfl (V.le h16 rfl rfl) rfl rfl rfl fun x52_52 h78 => ?_
    refine MV.step0 (i := 3) rfl (VAL.move rfl) rfl rfl rfl ?_
    rcases condK_inv h78 with ⟨e, h79⟩ | ⟨e, h79⟩
    ·
     clear h16 h78
     subst e
     refine MV.step0 (i := 4) rfl (VAL.move rfl) rfl rfl rfl ?_
     refine MV.step0 (i := 5) rfl (VAL.move rfl) rfl rfl rfl ?_
     refine MV.step0 (i := 6) rfl (VAL.move rfl) rfl rfl rfl ?_
     refine MV.lift0 (i := 7) rfl (V.ia h79 rfl rfl Cnf.el259) rfl rfl rfl fun x57_53 h80 => ?_
     refine MV.lift1 (i := 8) rfl (fun _ z => z) (V.ldA hS h80 rfl Cnf.agg264) rfl rfl rfl [] (by kernel_rfl) fun x58_54 h81 => ?_
     refine MV.step0 (i := 9) rfl (VAL.move rfl) rfl rfl rfl ?_
     refine MV.step0 (i := 10) rfl (VAL.move rfl) rfl rfl rfl ?_
     refine MV.lift0 (i := 11) rfl (V.ia h81 rfl rfl Cnf.el259) rfl rfl rfl fun x61_55 h82 => ?_
     refine MV.lift1 (i := 12) rfl (fun _ z => z) (V.ldA hS h82 rfl Cnf.agg264) rfl rfl rfl [8] (by kernel_rfl) fun x62_56 h83 => ?_
     refine MV.force (i := 13) rfl ?_
     refine LV.callD (G := fun f gs => scc3 4000 f ro gs T5 n5) (qs := [x58_54, x62_56]) hS h83 (fun f gs => scc3_ok _ _ _ _ _ _) hP rfl rfl rfl rfl rfl rfl rfl fun x63_57 T20 n20 h84 ρ its hS => ?_
     refine LV.nextM [] (by kernel_rfl) (fun z => absurd rfl z) ?_
     refine MV.force (i := 14) rfl ?_
     refine vy (V.lt h84 rfl rfl) fun x64_58 h85 => ?_
     refine LV.nextM [] (by kernel_rfl) (fun z => absurd rfl z) ?_
     refine MV.force (i := 15) rfl ?_
     refine vy (V.not h85 rfl) fun x65_59 h86 => ?_
     refine LV.nextM [] (by kernel_rfl) (fun z => absurd rfl z) ?_
     refine MV.force (i := 16) rfl ?_
     refine pu ?_
     refine LV.nextM [] (by kernel_rfl) (fun z => absurd rfl z) ?_
     refine MV.done ?_
     exact pa8 hS h86 ⟨rfl, rfl, rfl, rfl, rfl, rfl, rfl, rfl, trivial⟩
    ·
     clear h16 h78
     subst e
     refine MV.skip0 (i := 4) rfl rfl rfl rfl ?_
     refine MV.skip0 (i := 5) rfl rfl rfl rfl ?_
     refine MV.skip0 (i := 6) rfl rfl rfl rfl ?_
     refine MV.skip0 (i := 7) rfl rfl rfl rfl ?_
     refine MV.skip1 (i := 8) rfl (fun _ z => z) rfl rfl rfl [] (by kernel_rfl) ?_
     refine MV.skip0 (i := 9) rfl rfl rfl rfl ?_
     refine MV.skip0 (i := 10) rfl rfl rfl rfl ?_
     refine MV.skip0 (i := 11) rfl rfl rfl rfl ?_
     refine MV.skip1 (i := 12) rfl (fun _ z => z) rfl rfl rfl [8] (by kernel_rfl) ?_
     refine MV.force (i := 13) rfl ?_
     refine sk ?_
     refine LV.nextM [] (by kernel_rfl) (fun z => absurd rfl z) ?_
     refine MV.force (i := 14) rfl ?_
     refine sk ?_
     refine LV.nextM [] (by kernel_rfl) (fun z => absurd rfl z) ?_
     refine MV.force (i := 15) rfl ?_
     refine sk ?_
     refine LV.nextM [] (by kernel_rfl) (fun z => absurd rfl z) ?_
     refine MV.force (i := 16) rfl ?_
     refine pu ?_
     refine LV.nextM [] (by kernel_rfl) (fun z => absurd rfl z) ?_
     refine MV.done ?_
     exact pa8 hS h79 ⟨rfl, rfl, rfl, rfl, rfl, rfl, rfl, rfl, trivial⟩
   ·
    intro y0 y1 y4 y10 y11 y12 y13 y66 T6 n6 ρ its hS h17
    unfold g243_k4 at h17
    clear h16
    refine CV.cond h17 rfl (fun e h18 => ?_) (fun e h18 => ?_)
    ·
     clear h17
     subst e
     refine CV.skip ?_
     refine PV.thenN ?_
     refine CV.block ?_
     refine CV.region ?_
     refine mv ?_
     refine vy (V.sub h18 rfl rfl) fun x68_10 h19 => ?_
     refine as_ ?_
     refine LV.done ?_
     refine PV.blockN ?_
     exact pb7 hS h19 ⟨rfl, rfl, rfl, rfl, rfl, rfl, rfl, trivial⟩
    ·
     clear h17
     subst e
     refine CV.exit ?_
     refine PV.thenE ?_
     refine PV.thenE ?_
     refine PV.blockE ?_
     refine PV.thenN ?_
     refine CV.seq ?_
     refine sr ?_
     refine mv ?_
     refine mv ?_
     refine vy (V.gt h18 rfl rfl) fun x71_11 h20 => ?_
     refine dn ?_
     refine CV.cond h20 rfl (fun e h21 => ?_) (fun e h21 => ?_)
     ·
      clear h18 h20
      subst e
      cases h21
     ·
      clear h18 h20
      subst e
      refine CV.skip ?_
      refine PV.thenN ?_
      refine CV.seq ?_
      refine CV.regionM [(0, .anywhere), (1, .anywhere), (2, .anywhere), (3, .anywhere), (4, .anywhere), (5, .anywhere), (6, .anywhere), (7, .held), (8, .anywhere), (9, .anywhere), (10, .anywhere), (11, .held), (12, .held), (13, .alone), (14, .alone), (15, .alone)] rfl (fun c a a' w hd hq => PanicOk.root (P := Tryz.prog) (fn := Tryz.f243) (w0 := w0) (base := base) (E := envE) (ro := ro) (r := r) (T' := T') (n' := n') (ρ0 := ρ0) c a a' w hd hq) (by kernel_rfl) ?_
      refine MV.step0 (i := 0) rfl (VAL.move rfl) rfl rfl rfl ?_
      refine MV.step0 (i := 1) rfl (VAL.move rfl) rfl rfl rfl ?_
      refine MV.step0 (i := 2) rfl (VAL.move rfl) rfl rfl rfl ?_
      refine MV.step0 (i := 3) rfl (VAL.move rfl) rfl rfl rfl ?_
      refine MV.step0 (i := 4) rfl (VAL.move rfl) rfl rfl rfl ?_
      refine MV.step0 (i := 5) rfl (VAL.move rfl) rfl rfl rfl ?_
      refine MV.lift0 (i := 6) rfl (V.ia h21 rfl rfl Cnf.el259) rfl rfl rfl fun x93_12 h22 => ?_
      refine MV.lift1 (i := 7) rfl (fun _ z => z) (V.ldA hS h22 rfl Cnf.agg264) rfl rfl rfl [] (by kernel_rfl) fun x94_13 h23 => ?_
      refine MV.step0 (i := 8) rfl (VAL.move rfl) rfl rfl rfl ?_
      refine MV.step0 (i := 9) rfl (VAL.move rfl) rfl rfl rfl ?_
      refine MV.lift0 (i := 10) rfl (V.ia h23 rfl rfl Cnf.el259) rfl rfl rfl fun x97_14 h24 => ?_
      refine MV.lift1 (i := 11) rfl (fun _ z => z) (V.ldA hS h24 rfl Cnf.agg264) rfl rfl rfl [7] (by kernel_rfl) fun x98_15 h25 => ?_
      refine MV.lift1 (i := 12) rfl (fun _ z => z) (V.ia h25 rfl rfl Cnf.el259) rfl rfl rfl [] (by kernel_rfl) fun x99_16 h26 => ?_
      refine MV.force (i := 13) rfl ?_
      refine LV.stA hS h26 rfl rfl rfl Cnf.agg264 rfl rfl rfl fun T7 its h27 hS => ?_
      refine LV.nextM [] (by kernel_rfl) (fun z => absurd rfl z) ?_
      refine MV.force (i := 14) rfl ?_
      refine vy (V.ia h27 rfl rfl Cnf.el259) fun x100_17 h28 => ?_
      refine LV.nextM [] (by kernel_rfl) (fun z => absurd rfl z) ?_
      refine MV.force (i := 15) rfl ?_
      refine LV.stA hS h28 rfl rfl rfl Cnf.agg264 rfl rfl rfl fun T8 its h29 hS => ?_
      refine LV.nextM [] (by kernel_rfl) (fun z => absurd rfl z) ?_
      refine mdn ?_
      refine sr ?_
      refine mv ?_
      refine vy (V.add h29 rfl rfl) fun x102_18 h30 => ?_
      refine as_ ?_
      refine dn ?_
      refine sr ?_
      refine mv ?_
      refine vy (V.sub h30 rfl rfl) fun x104_19 h31 => ?_
      refine as_ ?_
      refine dn ?_
      refine CV.seq ?_
      refine CV.block ?_
      refine cl7 X 0 1 4 10 11 12 13 [] hS h31 ⟨rfl, rfl, rfl, rfl, rfl, rfl, rfl, trivial⟩ ?_
      intro f5 y0 y1 y4 y10 y11 y12 y13 T9 n9 ρ its hS h32
      unfold g243_b5 at h32
      clear h21 h22 h23 h24 h25 h26 h27 h28 h29 h30 h31
      refine CV.block ?_
      refine CV.seq ?_
      refine CV.block ?_
      refine cl7 X 0 1 4 10 11 12 13 [] hS h32 ⟨rfl, rfl, rfl, rfl, rfl, rfl, rfl, trivial⟩ ?_
      intro f6 y0 y1 y4 y10 y11 y12 y13 T10 n10 ρ its hS h33
      unfold g243_b6 at h33
      clear h32
      refine CV.seq ?_
      refine cs8 X 0 1 4 10 11 12 13 120 [] (g243_k7 ro (lpf7 2430062 (g243_b5 ro) f5) (lpf7 2430063 (g243_b6 ro (lpf7 2430062 (g243_b5 ro) f5)) f6)) ?_ ?_
      ·
       refine CV.regionM [(0, .anywhere), (1, .anywhere), (2, .anywhere), (3, .anywhere), (4, .anywhere), (5, .anywhere), (6, .anywhere), (7, .anywhere), (8, .held), (9, .anywhere), (10, .anywhere), (11, .anywhere), (12, .held), (13, .alone), (14, .alone), (15, .alone)] rfl (fun c a a' w hd hq => PanicOk.root (P := Tryz.prog) (fn := Tryz.f243) (w0 := w0) (base := base) (E := envE) (ro := ro) (r := r) (T' := T') (n' := n') (ρ0 := ρ0) c a a' w hd hq) (by kernel_rfl) ?_
       refine MV.step0 (i := 0) rfl (VAL.move rfl) rfl rfl rfl ?_
       refine MV.step0 (i := 1) rfl (VAL.move rfl) rfl rfl rfl ?_
       refine MV.lift0 (i := 2) rfl (V.le h33 rfl rfl) rfl rfl rfl fun x107_45 h70 => ?_
       refine MV.step0 (i := 3) rfl (VAL.move rfl) rfl rfl rfl ?_
       rcases condK_inv h70 with ⟨e, h71⟩ | ⟨e, h71⟩
       ·
        clear h33 h70
        subst e
        refine MV.step0 (i := 4) rfl (VAL.move rfl) rfl rfl rfl ?_
        refine MV.step0 (i := 5) rfl (VAL.move rfl) rfl rfl rfl ?_
        refine MV.step0 (i := 6) rfl (VAL.move rfl) rfl rfl rfl ?_
        refine MV.lift0 (i := 7) rfl (V.ia h71 rfl rfl Cnf.el259) rfl rfl rfl fun x112_46 h72 => ?_
        refine MV.lift1 (i := 8) rfl (fun _ z => z) (V.ldA hS h72 rfl Cnf.agg264) rfl rfl rfl [] (by kernel_rfl) fun x113_47 h73 => ?_
        refine MV.step0 (i := 9) rfl (VAL.move rfl) rfl rfl rfl ?_
        refine MV.step0 (i := 10) rfl (VAL.move rfl) rfl rfl rfl ?_
        refine MV.lift0 (i := 11) rfl (V.ia h73 rfl rfl Cnf.el259) rfl rfl rfl fun x116_48 h74 => ?_
        refine MV.lift1 (i := 12) rfl (fun _ z => z) (V.ldA hS h74 rfl Cnf.agg264) rfl rfl rfl [8] (by kernel_rfl) fun x117_49 h75 => ?_
        refine MV.force (i := 13) rfl ?_
        refine LV.callD (G := fun f gs => scc3 4000 f ro gs T10 n10) (qs := [x113_47, x117_49]) hS h75 (fun f gs => scc3_ok _ _ _ _ _ _) hP rfl rfl rfl rfl rfl rfl rfl fun x118_50 T19 n19 h76 ρ its hS => ?_
        refine LV.nextM [] (by kernel_rfl) (fun z => absurd rfl z) ?_
        refine MV.force (i := 14) rfl ?_
        refine vy (V.lt h76 rfl rfl) fun x119_51 h77 => ?_
        refine LV.nextM [] (by kernel_rfl) (fun z => absurd rfl z) ?_
        refine MV.force (i := 15) rfl ?_
        refine pu ?_
        refine LV.nextM [] (by kernel_rfl) (fun z => absurd rfl z) ?_
        refine MV.done ?_
        exact pa8 hS h77 ⟨rfl, rfl, rfl, rfl, rfl, rfl, rfl, rfl, trivial⟩
       ·
        clear h33 h70
        subst e
        refine MV.skip0 (i := 4) rfl rfl rfl rfl ?_
        refine MV.skip0 (i := 5) rfl rfl rfl rfl ?_
        refine MV.skip0 (i := 6) rfl rfl rfl rfl ?_
        refine MV.skip0 (i := 7) rfl rfl rfl rfl ?_
        refine MV.skip1 (i := 8) rfl (fun _ z => z) rfl rfl rfl [] (by kernel_rfl) ?_
        refine MV.skip0 (i := 9) rfl rfl rfl rfl ?_
        refine MV.skip0 (i := 10) rfl rfl rfl rfl ?_
        refine MV.skip0 (i := 11) rfl rfl rfl rfl ?_
        refine MV.skip1 (i := 12) rfl (fun _ z => z) rfl rfl rfl [8] (by kernel_rfl) ?_
        refine MV.force (i := 13) rfl ?_
        refine sk ?_
        refine LV.nextM [] (by kernel_rfl) (fun z => absurd rfl z) ?_
        refine MV.force (i := 14) rfl ?_
        refine sk ?_
        refine LV.nextM [] (by kernel_rfl) (fun z => absurd rfl z) ?_
        refine MV.force (i := 15) rfl ?_
        refine pu ?_
        refine LV.nextM [] (by kernel_rfl) (fun z => absurd rfl z) ?_
        refine MV.done ?_
        exact pa8 hS h71 ⟨rfl, rfl, rfl, rfl, rfl, rfl, rfl, rfl, trivial⟩
      ·
       intro y0 y1 y4 y10 y11 y12 y13 y120 T11 n11 ρ its hS h34
       unfold g243_k7 at h34
       clear h33
       refine CV.cond h34 rfl (fun e h35 => ?_) (fun e h35 => ?_)
       ·
        clear h34
        subst e
        refine CV.skip ?_
        refine PV.thenN ?_
        refine CV.block ?_
        refine CV.region ?_
        refine mv ?_
        refine vy (V.add h35 rfl rfl) fun x122_20 h36 => ?_
        refine as_ ?_
        refine LV.done ?_
        refine PV.blockN ?_
        exact pb7 hS h36 ⟨rfl, rfl, rfl, rfl, rfl, rfl, rfl, trivial⟩
       ·
        clear h34
        subst e
        refine CV.exit ?_
        refine PV.thenE ?_
        refine PV.thenE ?_
        refine PV.blockE ?_
        refine PV.thenN ?_
        refine CV.seq ?_
        refine CV.block ?_
        refine cl7 X 0 1 4 10 11 12 13 [] hS h35 ⟨rfl, rfl, rfl, rfl, rfl, rfl, rfl, trivial⟩ ?_
        intro f8 y0 y1 y4 y10 y11 y12 y13 T12 n12 ρ its hS h37
        unfold g243_b8 at h37
        clear h35
        refine CV.seq ?_
        refine cs8 X 0 1 4 10 11 12 13 139 [] (g243_k9 ro (lpf7 2430062 (g243_b5 ro) f5) (lpf7 2430068 (g243_b8 ro (lpf7 2430062 (g243_b5 ro) f5)) f8)) ?_ ?_
        ·
         refine CV.regionM [(0, .anywhere), (1, .anywhere), (2, .anywhere), (3, .anywhere), (4, .anywhere), (5, .anywhere), (6, .anywhere), (7, .anywhere), (8, .held), (9, .anywhere), (10, .anywhere), (11, .anywhere), (12, .held), (13, .alone), (14, .alone), (15, .alone), (16, .alone)] rfl (fun c a a' w hd hq => PanicOk.root (P := Tryz.prog) (fn := Tryz.f243) (w0 := w0) (base := base) (E := envE) (ro := ro) (r := r) (T' := T') (n' := n') (ρ0 := ρ0) c a a' w hd hq) (by kernel_rfl) ?_
         refine MV.step0 (i := 0) rfl (VAL.move rfl) rfl rfl rfl ?_
         refine MV.step0 (i := 1) rfl (VAL.move rfl) rfl rfl rfl ?_
         refine MV.lift0 (i := 2) rfl (V.le h37 rfl rfl) rfl rfl rfl fun x125_37 h61 => ?_
         refine MV.step0 (i := 3) rfl (VAL.move rfl) rfl rfl rfl ?_
         rcases condK_inv h61 with ⟨e, h62⟩ | ⟨e, h62⟩
         ·
          clear h37 h61
          subst e
          refine MV.step0 (i := 4) rfl (VAL.move rfl) rfl rfl rfl ?_
          refine MV.step0 (i := 5) rfl (VAL.move rfl) rfl rfl rfl ?_
          refine MV.step0 (i := 6) rfl (VAL.move rfl) rfl rfl rfl ?_
          refine MV.lift0 (i := 7) rfl (V.ia h62 rfl rfl Cnf.el259) rfl rfl rfl fun x130_38 h63 => ?_
          refine MV.lift1 (i := 8) rfl (fun _ z => z) (V.ldA hS h63 rfl Cnf.agg264) rfl rfl rfl [] (by kernel_rfl) fun x131_39 h64 => ?_
          refine MV.step0 (i := 9) rfl (VAL.move rfl) rfl rfl rfl ?_
          refine MV.step0 (i := 10) rfl (VAL.move rfl) rfl rfl rfl ?_
          refine MV.lift0 (i := 11) rfl (V.ia h64 rfl rfl Cnf.el259) rfl rfl rfl fun x134_40 h65 => ?_
          refine MV.lift1 (i := 12) rfl (fun _ z => z) (V.ldA hS h65 rfl Cnf.agg264) rfl rfl rfl [8] (by kernel_rfl) fun x135_41 h66 => ?_
          refine MV.force (i := 13) rfl ?_
          refine LV.callD (G := fun f gs => scc3 4000 f ro gs T12 n12) (qs := [x131_39, x135_41]) hS h66 (fun f gs => scc3_ok _ _ _ _ _ _) hP rfl rfl rfl rfl rfl rfl rfl fun x136_42 T18 n18 h67 ρ its hS => ?_
          refine LV.nextM [] (by kernel_rfl) (fun z => absurd rfl z) ?_
          refine MV.force (i := 14) rfl ?_
          refine vy (V.lt h67 rfl rfl) fun x137_43 h68 => ?_
          refine LV.nextM [] (by kernel_rfl) (fun z => absurd rfl z) ?_
          refine MV.force (i := 15) rfl ?_
          refine vy (V.not h68 rfl) fun x138_44 h69 => ?_
          refine LV.nextM [] (by kernel_rfl) (fun z => absurd rfl z) ?_
          refine MV.force (i := 16) rfl ?_
          refine pu ?_
          refine LV.nextM [] (by kernel_rfl) (fun z => absurd rfl z) ?_
          refine MV.done ?_
          exact pa8 hS h69 ⟨rfl, rfl, rfl, rfl, rfl, rfl, rfl, rfl, trivial⟩
         ·
          clear h37 h61
          subst e
          refine MV.skip0 (i := 4) rfl rfl rfl rfl ?_
          refine MV.skip0 (i := 5) rfl rfl rfl rfl ?_
          refine MV.skip0 (i := 6) rfl rfl rfl rfl ?_
          refine MV.skip0 (i := 7) rfl rfl rfl rfl ?_
          refine MV.skip1 (i := 8) rfl (fun _ z => z) rfl rfl rfl [] (by kernel_rfl) ?_
          refine MV.skip0 (i := 9) rfl rfl rfl rfl ?_
          refine MV.skip0 (i := 10) rfl rfl rfl rfl ?_
          refine MV.skip0 (i := 11) rfl rfl rfl rfl ?_
          refine MV.skip1 (i := 12) rfl (fun _ z => z) rfl rfl rfl [8] (by kernel_rfl) ?_
          refine MV.force (i := 13) rfl ?_
          refine sk ?_
          refine LV.nextM [] (by kernel_rfl) (fun z => absurd rfl z) ?_
          refine MV.force (i := 14) rfl ?_
          refine sk ?_
          refine LV.nextM [] (by kernel_rfl) (fun z => absurd rfl z) ?_
          refine MV.force (i := 15) rfl ?_
          refine sk ?_
          refine LV.nextM [] (by kernel_rfl) (fun z => absurd rfl z) ?_
          refine MV.force (i := 16) rfl ?_
          refine pu ?_
          refine LV.nextM [] (by kernel_rfl) (fun z => absurd rfl z) ?_
          refine MV.done ?_
          exact pa8 hS h62 ⟨rfl, rfl, rfl, rfl, rfl, rfl, rfl, rfl, trivial⟩
        ·
         intro y0 y1 y4 y10 y11 y12 y13 y139 T13 n13 ρ its hS h38
         unfold g243_k9 at h38
         clear h37
         refine CV.cond h38 rfl (fun e h39 => ?_) (fun e h39 => ?_)
         ·
          clear h38
          subst e
          refine CV.skip ?_
          refine PV.thenN ?_
          refine CV.block ?_
          refine CV.region ?_
          refine mv ?_
          refine vy (V.sub h39 rfl rfl) fun x141_21 h40 => ?_
          refine as_ ?_
          refine LV.done ?_
          refine PV.blockN ?_
          exact pb7 hS h40 ⟨rfl, rfl, rfl, rfl, rfl, rfl, rfl, trivial⟩
         ·
          clear h38
          subst e
          refine CV.exit ?_
          refine PV.thenE ?_
          refine PV.thenE ?_
          refine PV.blockE ?_
          refine PV.thenN ?_
          refine CV.seq ?_
          refine sr ?_
          refine mv ?_
          refine mv ?_
          refine vy (V.gt h39 rfl rfl) fun x144_22 h41 => ?_
          refine dn ?_
          refine CV.cond h41 rfl (fun e h42 => ?_) (fun e h42 => ?_)
          ·
           clear h39 h41
           subst e
           refine CV.exit ?_
           refine PV.thenE ?_
           refine PV.blockO rfl ?_
           refine PV.thenE ?_
           refine PV.blockE ?_
           refine PV.thenN ?_
           refine CV.seq ?_
           refine CV.regionM [(0, .anywhere), (1, .anywhere), (2, .anywhere), (3, .anywhere), (4, .anywhere), (5, .anywhere), (6, .anywhere), (7, .held), (8, .anywhere), (9, .anywhere), (10, .anywhere), (11, .held), (12, .held), (13, .alone), (14, .alone), (15, .alone)] rfl (fun c a a' w hd hq => PanicOk.root (P := Tryz.prog) (fn := Tryz.f243) (w0 := w0) (base := base) (E := envE) (ro := ro) (r := r) (T' := T') (n' := n') (ρ0 := ρ0) c a a' w hd hq) (by kernel_rfl) ?_
           refine MV.step0 (i := 0) rfl (VAL.move rfl) rfl rfl rfl ?_
           refine MV.step0 (i := 1) rfl (VAL.move rfl) rfl rfl rfl ?_
           refine MV.step0 (i := 2) rfl (VAL.move rfl) rfl rfl rfl ?_
           refine MV.step0 (i := 3) rfl (VAL.move rfl) rfl rfl rfl ?_
           refine MV.step0 (i := 4) rfl (VAL.move rfl) rfl rfl rfl ?_
           refine MV.step0 (i := 5) rfl (VAL.move rfl) rfl rfl rfl ?_
           refine MV.lift0 (i := 6) rfl (V.ia h42 rfl rfl Cnf.el259) rfl rfl rfl fun x169_23 h43 => ?_
           refine MV.lift1 (i := 7) rfl (fun _ z => z) (V.ldA hS h43 rfl Cnf.agg264) rfl rfl rfl [] (by kernel_rfl) fun x170_24 h44 => ?_
           refine MV.step0 (i := 8) rfl (VAL.move rfl) rfl rfl rfl ?_
           refine MV.step0 (i := 9) rfl (VAL.move rfl) rfl rfl rfl ?_
           refine MV.lift0 (i := 10) rfl (V.ia h44 rfl rfl Cnf.el259) rfl rfl rfl fun x173_25 h45 => ?_
           refine MV.lift1 (i := 11) rfl (fun _ z => z) (V.ldA hS h45 rfl Cnf.agg264) rfl rfl rfl [7] (by kernel_rfl) fun x174_26 h46 => ?_
           refine MV.lift1 (i := 12) rfl (fun _ z => z) (V.ia h46 rfl rfl Cnf.el259) rfl rfl rfl [] (by kernel_rfl) fun x175_27 h47 => ?_
           refine MV.force (i := 13) rfl ?_
           refine LV.stA hS h47 rfl rfl rfl Cnf.agg264 rfl rfl rfl fun T14 its h48 hS => ?_
           refine LV.nextM [] (by kernel_rfl) (fun z => absurd rfl z) ?_
           refine MV.force (i := 14) rfl ?_
           refine vy (V.ia h48 rfl rfl Cnf.el259) fun x176_28 h49 => ?_
           refine LV.nextM [] (by kernel_rfl) (fun z => absurd rfl z) ?_
           refine MV.force (i := 15) rfl ?_
           refine LV.stA hS h49 rfl rfl rfl Cnf.agg264 rfl rfl rfl fun T15 its h50 hS => ?_
           refine LV.nextM [] (by kernel_rfl) (fun z => absurd rfl z) ?_
           refine mdn ?_
           refine sr ?_
           refine mv ?_
           refine as_ ?_
           refine as_ ?_
           refine dn ?_
           refine CV.ret ?_
           cases h50
           exact PV.ret (by simp) Tryz.results243 hS (RS.tmp rfl (RS.tmp rfl RS.nil)) rfl
          ·
           clear h39 h41
           subst e
           refine CV.skip ?_
           refine PV.thenN ?_
           refine CV.seq ?_
           refine CV.regionM [(0, .anywhere), (1, .anywhere), (2, .anywhere), (3, .anywhere), (4, .anywhere), (5, .anywhere), (6, .anywhere), (7, .held), (8, .anywhere), (9, .anywhere), (10, .anywhere), (11, .held), (12, .held), (13, .alone), (14, .alone), (15, .alone)] rfl (fun c a a' w hd hq => PanicOk.root (P := Tryz.prog) (fn := Tryz.f243) (w0 := w0) (base := base) (E := envE) (ro := ro) (r := r) (T' := T') (n' := n') (ρ0 := ρ0) c a a' w hd hq) (by kernel_rfl) ?_
           refine MV.step0 (i := 0) rfl (VAL.move rfl) rfl rfl rfl ?_
           refine MV.step0 (i := 1) rfl (VAL.move rfl) rfl rfl rfl ?_
           refine MV.step0 (i := 2) rfl (VAL.move rfl) rfl rfl rfl ?_
           refine MV.step0 (i := 3) rfl (VAL.move rfl) rfl rfl rfl ?_
           refine MV.step0 (i := 4) rfl (VAL.move rfl) rfl rfl rfl ?_
           refine MV.step0 (i := 5) rfl (VAL.move rfl) rfl rfl rfl ?_
           refine MV.lift0 (i := 6) rfl (V.ia h42 rfl rfl Cnf.el259) rfl rfl rfl fun x151_29 h51 => ?_
           refine MV.lift1 (i := 7) rfl (fun _ z => z) (V.ldA hS h51 rfl Cnf.agg264) rfl rfl rfl [] (by kernel_rfl) fun x152_30 h52 => ?_
           refine MV.step0 (i := 8) rfl (VAL.move rfl) rfl rfl rfl ?_
           refine MV.step0 (i := 9) rfl (VAL.move rfl) rfl rfl rfl ?_
           refine MV.lift0 (i := 10) rfl (V.ia h52 rfl rfl Cnf.el259) rfl rfl rfl fun x155_31 h53 => ?_
           refine MV.lift1 (i := 11) rfl (fun _ z => z) (V.ldA hS h53 rfl Cnf.agg264) rfl rfl rfl [7] (by kernel_rfl) fun x156_32 h54 => ?_
           refine MV.lift1 (i := 12) rfl (fun _ z => z) (V.ia h54 rfl rfl Cnf.el259) rfl rfl rfl [] (by kernel_rfl) fun x157_33 h55 => ?_
           refine MV.force (i := 13) rfl ?_
           refine LV.stA hS h55 rfl rfl rfl Cnf.agg264 rfl rfl rfl fun T16 its h56 hS => ?_
           refine LV.nextM [] (by kernel_rfl) (fun z => absurd rfl z) ?_
           refine MV.force (i := 14) rfl ?_
           refine vy (V.ia h56 rfl rfl Cnf.el259) fun x158_34 h57 => ?_
           refine LV.nextM [] (by kernel_rfl) (fun z => absurd rfl z) ?_
           refine MV.force (i := 15) rfl ?_
           refine LV.stA hS h57 rfl rfl rfl Cnf.agg264 rfl rfl rfl fun T17 its h58 hS => ?_
           refine LV.nextM [] (by kernel_rfl) (fun z => absurd rfl z) ?_
           refine mdn ?_
           refine sr ?_
           refine mv ?_
           refine vy (V.add h58 rfl rfl) fun x160_35 h59 => ?_
           refine as_ ?_
           refine dn ?_
           refine CV.region ?_
           refine mv ?_
           refine vy (V.sub h59 rfl rfl) fun x162_36 h60 => ?_
           refine as_ ?_
           refine LV.done ?_
           refine PV.blockN ?_
           exact pb7 hS h60 ⟨rfl, rfl, rfl, rfl, rfl, rfl, rfl, trivial⟩
noncomputable def g187_k4 (ro : List HT) (lp1 : AV → AV → AV → AV → AV → AV → AV → HT → Nat → R) (y0 y1 y2 y3 y4 y10 y11 y12 y13 y97 : AV) (T6 : HT) (n6 : Nat) : R :=
 condK 1870043 y97
 (
  .bad 1870044
 )
 (
  callK (g243 ro y0 y1 y2 y13 y4 T6 n6) fun x111_10 T7 n7 =>
  exK 1870052 x111_10 0 fun x112_11 =>
  exK 1870053 x111_10 1 fun x113_12 =>
  subK Tryz.prog 3 (.tmp 115) (.tmp 116) 1870060 x112_11 y1 fun x117_13 =>
  subK Tryz.prog 3 (.tmp 118) (.tmp 119) 1870063 y2 x112_11 fun x120_14 =>
  bin0 Tryz.prog .quo 3 (.tmp 121) (.const (.int .i64 (.ofNat 8))) 1870067 y12 (.lit (.int .i64 (.ofNat 8))) fun x122_15 =>
  ltK Tryz.prog 3 (.tmp 123) (.tmp 124) 1870071 x117_13 x120_14 fun x125_16 =>
  .bad 1870072
 )
noncomputable def g187_k3 (ro : List HT) (lp1 : AV → AV → AV → AV → AV → AV → AV → HT → Nat → R) (y0 y1 y2 y3 y4 y10 y11 y12 y13 y75 : AV) (T5 : HT) (n5 : Nat) : R :=
 condK 1870041 y75
 (
  .bad 1870042
 )
 (
  gtK Tryz.prog 3 (.tmp 81) (.const (.int .i64 (.ofNat 0))) 1870074 y1 (.lit (.int .i64 (.ofNat 0))) fun x82_17 =>
  condK 1870076 x82_17
  (
   subK Tryz.prog 3 (.tmp 86) (.const (.int .i64 (.ofNat 1))) 1870080 y1 (.lit (.int .i64 (.ofNat 1))) fun x87_18 =>
   iaK 1870081 y0 x87_18 2 fun x88_19 =>
   ldAK 1870082 T5 ro x88_19 2 fun x89_20 =>
   iaK 1870085 y0 y13 2 fun x92_21 =>
   ldAK 1870086 T5 ro x92_21 2 fun x93_22 =>
   dynK 1870087 y4 fun f p q => callK (scc3 4000 f ro (p ++ ([x89_20, x93_22] ++ q)) T5 n5) fun x94_23 T8 n8 =>
   ltK Tryz.prog 3 (.tmp 94) (.const (.int .i64 (.ofNat 0))) 1870088 x94_23 (.lit (.int .i64 (.ofNat 0))) fun x95_24 =>
   notK 1870089 x95_24 fun x96_25 =>
   g187_k4 ro lp1 y0 y1 y2 y3 y4 y10 y11 y12 y13 x96_25 T8 n8
  )
  (
   g187_k4 ro lp1 y0 y1 y2 y3 y4 y10 y11 y12 y13 (.lit (.bool false)) T5 n5
  )
 )
noncomputable def g187_k2 (ro : List HT) (lp1 : AV → AV → AV → AV → AV → AV → AV → HT → Nat → R) (y0 y1 y2 y3 y4 y10 y11 y12 y13 y14 y71 : AV) (T4 : HT) (n4 : Nat) : R :=
 condK 1870092 y71
 (
  eqK Tryz.prog 297 (.tmp 73) (.const (.int .i64 (.ofNat 1))) 1870094 y14 (.lit (.int .i64 (.ofNat 1))) fun x74_26 =>
  g187_k3 ro lp1 y0 y1 y2 y3 y4 y10 y11 y12 y13 x74_26 T4 n4
 )
 (
  g187_k3 ro lp1 y0 y1 y2 y3 y4 y10 y11 y12 y13 (.lit (.bool false)) T4 n4
 )
noncomputable def g187_b1 (ro : List HT) (lp1 : AV → AV → AV → AV → AV → AV → AV → HT → Nat → R) (y0 y1 y2 y3 y4 y10 y11 : AV) (T1 : HT) (n1 : Nat) : R :=
 subK Tryz.prog 3 (.tmp 21) (.tmp 22) 1870006 y2 y1 fun x23_1 =>
 leK Tryz.prog 3 (.tmp 24) (.const (.int .i64 (.ofNat 12))) 1870009 x23_1 (.lit (.int .i64 (.ofNat 12))) fun x25_2 =>
 condK 1870010 x25_2
 (
  callK (g236 ro y0 y1 y2 y4 T1 n1) fun x30_3 T2 n2 =>
  .ok (.val (.tup [])) T2 n2
 )
 (
  eqK Tryz.prog 3 (.tmp 31) (.const (.int .i64 (.ofNat 0))) 1870017 y3 (.lit (.int .i64 (.ofNat 0))) fun x32_4 =>
  condK 1870018 x32_4
  (
   .bad 1870019
  )
  (
   notK 1870021 y10 fun x39_5 =>
   condK 1870022 x39_5
   (
    .bad 1870023
   )
   (
    callK (g239 ro y0 y1 y2 y4 T1 n1) fun x52_6 T3 n3 =>
    exK 1870030 x52_6 0 fun x53_7 =>
    exK 1870031 x52_6 1 fun x54_8 =>
    eqK Tryz.prog 297 (.tmp 55) (.const (.int .i64 (.ofNat 2))) 1870035 x54_8 (.lit (.int .i64 (.ofNat 2))) fun x56_9 =>
    condK 1870036 x56_9
    (
     .bad 1870037
    )
    (
     condK 1870097 y10
     (
      g187_k2 ro lp1 y0 y1 y2 y3 y4 (.lit (.bool true)) y11 x23_1 x53_7 x54_8 y11 T3 n3
     )
     (
      g187_k2 ro lp1 y0 y1 y2 y3 y4 (.lit (.bool false)) y11 x23_1 x53_7 x54_8 (.lit (.bool false)) T3 n3
     )
    )
   )
  )
 )
noncomputable def g187 (ro : List HT) (a0 a1 a2 a3 a4 : AV) (T : HT) (nx : Nat) : R :=
 lpf7 1870003 (g187_b1 ro) 100000 a0 a1 a2 a3 a4 (.lit (.bool true)) (.lit (.bool true)) T nx
theorem g187_ok (ro : List HT) (a0 a1 a2 a3 a4 : AV) (T : HT) (nx : Nat) : GOk Tryz.prog envE 187 [a0, a1, a2, a3, a4] ro T nx (g187 ro a0 a1 a2 a3 a4 T nx) := by
 refine GOk.of_body Tryz.func187 rfl Tryz.ntmps187 (by kernel_rfl) rfl fun r T' n' h1 w0 base ρ0 its hS hP => ?_
 have X : CtxW envE ρ0 ro r T' n' := trivial
 unfold g187 at h1
 refine sr ?_
 refine as_ ?_
 refine dn ?_
 refine sr ?_
 refine as_ ?_
 refine dn ?_
 refine CV.block ?_
 refine cl7 X 0 1 2 3 4 10 11 [] hS h1 ⟨rfl, rfl, rfl, rfl, rfl, rfl, rfl, trivial⟩ ?_
 intro f1 y0 y1 y2 y3 y4 y10 y11 T1 n1 ρ its hS h2
 unfold g187_b1 at h2
 clear h1
 refine CV.block ?_
 refine sr ?_
 refine mv ?_
 refine mv ?_
 refine vy (V.sub h2 rfl rfl) fun x23_1 h3 => ?_
 refine as_ ?_
 refine dn ?_
 refine CV.seq ?_
 refine sr ?_
 refine mv ?_
 refine vy (V.le h3 rfl rfl) fun x25_2 h4 => ?_
 refine dn ?_
 refine CV.cond h4 rfl (fun e h5 => ?_) (fun e h5 => ?_)
 ·
  clear h2 h3 h4
  subst e
  refine sr ?_
  refine mv ?_
  refine mv ?_
  refine mv ?_
  refine mv ?_
  refine LV.call hS h5 (g236_ok _ _ _ _ _ _ _ ) hP rfl rfl rfl rfl fun x30_3 T2 n2 h6 ρ its hS => ?_
  refine dn ?_
  refine CV.ret ?_
  refine PV.thenR ?_
  refine PV.blockR ?_
  refine PV.thenR ?_
  refine PV.blockR ?_
  cases h6
  exact PV.ret (by simp) Tryz.results187 hS RS.nil rfl
 ·
  clear h2 h3 h4
  subst e
  refine CV.skip ?_
  refine PV.thenN ?_
  refine CV.seq ?_
  refine sr ?_
  refine mv ?_
  refine vy (V.eq h5 rfl rfl) fun x32_4 h7 => ?_
  refine dn ?_
  refine CV.cond h7 rfl (fun e h8 => ?_) (fun e h8 => ?_)
  ·
   clear h5 h7
   subst e
   cases h8
  ·
   clear h5 h7
   subst e
   refine CV.skip ?_
   refine PV.thenN ?_
   refine CV.seq ?_
   refine sr ?_
   refine mv ?_
   refine vy (V.not h8 rfl) fun x39_5 h9 => ?_
   refine dn ?_
   refine CV.cond h9 rfl (fun e h10 => ?_) (fun e h10 => ?_)
   ·
    clear h8 h9
    subst e
    cases h10
   ·
    clear h8 h9
    subst e
    refine CV.skip ?_
    refine PV.thenN ?_
    refine sr ?_
    refine mv ?_
    refine mv ?_
    refine mv ?_
    refine mv ?_
    refine LV.call hS h10 (g239_ok _ _ _ _ _ _ _ ) hP rfl rfl rfl rfl fun x52_6 T3 n3 h11 ρ its hS => ?_
    refine mv ?_
    refine vy (V.ex h11 rfl) fun x53_7 h12 => ?_
    refine vy (V.ex h12 rfl) fun x54_8 h13 => ?_
    refine as_ ?_
    refine as_ ?_
    refine dn ?_
    refine CV.seq ?_
    refine sr ?_
    refine mv ?_
    refine vy (V.eq h13 rfl rfl) fun x56_9 h14 => ?_
    refine dn ?_
    refine CV.cond h14 rfl (fun e h15 => ?_) (fun e h15 => ?_)
    ·
     clear h10 h11 h12 h13 h14
     subst e
     cases h15
    ·
     clear h10 h11 h12 h13 h14
     subst e
     refine CV.skip ?_
     refine PV.thenN ?_
     refine CV.seq ?_
     refine sr ?_
     refine mv ?_
     refine mv ?_
     refine ls11 X 0 1 2 3 4 10 11 12 13 14 71 [] (g187_k2 ro (lpf7 1870003 (g187_b1 ro) f1)) 2 ?_ ?_
     ·
      rcases condK_inv h15 with ⟨e, h40⟩ | ⟨e, h40⟩
      ·
       clear h15
       subst e
       refine mv ?_
       refine pu ?_
       exact la11 hS h40 ⟨rfl, rfl, rfl, rfl, rfl, rfl, rfl, rfl, rfl, rfl, rfl, trivial⟩
      ·
       clear h15
       subst e
       refine sk ?_
       refine pu ?_
       exact la11 hS h40 ⟨rfl, rfl, rfl, rfl, rfl, rfl, rfl, rfl, rfl, rfl, rfl, trivial⟩
     ·
      intro y0 y1 y2 y3 y4 y10 y11 y12 y13 y14 y71 T4 n4 ρ its hS h16
      unfold g187_k2 at h16
      clear h15
      refine mv ?_
      refine ls10 X 0 1 2 3 4 10 11 12 13 75 [] (g187_k3 ro (lpf7 1870003 (g187_b1 ro) f1)) 3 ?_ ?_
      ·
       rcases condK_inv h16 with ⟨e, h38⟩ | ⟨e, h38⟩
       ·
        clear h16
        subst e
        refine mv ?_
        refine vy (V.eq h38 rfl rfl) fun x74_26 h39 => ?_
        refine pu ?_
        exact la10 hS h39 ⟨rfl, rfl, rfl, rfl, rfl, rfl, rfl, rfl, rfl, rfl, trivial⟩
       ·
        clear h16
        subst e
        refine sk ?_
        refine sk ?_
        refine pu ?_
        exact la10 hS h38 ⟨rfl, rfl, rfl, rfl, rfl, rfl, rfl, rfl, rfl, rfl, trivial⟩
      ·
       intro y0 y1 y2 y3 y4 y10 y11 y12 y13 y75 T5 n5 ρ its hS h17
       unfold g187_k3 at h17
       clear h16
       refine dn ?_
       refine CV.cond h17 rfl (fun e h18 => ?_) (fun e h18 => ?_)
       ·
        clear h17
        subst e
        cases h18
       ·
        clear h17
        subst e
        refine CV.skip ?_
        refine PV.thenN ?_
        refine CV.seq ?_
        refine cs10 X 0 1 2 3 4 10 11 12 13 97 [] (g187_k4 ro (lpf7 1870003 (g187_b1 ro) f1)) ?_ ?_
        ·
         refine CV.regionM [(0, .anywhere), (1, .anywhere), (2, .anywhere), (3, .anywhere), (4, .anywhere), (5, .anywhere), (6, .anywhere), (7, .anywhere), (8, .held), (9, .anywhere), (10, .anywhere), (11, .anywhere), (12, .held), (13, .alone), (14, .alone), (15, .alone), (16, .alone)] rfl (fun c a a' w hd hq => PanicOk.root (P := Tryz.prog) (fn := Tryz.f187) (w0 := w0) (base := base) (E := envE) (ro := ro) (r := r) (T' := T') (n' := n') (ρ0 := ρ0) c a a' w hd hq) (by kernel_rfl) ?_
         refine MV.step0 (i := 0) rfl (VAL.move rfl) rfl rfl rfl ?_
         refine MV.lift0 (i := 1) rfl (V.gt h18 rfl rfl) rfl rfl rfl fun x82_17 h28 => ?_
         refine MV.step0 (i := 2) rfl (VAL.move rfl) rfl rfl rfl ?_
         rcases condK_inv h28 with ⟨e, h29⟩ | ⟨e, h29⟩
         ·
          clear h18 h28
          subst e
          refine MV.step0 (i := 3) rfl (VAL.move rfl) rfl rfl rfl ?_
          refine MV.step0 (i := 4) rfl (VAL.move rfl) rfl rfl rfl ?_
          refine MV.step0 (i := 5) rfl (VAL.move rfl) rfl rfl rfl ?_
          refine MV.lift0 (i := 6) rfl (V.sub h29 rfl rfl) rfl rfl rfl fun x87_18 h30 => ?_
          refine MV.lift0 (i := 7) rfl (V.ia h30 rfl rfl Cnf.el259) rfl rfl rfl fun x88_19 h31 => ?_
          refine MV.lift1 (i := 8) rfl (fun _ z => z) (V.ldA hS h31 rfl Cnf.agg264) rfl rfl rfl [] (by kernel_rfl) fun x89_20 h32 => ?_
          refine MV.step0 (i := 9) rfl (VAL.move rfl) rfl rfl rfl ?_
          refine MV.step0 (i := 10) rfl (VAL.move rfl) rfl rfl rfl ?_
          refine MV.lift0 (i := 11) rfl (V.ia h32 rfl rfl Cnf.el259) rfl rfl rfl fun x92_21 h33 => ?_
          refine MV.lift1 (i := 12) rfl (fun _ z => z) (V.ldA hS h33 rfl Cnf.agg264) rfl rfl rfl [8] (by kernel_rfl) fun x93_22 h34 => ?_
          refine MV.force (i := 13) rfl ?_
          refine LV.callD (G := fun f gs => scc3 4000 f ro gs T5 n5) (qs := [x89_20, x93_22]) hS h34 (fun f gs => scc3_ok _ _ _ _ _ _) hP rfl rfl rfl rfl rfl rfl rfl fun x94_23 T8 n8 h35 ρ its hS => ?_
          refine LV.nextM [] (by kernel_rfl) (fun z => absurd rfl z) ?_
          refine MV.force (i := 14) rfl ?_
          refine vy (V.lt h35 rfl rfl) fun x95_24 h36 => ?_
          refine LV.nextM [] (by kernel_rfl) (fun z => absurd rfl z) ?_
          refine MV.force (i := 15) rfl ?_
          refine vy (V.not h36 rfl) fun x96_25 h37 => ?_
          refine LV.nextM [] (by kernel_rfl) (fun z => absurd rfl z) ?_
          refine MV.force (i := 16) rfl ?_
          refine pu ?_
          refine LV.nextM [] (by kernel_rfl) (fun z => absurd rfl z) ?_
          refine MV.done ?_
          exact pa10 hS h37 ⟨rfl, rfl, rfl, rfl, rfl, rfl, rfl, rfl, rfl, rfl, trivial⟩
         ·
          clear h18 h28
          subst e
          refine MV.skip0 (i := 3) rfl rfl rfl rfl ?_
          refine MV.skip0 (i := 4) rfl rfl rfl rfl ?_
          refine MV.skip0 (i := 5) rfl rfl rfl rfl ?_
          refine MV.skip0 (i := 6) rfl rfl rfl rfl ?_
          refine MV.skip0 (i := 7) rfl rfl rfl rfl ?_
          refine MV.skip1 (i := 8) rfl (fun _ z => z) rfl rfl rfl [] (by kernel_rfl) ?_
          refine MV.skip0 (i := 9) rfl rfl rfl rfl ?_
          refine MV.skip0 (i := 10) rfl rfl rfl rfl ?_
          refine MV.skip0 (i := 11) rfl rfl rfl rfl ?_
          refine MV.skip1 (i := 12) rfl (fun _ z => z) rfl rfl rfl [8] (by kernel_rfl) ?_
          refine MV.force (i := 13) rfl ?_
          refine sk ?_
          refine LV.nextM [] (by kernel_rfl) (fun z => absurd rfl z) ?_
          refine MV.force (i := 14) rfl ?_
          refine sk ?_
          refine LV.nextM [] (by kernel_rfl) (fun z => absurd rfl z) ?_
          refine MV.force (i := 15) rfl ?_
          refine sk ?_
          refine LV.nextM [] (by kernel_rfl) (fun z => absurd rfl z) ?_
          refine MV.force (i := 16) rfl ?_
          refine pu ?_
          refine LV.nextM [] (by kernel_rfl) (fun z => absurd rfl z) ?_
          refine MV.done ?_
          exact pa10 hS h29 ⟨rfl, rfl, rfl, rfl, rfl, rfl, rfl, rfl, rfl, rfl, trivial⟩
        ·
         intro y0 y1 y2 y3 y4 y10 y11 y12 y13 y97 T6 n6 ρ its hS h19
         unfold g187_k4 at h19
         clear h18
         refine CV.cond h19 rfl (fun e h20 => ?_) (fun e h20 => ?_)
         ·
          clear h19
          subst e
          cases h20
         ·
          clear h19
          subst e
          refine CV.skip ?_
          refine PV.thenN ?_
          refine sr ?_
          refine mv ?_
          refine mv ?_
          refine mv ?_
          refine mv ?_
          refine mv ?_
          refine LV.call hS h20 (g243_ok _ _ _ _ _ _ _ _ ) hP rfl rfl rfl rfl fun x111_10 T7 n7 h21 ρ its hS => ?_
          refine mv ?_
          refine vy (V.ex h21 rfl) fun x112_11 h22 => ?_
          refine vy (V.ex h22 rfl) fun x113_12 h23 => ?_
          refine as_ ?_
          refine as_ ?_
          refine dn ?_
          refine sr ?_
          refine mv ?_
          refine as_ ?_
          refine dn ?_
          refine sr ?_
          refine mv ?_
          refine mv ?_
          refine vy (V.sub h23 rfl rfl) fun x117_13 h24 => ?_
          refine mv ?_
          refine mv ?_
          refine vy (V.sub h24 rfl rfl) fun x120_14 h25 => ?_
          refine as_ ?_
          refine as_ ?_
          refine dn ?_
          refine sr ?_
          refine mv ?_
          refine vy (V.bin0 h25 rfl rfl) fun x122_15 h26 => ?_
          refine as_ ?_
          refine dn ?_
          refine sr ?_
          refine mv ?_
          refine mv ?_
          refine vy (V.lt h26 rfl rfl) fun x125_16 h27 => ?_
          refine dn ?_
          cases h27
noncomputable def g140 (ro : List HT) (a0 a1 : AV) (T : HT) (nx : Nat) : R :=
 lenSK 1400002 a0 fun x6_1 =>
 optK 1400007 (convV Tryz.prog 3 182 x6_1) fun x10_2 =>
 callK (g147 ro x10_2 T nx) fun x11_3 T1 n1 =>
 callK (g187 ro a0 (.lit (.int .i64 (.ofNat 0))) x6_1 x11_3 a1 T1 n1) fun x13_4 T2 n2 =>
 .ok (.val (.tup [])) T2 n2
theorem g140_ok (ro : List HT) (a0 a1 : AV) (T : HT) (nx : Nat) : GOk Tryz.prog envE 140 [a0, a1] ro T nx (g140 ro a0 a1 T nx) := by
 refine GOk.of_body Tryz.func140 rfl Tryz.ntmps140 (by kernel_rfl) rfl fun r T' n' h1 w0 base ρ0 its hS hP => ?_
 have X : CtxW envE ρ0 ro r T' n' := trivial
 unfold g140 at h1
 refine sr ?_
 refine mv ?_
 refine vy (V.lenS h1 rfl Cnf.ls259) fun x6_1 h2 => ?_
 refine as_ ?_
 refine dn ?_
 refine CV.region ?_
 refine mv ?_
 refine mv ?_
 refine mv ?_
 refine vy (V.conv h2 rfl) fun x10_2 h3 => ?_
 refine LV.call hS h3 (g147_ok _ _ _ _ ) hP rfl rfl rfl rfl fun x11_3 T1 n1 h4 ρ its hS => ?_
 refine mv ?_
 refine LV.call hS h4 (g187_ok _ _ _ _ _ _ _ _ ) hP rfl rfl rfl rfl fun x13_4 T2 n2 h5 ρ its hS => ?_
 refine LV.done ?_
 cases h5
 exact PV.ret (by simp) Tryz.results140 hS RS.nil rfl
noncomputable def g104_k2 (ro : List HT) (lp1 : AV → AV → AV → AV → AV → HT → Nat → R) (y4 y6 y14 y15 y16 : AV) (T5 : HT) (n5 : Nat) : R :=
 addK Tryz.prog 3 (.tmp 16) (.const (.int .i64 (.ofNat 1))) 1040015 y16 (.lit (.int .i64 (.ofNat 1))) fun x30_8 =>
 lp1 y4 y6 y14 y15 x30_8 T5 n5
noncomputable def g104_b1 (ro : List HT) (lp1 : AV → AV → AV → AV → AV → HT → Nat → R) (y4 y6 y14 y15 y16 : AV) (T4 : HT) (n4 : Nat) : R :=
 ltK Tryz.prog 3 (.tmp 16) (.tmp 15) 1040013 y16 y15 fun x17_7 =>
 condK 1040014 x17_7
 (
  iaK 1040017 y14 y16 2 fun x18_9 =>
  ldAK 1040018 T4 ro x18_9 2 fun x19_10 =>
  newK T4 n4 (.obj [.lit (.int .i64 0), .lit (.string ⟨#[]⟩)] 264) fun x8_11 T6 n6 =>
  stAK 1040020 T6 x8_11 x19_10 2 fun T7 =>
  faK 1040022 x8_11 1 fun x21_12 =>
  ldK 1040023 T7 ro x21_12 fun x22_13 =>
  callK (g142 ro y6 x22_13 T7 n6) fun x23_14 T8 n8 =>
  notK 1040025 x23_14 fun x24_15 =>
  condK 1040026 x24_15
  (
   faK 1040028 x8_11 1 fun x26_16 =>
   ldK 1040029 T8 ro x26_16 fun x27_17 =>
   bsK 1040030 T8 n8 1 9 1 [(0, x27_17)] fun x28_18 T9 n9 =>
   shrK 1040032 T9 y6 fun T10 =>
   appEK 1040031 T10 ro n9 9 1 16 y6 x28_18 fun x29_19 T11 n11 =>
   g104_k2 ro lp1 y4 x29_19 y14 y15 y16 T11 n11
  )
  (
   g104_k2 ro lp1 y4 y6 y14 y15 y16 T8 n8
  )
 )
 (
  .ok (.val y6) T4 n4
 )
noncomputable def g104 (ro : List HT) (a0 a1 : AV) (T : HT) (nx : Nat) : R :=
 newK T nx (.obj [.lit (.slice none 0 0)] 259) fun x5_1 T1 n1 =>
 callK (scc6 4000 139 ro [a0, a1, x5_1] T1 n1) fun x11_2 T2 n2 =>
 ldK 1040006 T2 ro x5_1 fun x12_3 =>
 callK (g140 ro x12_3 (.lit (.func (.func 141) #[] #[])) T2 n2) fun x13_4 T3 n3 =>
 ldK 1040009 T3 ro x5_1 fun x14_5 =>
 lenSK 1040010 x14_5 fun x15_6 =>
 lpf5 1040012 (g104_b1 ro) 100000 (.lit (.slice none 0 0)) (.lit (.slice none 0 0)) x14_5 x15_6 (.lit (.int .i64 (.ofNat 0))) T3 n3
theorem g104_ok (ro : List HT) (a0 a1 : AV) (T : HT) (nx : Nat) : GOk Tryz.prog envE 104 [a0, a1] ro T nx (g104 ro a0 a1 T nx) := by
 refine GOk.of_body Tryz.func104 rfl Tryz.ntmps104 (by kernel_rfl) rfl fun r T' n' h1 w0 base ρ0 its hS hP => ?_
 have X : CtxW envE ρ0 ro r T' n' := trivial
 unfold g104 at h1
 refine sr ?_
 refine as_ ?_
 refine dn ?_
 refine sr ?_
 refine LV.alloc hS h1 rfl Cnf.zr259 rfl rfl rfl fun x5_1 T1 n1 h2 ρ its hS hdr => ?_
 refine dn ?_
 refine sr ?_
 refine mv ?_
 refine mv ?_
 refine LV.call hS h2 (scc6_ok _ _ _ _ _ _) hP rfl rfl rfl rfl fun x11_2 T2 n2 h3 ρ its hS => ?_
 refine dn ?_
 refine sr ?_
 refine vy (V.ld hS h3 rfl Cnf.one259) fun x12_3 h4 => ?_
 refine LV.call hS h4 (g140_ok _ _ _ _ _ ) hP rfl rfl rfl rfl fun x13_4 T3 n3 h5 ρ its hS => ?_
 refine dn ?_
 refine sr ?_
 refine as_ ?_
 refine dn ?_
 refine CV.seq ?_
 refine sr ?_
 refine vy (V.ld hS h5 rfl Cnf.one259) fun x14_5 h6 => ?_
 refine vy (V.lenS h6 rfl Cnf.ls259) fun x15_6 h7 => ?_
 refine mv ?_
 refine dn ?_
 refine CV.block ?_
 refine cl5 X 4 6 14 15 16 [] hS h7 ⟨rfl, rfl, rfl, rfl, rfl, trivial⟩ ?_
 intro f1 y4 y6 y14 y15 y16 T4 n4 ρ its hS h8
 unfold g104_b1 at h8
 clear h1 h2 h3 h4 h5 h6 h7
 refine sr ?_
 refine vy (V.lt h8 rfl rfl) fun x17_7 h9 => ?_
 refine dn ?_
 refine CV.seq ?_
 refine CV.cond h9 rfl (fun e h10 => ?_) (fun e h10 => ?_)
 ·
  clear h8 h9
  subst e
  refine CV.skip ?_
  refine PV.thenN ?_
  refine cs5 X 4 6 14 15 16 [] (g104_k2 ro (lpf5 1040012 (g104_b1 ro) f1)) ?_ ?_
  ·
   refine CV.block ?_
   refine sr ?_
   refine vy (V.ia h10 rfl rfl Cnf.el259) fun x18_9 h13 => ?_
   refine vy (V.ldA hS h13 rfl Cnf.agg264) fun x19_10 h14 => ?_
   refine LV.alloc hS h14 rfl Cnf.zr264 rfl rfl rfl fun x8_11 T6 n6 h15 ρ its hS hdr => ?_
   refine LV.stA hS h15 rfl rfl rfl Cnf.agg264 rfl rfl rfl fun T7 its h16 hS => ?_
   refine dn ?_
   refine sr ?_
   refine mv ?_
   refine vy (V.fa h16 rfl Cnf.fo264_1) fun x21_12 h17 => ?_
   refine vy (V.ld hS h17 rfl Cnf.one9) fun x22_13 h18 => ?_
   refine LV.call hS h18 (g142_ok _ _ _ _ _ ) hP rfl rfl rfl rfl fun x23_14 T8 n8 h19 ρ its hS => ?_
   refine vy (V.not h19 rfl) fun x24_15 h20 => ?_
   refine dn ?_
   refine CV.cond h20 rfl (fun e h21 => ?_) (fun e h21 => ?_)
   ·
    clear h10 h13 h14 h15 h16 h17 h18 h19 h20
    subst e
    refine CV.region ?_
    refine mv ?_
    refine vy (V.fa h21 rfl Cnf.fo264_1) fun x26_16 h22 => ?_
    refine vy (V.ld hS h22 rfl Cnf.one9) fun x27_17 h23 => ?_
    refine LV.bslice hS h23 rfl rfl Cnf.el54 rfl rfl rfl rfl fun x28_18 T9 n9 h24 ρ its hS hdr => ?_
    obtain ⟨T10, its1, h25, hS, hW⟩ := shrK_inv hS h24
    refine LV.world hW ?_
    refine LV.appE hS h25 rfl rfl rfl rfl Cnf.el54 rfl rfl rfl fun x29_19 T11 n11 h26 ρ its hS => ?_
    refine as_ ?_
    refine LV.done ?_
    refine PV.blockN ?_
    exact pa5 hS h26 ⟨rfl, rfl, rfl, rfl, rfl, trivial⟩
   ·
    clear h10 h13 h14 h15 h16 h17 h18 h19 h20
    subst e
    refine CV.skip ?_
    refine PV.blockN ?_
    exact pa5 hS h21 ⟨rfl, rfl, rfl, rfl, rfl, trivial⟩
  ·
   intro y4 y6 y14 y15 y16 T5 n5 ρ its hS h11
   unfold g104_k2 at h11
   clear h10
   refine CV.region ?_
   refine vy (V.add h11 rfl rfl) fun x30_8 h12 => ?_
   refine mv ?_
   refine LV.done ?_
   exact pb5 hS h12 ⟨rfl, rfl, rfl, rfl, rfl, trivial⟩
 ·
  clear h8 h9
  subst e
  refine CV.exit ?_
  refine PV.thenE ?_
  refine PV.thenE ?_
  refine PV.blockE ?_
  refine PV.thenN ?_
  refine sr ?_
  refine mv ?_
  refine as_ ?_
  refine dn ?_
  refine CV.ret ?_
  cases h10
  exact PV.ret (by simp) Tryz.results104 hS (RS.tmp rfl RS.nil) rfl
noncomputable def g188_b1 (ro : List HT) (lp1 : AV → AV → AV → HT → Nat → R) (y0 y1 y4 : AV) (T1 : HT) (n1 : Nat) : R :=
 bin0 Tryz.prog .neq 267 (.tmp 6) (.const (.pointer none)) 1880004 y0 (.lit (.pointer none)) fun x7_1 =>
 condK 1880005 x7_1
 (
  fldK 1880007 T1 ro y0 1 fun x15_2 =>
  callK (g150 ro x15_2 y1 T1 n1) fun x17_3 T2 n2 =>
  geK Tryz.prog 3 (.tmp 18) (.const (.int .i64 (.ofNat 0))) 1880012 x17_3 (.lit (.int .i64 (.ofNat 0))) fun x19_4 =>
  condK 1880013 x19_4
  (
   .bad 1880014
  )
  (
   fldK 1880016 T2 ro y0 0 fun x11_5 =>
   lp1 x11_5 y1 y4 T2 n2
  )
 )
 (
  .ok (.val (.lit (.int .i64 (.negSucc 0)))) T1 n1
 )
noncomputable def g188 (ro : List HT) (a0 a1 : AV) (T : HT) (nx : Nat) : R :=
 lpf3 1880002 (g188_b1 ro) 100000 a0 a1 (.lit (.int .i64 (.ofNat 0))) T nx
theorem g188_ok (ro : List HT) (a0 a1 : AV) (T : HT) (nx : Nat) : GOk Tryz.prog envE 188 [a0, a1] ro T nx (g188 ro a0 a1 T nx) := by
 refine GOk.of_body Tryz.func188 rfl Tryz.ntmps188 (by kernel_rfl) rfl fun r T' n' h1 w0 base ρ0 its hS hP => ?_
 have X : CtxW envE ρ0 ro r T' n' := trivial
 unfold g188 at h1
 refine sr ?_
 refine as_ ?_
 refine dn ?_
 refine CV.seq ?_
 refine CV.block ?_
 refine cl3 X 0 1 4 [] hS h1 ⟨rfl, rfl, rfl, trivial⟩ ?_
 intro f1 y0 y1 y4 T1 n1 ρ its hS h2
 unfold g188_b1 at h2
 clear h1
 refine CV.seq ?_
 refine sr ?_
 refine mv ?_
 refine vy (V.bin0 h2 rfl rfl) fun x7_1 h3 => ?_
 refine dn ?_
 refine CV.cond h3 rfl (fun e h4 => ?_) (fun e h4 => ?_)
 ·
  clear h2 h3
  subst e
  refine CV.skip ?_
  refine PV.thenN ?_
  refine CV.seq ?_
  refine CV.block ?_
  refine sr ?_
  refine mv ?_
  refine fl hS h4 Cnf.fo292_1 Cnf.one54 fun x15_2 h5 => ?_
  refine mv ?_
  refine LV.call hS h5 (g150_ok _ _ _ _ _ ) hP rfl rfl rfl rfl fun x17_3 T2 n2 h6 ρ its hS => ?_
  refine as_ ?_
  refine dn ?_
  refine sr ?_
  refine mv ?_
  refine vy (V.ge h6 rfl rfl) fun x19_4 h7 => ?_
  refine dn ?_
  refine CV.cond h7 rfl (fun e h8 => ?_) (fun e h8 => ?_)
  ·
   clear h4 h5 h6 h7
   subst e
   cases h8
  ·
   clear h4 h5 h6 h7
   subst e
   refine CV.skip ?_
   refine PV.blockN ?_
   refine PV.thenN ?_
   refine CV.region ?_
   refine mv ?_
   refine fl hS h8 Cnf.fo292_0 Cnf.one267 fun x11_5 h9 => ?_
   refine as_ ?_
   refine LV.done ?_
   exact pb3 hS h9 ⟨rfl, rfl, rfl, trivial⟩
 ·
  clear h2 h3
  subst e
  refine CV.exit ?_
  refine PV.thenE ?_
  refine PV.thenE ?_
  refine PV.blockE ?_
  refine PV.thenN ?_
  refine sr ?_
  refine as_ ?_
  refine dn ?_
  refine CV.ret ?_
  cases h4
  exact PV.ret (by simp) Tryz.results188 hS (RS.tmp rfl RS.nil) rfl
noncomputable def g143_k1 (ro : List HT) (y80 : AV) (T8 : HT) (n8 : Nat) : R :=
 condK 1430041 y80
 (
  .bad 1430042
 )
 (
  .ok (.val (.tup [])) T8 n8
 )
noncomputable def g143 (ro : List HT) (a0 a1 a2 a3 : AV) (T : HT) (nx : Nat) : R :=
 callK (g188 ro a3 a2 T nx) fun x13_1 T1 n1 =>
 geK Tryz.prog 3 (.tmp 14) (.const (.int .i64 (.ofNat 0))) 1430006 x13_1 (.lit (.int .i64 (.ofNat 0))) fun x15_2 =>
 condK 1430007 x15_2
 (
  .bad 1430008
 )
 (
  fldK 1430010 T1 ro a0 1 fun x31_3 =>
  callK (g150 ro x31_3 a2 T1 n1) fun x33_4 T2 n2 =>
  geK Tryz.prog 3 (.tmp 34) (.const (.int .i64 (.ofNat 0))) 1430015 x33_4 (.lit (.int .i64 (.ofNat 0))) fun x35_5 =>
  condK 1430016 x35_5
  (
   fldK 1430019 T2 ro a0 3 fun x40_6 =>
   optK 1430022 (bld166 [(0, a1), (1, (.lit (.int .i64 (.ofNat 2)))), (2, x33_4)]) fun x43_7 =>
   bsK 1430023 T2 n2 1 166 3 [(0, x43_7)] fun x44_8 T3 n3 =>
   shrK 1430025 T3 x40_6 fun T4 =>
   appEK 1430024 T4 ro n3 166 3 24 x40_6 x44_8 fun x45_9 T5 n5 =>
   faK 1430026 a0 3 fun x47_10 =>
   stK 1430027 T5 x47_10 x45_9 fun T6 =>
   .ok (.val (.tup [])) T6 n5
  )
  (
   fldK 1430029 T2 ro a0 2 fun x51_11 =>
   callK (g150 ro x51_11 a2 T2 n2) fun x53_12 T7 n7 =>
   geK Tryz.prog 3 (.tmp 54) (.const (.int .i64 (.ofNat 0))) 1430034 x53_12 (.lit (.int .i64 (.ofNat 0))) fun x55_13 =>
   condK 1430035 x55_13
   (
    .bad 1430036
   )
   (
    fldK 1430038 T7 ro a0 5 fun x71_14 =>
    ltK Tryz.prog 3 (.tmp 71) (.const (.int .i64 (.ofNat 0))) 1430039 x71_14 (.lit (.int .i64 (.ofNat 0))) fun x72_15 =>
    condK 1430043 x72_15
    (
     g143_k1 ro (.lit (.bool true)) T7 n7
    )
    (
     ncK 1430047 a0 fun x76_16 =>
     faK 1430048 x76_16 5 fun x77_17 =>
     ldK 1430049 T7 ro x77_17 fun x78_18 =>
     ltK Tryz.prog 3 (.tmp 74) (.tmp 78) 1430050 a1 x78_18 fun x79_19 =>
     g143_k1 ro x79_19 T7 n7
    )
   )
  )
 )
theorem g143_ok (ro : List HT) (a0 a1 a2 a3 : AV) (T : HT) (nx : Nat) : GOk Tryz.prog envE 143 [a0, a1, a2, a3] ro T nx (g143 ro a0 a1 a2 a3 T nx) := by
 refine GOk.of_body Tryz.func143 rfl Tryz.ntmps143 (by kernel_rfl) rfl fun r T' n' h1 w0 base ρ0 its hS hP => ?_
 have X : CtxW envE ρ0 ro r T' n' := trivial
 unfold g143 at h1
 refine CV.seq ?_
 refine sr ?_
 refine mv ?_
 refine mv ?_
 refine LV.call hS h1 (g188_ok _ _ _ _ _ ) hP rfl rfl rfl rfl fun x13_1 T1 n1 h2 ρ its hS => ?_
 refine as_ ?_
 refine dn ?_
 refine sr ?_
 refine mv ?_
 refine vy (V.ge h2 rfl rfl) fun x15_2 h3 => ?_
 refine dn ?_
 refine CV.cond h3 rfl (fun e h4 => ?_) (fun e h4 => ?_)
 ·
  clear h1 h2 h3
  subst e
  cases h4
 ·
  clear h1 h2 h3
  subst e
  refine CV.skip ?_
  refine PV.thenN ?_
  refine CV.seq ?_
  refine sr ?_
  refine mv ?_
  refine fl hS h4 Cnf.fo213_1 Cnf.one54 fun x31_3 h5 => ?_
  refine mv ?_
  refine LV.call hS h5 (g150_ok _ _ _ _ _ ) hP rfl rfl rfl rfl fun x33_4 T2 n2 h6 ρ its hS => ?_
  refine as_ ?_
  refine dn ?_
  refine sr ?_
  refine mv ?_
  refine vy (V.ge h6 rfl rfl) fun x35_5 h7 => ?_
  refine dn ?_
  refine CV.cond h7 rfl (fun e h8 => ?_) (fun e h8 => ?_)
  ·
   clear h4 h5 h6 h7
   subst e
   refine sr ?_
   refine mv ?_
   refine mv ?_
   refine fl hS h8 Cnf.fo213_3 Cnf.one155 fun x40_6 h9 => ?_
   refine mv ?_
   refine mv ?_
   refine vy (V.bld h9 rfl) fun x43_7 h10 => ?_
   refine LV.bslice hS h10 rfl rfl Cnf.el155 rfl rfl rfl rfl fun x44_8 T3 n3 h11 ρ its hS hdr => ?_
   obtain ⟨T4, its1, h12, hS, hW⟩ := shrK_inv hS h11
   refine LV.world hW ?_
   refine LV.appE hS h12 rfl rfl rfl rfl Cnf.el155 rfl rfl rfl fun x45_9 T5 n5 h13 ρ its hS => ?_
   refine fa2 h13 Cnf.fo213_3 fun x47_10 h14 => ?_
   refine LV.st hS h14 rfl rfl rfl Cnf.siz155 rfl rfl fun T6 its h15 hS => ?_
   refine dn ?_
   refine CV.ret ?_
   refine PV.thenR ?_
   cases h15
   exact PV.ret (by simp) Tryz.results143 hS RS.nil rfl
  ·
   clear h4 h5 h6 h7
   subst e
   refine CV.skip ?_
   refine PV.thenN ?_
   refine CV.seq ?_
   refine sr ?_
   refine mv ?_
   refine fl hS h8 Cnf.fo213_2 Cnf.one54 fun x51_11 h16 => ?_
   refine mv ?_
   refine LV.call hS h16 (g150_ok _ _ _ _ _ ) hP rfl rfl rfl rfl fun x53_12 T7 n7 h17 ρ its hS => ?_
   refine as_ ?_
   refine dn ?_
   refine sr ?_
   refine mv ?_
   refine vy (V.ge h17 rfl rfl) fun x55_13 h18 => ?_
   refine dn ?_
   refine CV.cond h18 rfl (fun e h19 => ?_) (fun e h19 => ?_)
   ·
    clear h8 h16 h17 h18
    subst e
    cases h19
   ·
    clear h8 h16 h17 h18
    subst e
    refine CV.skip ?_
    refine PV.thenN ?_
    refine sr ?_
    refine mv ?_
    refine fl hS h19 Cnf.fo213_5 Cnf.one3 fun x71_14 h20 => ?_
    refine vy (V.lt h20 rfl rfl) fun x72_15 h21 => ?_
    refine mv ?_
    refine ls1 X 80 [] (g143_k1 ro) 7 ?_ ?_
    ·
     rcases condK_inv h21 with ⟨e, h24⟩ | ⟨e, h24⟩
     ·
      clear h19 h20 h21
      subst e
      refine sk ?_
      refine sk ?_
      refine sk ?_
      refine sk ?_
      refine sk ?_
      refine sk ?_
      refine pu ?_
      exact la1 hS h24 ⟨rfl, trivial⟩
     ·
      clear h19 h20 h21
      subst e
      refine mv ?_
      refine mv ?_
      refine vy (V.nc h24 rfl) fun x76_16 h25 => ?_
      refine vy (V.fa h25 rfl Cnf.fo213_5) fun x77_17 h26 => ?_
      refine vy (V.ld hS h26 rfl Cnf.one3) fun x78_18 h27 => ?_
      refine vy (V.lt h27 rfl rfl) fun x79_19 h28 => ?_
      refine pu ?_
      exact la1 hS h28 ⟨rfl, trivial⟩
    ·
     intro y80 T8 n8 ρ its hS h22
     unfold g143_k1 at h22
     clear h19 h20 h21
     refine dn ?_
     refine CV.cond h22 rfl (fun e h23 => ?_) (fun e h23 => ?_)
     ·
      clear h22
      subst e
      cases h23
     ·
      clear h22
      subst e
      refine CV.skip ?_
      cases h23
      exact PV.ret (by simp) Tryz.results143 hS RS.nil rfl
noncomputable def g105_b1 (ih : FuncId → List HT → List AV → HT → Nat → R) (ro : List HT) (lp1 : AV → AV → AV → AV → AV → HT → Nat → R) (y0 y2 y19 y20 y21 : AV) (T4 : HT) (n4 : Nat) : R :=
 ltK Tryz.prog 3 (.tmp 21) (.tmp 20) 1050035 y21 y20 fun x22_17 =>
 condK 1050036 x22_17
 (
  iaK 1050037 y19 y21 1 fun x23_18 =>
  ldK 1050038 T4 ro x23_18 fun x24_19 =>
  callK (ih 105 ro [y0, x24_19, y2] T4 n4) fun x28_20 T5 n5 =>
  addK Tryz.prog 3 (.tmp 21) (.const (.int .i64 (.ofNat 1))) 1050044 y21 (.lit (.int .i64 (.ofNat 1))) fun x29_21 =>
  lp1 y0 y2 y19 y20 x29_21 T5 n5
 )
 (
  .ok (.val (.tup [])) T4 n4
 )
noncomputable def g105 (ih : FuncId → List HT → List AV → HT → Nat → R) (ro : List HT) (a0 a1 a2 : AV) (T : HT) (nx : Nat) : R :=
 fldK 1050002 T ro a0 0 fun x12_1 =>
 iaK 1050004 x12_1 a1 5 fun x14_2 =>
 ldAK 1050005 T ro x14_2 5 fun x15_3 =>
 newK T nx (.obj [.lit (.int .i64 0), .lit (.int .i64 0), .lit (.int .i64 0), .lit (.string ⟨#[]⟩), .lit (.slice none 0 0)] 172) fun x6_4 T1 n1 =>
 stAK 1050007 T1 x6_4 x15_3 5 fun T2 =>
 faK 1050008 x6_4 0 fun x16_5 =>
 ldK 1050009 T2 ro x16_5 fun x17_6 =>
 eqK Tryz.prog 3 (.tmp 17) (.const (.int .i64 (.ofNat 6))) 1050010 x17_6 (.lit (.int .i64 (.ofNat 6))) fun x31_7 =>
 condK 1050012 x31_7
 (
  faK 1050015 x6_4 3 fun x34_8 =>
  ldK 1050016 T2 ro x34_8 fun x35_9 =>
  callK (g143 ro a0 a1 x35_9 a2 T2 n1) fun x37_10 T3 n3 =>
  .ok (.val (.tup [])) T3 n3
 )
 (
  eqK Tryz.prog 3 (.tmp 17) (.const (.int .i64 (.ofNat 34))) 1050019 x17_6 (.lit (.int .i64 (.ofNat 34))) fun x39_11 =>
  condK 1050021 x39_11
  (
   .bad 1050022
  )
  (
   eqK Tryz.prog 3 (.tmp 17) (.const (.int .i64 (.ofNat 45))) 1050023 x17_6 (.lit (.int .i64 (.ofNat 45))) fun x45_12 =>
   condK 1050025 x45_12
   (
    .bad 1050026
   )
   (
    eqK Tryz.prog 3 (.tmp 17) (.const (.int .i64 (.ofNat 42))) 1050027 x17_6 (.lit (.int .i64 (.ofNat 42))) fun x52_13 =>
    condK 1050029 x52_13
    (
     .ok (.val (.tup [])) T2 n1
    )
    (
     faK 1050030 x6_4 4 fun x18_14 =>
     ldK 1050031 T2 ro x18_14 fun x19_15 =>
     lenSK 1050032 x19_15 fun x20_16 =>
     lpf5 1050034 (g105_b1 ih ro) 100000 a0 a2 x19_15 x20_16 (.lit (.int .i64 (.ofNat 0))) T2 n1
    )
   )
  )
 )
theorem g105_ok (ih : FuncId → List HT → List AV → HT → Nat → R) (hI : ∀ f ro args T nx, GOk Tryz.prog envE f args ro T nx (ih f ro args T nx)) (ro : List HT) (a0 a1 a2 : AV) (T : HT) (nx : Nat) : GOk Tryz.prog envE 105 [a0, a1, a2] ro T nx (g105 ih ro a0 a1 a2 T nx) := by
 refine GOk.of_body Tryz.func105 rfl Tryz.ntmps105 (by kernel_rfl) rfl fun r T' n' h1 w0 base ρ0 its hS hP => ?_
 have X : CtxW envE ρ0 ro r T' n' := trivial
 unfold g105 at h1
 refine sr ?_
 refine mv ?_
 refine fl hS h1 Cnf.fo213_0 Cnf.one109 fun x12_1 h2 => ?_
 refine mv ?_
 refine vy (V.ia h2 rfl rfl Cnf.el109) fun x14_2 h3 => ?_
 refine vy (V.ldA hS h3 rfl Cnf.agg172) fun x15_3 h4 => ?_
 refine LV.alloc hS h4 rfl Cnf.zr172 rfl rfl rfl fun x6_4 T1 n1 h5 ρ its hS hdr => ?_
 refine LV.stA hS h5 rfl rfl rfl Cnf.agg172 rfl rfl rfl fun T2 its h6 hS => ?_
 refine dn ?_
 refine sr ?_
 refine vy (V.fa h6 rfl Cnf.fo172_0) fun x16_5 h7 => ?_
 refine vy (V.ld hS h7 rfl Cnf.one3) fun x17_6 h8 => ?_
 refine dn ?_
 refine CV.block ?_
 refine sr ?_
 refine vy (V.eq h8 rfl rfl) fun x31_7 h9 => ?_
 refine as_ ?_
 refine dn ?_
 refine CV.cond h9 rfl (fun e h10 => ?_) (fun e h10 => ?_)
 ·
  clear h1 h2 h3 h4 h5 h6 h7 h8 h9
  subst e
  refine CV.region ?_
  refine mv ?_
  refine mv ?_
  refine vy (V.fa h10 rfl Cnf.fo172_3) fun x34_8 h11 => ?_
  refine vy (V.ld hS h11 rfl Cnf.one9) fun x35_9 h12 => ?_
  refine mv ?_
  refine LV.call hS h12 (g143_ok _ _ _ _ _ _ _ ) hP rfl rfl rfl rfl fun x37_10 T3 n3 h13 ρ its hS => ?_
  refine LV.done ?_
  refine PV.blockN ?_
  cases h13
  exact PV.ret (by simp) Tryz.results105 hS RS.nil rfl
 ·
  clear h1 h2 h3 h4 h5 h6 h7 h8 h9
  subst e
  refine sr ?_
  refine vy (V.eq h10 rfl rfl) fun x39_11 h14 => ?_
  refine as_ ?_
  refine dn ?_
  refine CV.cond h14 rfl (fun e h15 => ?_) (fun e h15 => ?_)
  ·
   clear h10 h14
   subst e
   cases h15
  ·
   clear h10 h14
   subst e
   refine sr ?_
   refine vy (V.eq h15 rfl rfl) fun x45_12 h16 => ?_
   refine as_ ?_
   refine dn ?_
   refine CV.cond h16 rfl (fun e h17 => ?_) (fun e h17 => ?_)
   ·
    clear h15 h16
    subst e
    cases h17
   ·
    clear h15 h16
    subst e
    refine sr ?_
    refine vy (V.eq h17 rfl rfl) fun x52_13 h18 => ?_
    refine as_ ?_
    refine dn ?_
    refine CV.cond h18 rfl (fun e h19 => ?_) (fun e h19 => ?_)
    ·
     clear h17 h18
     subst e
     refine CV.skip ?_
     refine PV.blockN ?_
     cases h19
     exact PV.ret (by simp) Tryz.results105 hS RS.nil rfl
    ·
     clear h17 h18
     subst e
     refine sr ?_
     refine vy (V.fa h19 rfl Cnf.fo172_4) fun x18_14 h20 => ?_
     refine vy (V.ld hS h20 rfl Cnf.one170) fun x19_15 h21 => ?_
     refine vy (V.lenS h21 rfl Cnf.ls170) fun x20_16 h22 => ?_
     refine mv ?_
     refine dn ?_
     refine CV.block ?_
     refine cl5 X 0 2 19 20 21 [] hS h22 ⟨rfl, rfl, rfl, rfl, rfl, trivial⟩ ?_
     intro f1 y0 y2 y19 y20 y21 T4 n4 ρ its hS h23
     unfold g105_b1 at h23
     clear h19 h20 h21 h22
     refine sr ?_
     refine vy (V.lt h23 rfl rfl) fun x22_17 h24 => ?_
     refine dn ?_
     refine CV.seq ?_
     refine CV.cond h24 rfl (fun e h25 => ?_) (fun e h25 => ?_)
     ·
      clear h23 h24
      subst e
      refine CV.skip ?_
      refine PV.thenN ?_
      refine CV.seq ?_
      refine CV.block ?_
      refine sr ?_
      refine vy (V.ia h25 rfl rfl Cnf.el170) fun x23_18 h26 => ?_
      refine vy (V.ld hS h26 rfl Cnf.one3) fun x24_19 h27 => ?_
      refine as_ ?_
      refine dn ?_
      refine CV.region ?_
      refine mv ?_
      refine mv ?_
      refine mv ?_
      refine LV.call hS h27 (hI _ _ _ _ _) hP rfl rfl rfl rfl fun x28_20 T5 n5 h28 ρ its hS => ?_
      refine LV.done ?_
      refine PV.blockN ?_
      refine PV.thenN ?_
      refine CV.region ?_
      refine vy (V.add h28 rfl rfl) fun x29_21 h29 => ?_
      refine mv ?_
      refine LV.done ?_
      exact pb5 hS h29 ⟨rfl, rfl, rfl, rfl, rfl, trivial⟩
     ·
      clear h23 h24
      subst e
      refine CV.exit ?_
      refine PV.thenE ?_
      refine PV.thenE ?_
      refine PV.blockE ?_
      refine PV.blockN ?_
      cases h25
      exact PV.ret (by simp) Tryz.results105 hS RS.nil rfl
noncomputable def ap7 (ih : FuncId → List HT → List AV → HT → Nat → R) (f : FuncId) (ro : List HT) (args : List AV) (T : HT) (nx : Nat) : R :=
  Bool.rec (motive := fun _ => R) (.bad 2) (List.rec (motive := fun _ => R) (.bad 1) (fun a0 l0 _ => List.rec (motive := fun _ => R) (.bad 1) (fun a1 l1 _ => List.rec (motive := fun _ => R) (.bad 1) (fun a2 l2 _ => List.rec (motive := fun _ => R) (g105 ih ro a0 a1 a2 T nx) (fun _ _ _ => .bad 1) l2) l1) l0) args) (Nat.beq f 105)
noncomputable def scc7 (fuel : Nat) : FuncId → List HT → List AV → HT → Nat → R :=
  Nat.rec (motive := fun _ => FuncId → List HT → List AV → HT → Nat → R) (fun _ _ _ _ _ => .bad 3) (fun _ ih => ap7 ih) fuel
theorem ap7_ok (ih : FuncId → List HT → List AV → HT → Nat → R) (hI : ∀ f ro args T nx, GOk Tryz.prog envE f args ro T nx (ih f ro args T nx)) (f : FuncId) (ro : List HT) (args : List AV) (T : HT) (nx : Nat) : GOk Tryz.prog envE f args ro T nx (ap7 ih f ro args T nx) := by
  unfold ap7
  refine recb_go (fun hb => ?_) (fun _ => ?_)
  · obtain rfl := beqT hb
    rcases args with _ | ⟨a0, l0⟩
    · exact GOk.bad
    rcases l0 with _ | ⟨a1, l1⟩
    · exact GOk.bad
    rcases l1 with _ | ⟨a2, l2⟩
    · exact GOk.bad
    rcases l2 with _ | ⟨_, _⟩
    · exact g105_ok _ hI _ _ _ _ _ _ 
    · exact GOk.bad
  · exact GOk.bad
theorem scc7_ok : ∀ (fuel : Nat) (f : FuncId) (ro : List HT) (args : List AV) (T : HT) (nx : Nat), GOk Tryz.prog envE f args ro T nx (scc7 fuel f ro args T nx)
  | 0, _, _, _, _, _ => GOk.bad
  | fuel + 1, f, ro, args, T, nx => ap7_ok (scc7 fuel) (scc7_ok fuel) f ro args T nx
noncomputable def g193_k3 (ro : List HT) (lp1 : AV → AV → AV → AV → AV → HT → Nat → R) (lp2 : AV → AV → AV → AV → AV → AV → HT → Nat → R) (y0 y1 y2 y3 y8 y9 y34 : AV) (T3 : HT) (n3 : Nat) : R :=
 condK 1930012 y34
 (
  subK Tryz.prog 3 (.tmp 40) (.const (.int .i64 (.ofNat 1))) 1930017 y9 (.lit (.int .i64 (.ofNat 1))) fun x41_3 =>
  subK Tryz.prog 3 (.tmp 43) (.const (.int .i64 (.ofNat 1))) 1930020 y9 (.lit (.int .i64 (.ofNat 1))) fun x44_4 =>
  iaK 1930021 y0 x44_4 3 fun x45_5 =>
  ldAK 1930022 T3 ro x45_5 3 fun x46_6 =>
  iaK 1930025 y0 y9 3 fun x49_7 =>
  ldAK 1930026 T3 ro x49_7 3 fun x50_8 =>
  iaK 1930027 y0 y9 3 fun x51_9 =>
  stAK 1930028 T3 x51_9 x46_6 3 fun T4 =>
  iaK 1930029 y0 x41_3 3 fun x52_10 =>
  stAK 1930030 T4 x52_10 x50_8 3 fun T5 =>
  subK Tryz.prog 3 (.tmp 35) (.const (.int .i64 (.ofNat 1))) 1930032 y9 (.lit (.int .i64 (.ofNat 1))) fun x36_11 =>
  lp2 y0 y1 y2 y3 y8 x36_11 T5 n3
 )
 (
  addK Tryz.prog 3 (.tmp 15) (.const (.int .i64 (.ofNat 1))) 1930035 y8 (.lit (.int .i64 (.ofNat 1))) fun x16_12 =>
  lp1 y0 y1 y2 y3 x16_12 T3 n3
 )
noncomputable def g193_b2 (ro : List HT) (lp1 : AV → AV → AV → AV → AV → HT → Nat → R) (lp2 : AV → AV → AV → AV → AV → AV → HT → Nat → R) (y0 y1 y2 y3 y8 y9 : AV) (T2 : HT) (n2 : Nat) : R :=
 gtK Tryz.prog 3 (.tmp 18) (.tmp 19) 1930039 y9 y1 fun x20_13 =>
 condK 1930041 x20_13
 (
  iaK 1930045 y0 y9 3 fun x25_14 =>
  ldAK 1930046 T2 ro x25_14 3 fun x26_15 =>
  subK Tryz.prog 3 (.tmp 28) (.const (.int .i64 (.ofNat 1))) 1930049 y9 (.lit (.int .i64 (.ofNat 1))) fun x29_16 =>
  iaK 1930050 y0 x29_16 3 fun x30_17 =>
  ldAK 1930051 T2 ro x30_17 3 fun x31_18 =>
  dynK 1930052 y3 fun f p q => callK (scc3 4000 f ro (p ++ ([x26_15, x31_18] ++ q)) T2 n2) fun x32_19 T6 n6 =>
  ltK Tryz.prog 3 (.tmp 32) (.const (.int .i64 (.ofNat 0))) 1930053 x32_19 (.lit (.int .i64 (.ofNat 0))) fun x33_20 =>
  g193_k3 ro lp1 lp2 y0 y1 y2 y3 y8 y9 x33_20 T6 n6
 )
 (
  g193_k3 ro lp1 lp2 y0 y1 y2 y3 y8 y9 (.lit (.bool false)) T2 n2
 )
noncomputable def g193_b1 (ro : List HT) (lp1 : AV → AV → AV → AV → AV → HT → Nat → R) (y0 y1 y2 y3 y8 : AV) (T1 : HT) (n1 : Nat) : R :=
 ltK Tryz.prog 3 (.tmp 12) (.tmp 13) 1930007 y8 y2 fun x14_2 =>
 condK 1930008 x14_2
 (
  lpf6 1930011 (g193_b2 ro lp1) 100000 y0 y1 y2 y3 y8 y8 T1 n1
 )
 (
  .ok (.val (.tup [])) T1 n1
 )
noncomputable def g193 (ro : List HT) (a0 a1 a2 a3 : AV) (T : HT) (nx : Nat) : R :=
 addK Tryz.prog 3 (.tmp 10) (.const (.int .i64 (.ofNat 1))) 1930002 a1 (.lit (.int .i64 (.ofNat 1))) fun x11_1 =>
 lpf5 1930004 (g193_b1 ro) 100000 a0 a1 a2 a3 x11_1 T nx
theorem g193_ok (ro : List HT) (a0 a1 a2 a3 : AV) (T : HT) (nx : Nat) : GOk Tryz.prog envE 193 [a0, a1, a2, a3] ro T nx (g193 ro a0 a1 a2 a3 T nx) := by
 refine GOk.of_body Tryz.func193 rfl Tryz.ntmps193 (by kernel_rfl) rfl fun r T' n' h1 w0 base ρ0 its hS hP => ?_
 have X : CtxW envE ρ0 ro r T' n' := trivial
 unfold g193 at h1
 refine sr ?_
 refine mv ?_
 refine vy (V.add h1 rfl rfl) fun x11_1 h2 => ?_
 refine as_ ?_
 refine dn ?_
 refine CV.block ?_
 refine cl5 X 0 1 2 3 8 [] hS h2 ⟨rfl, rfl, rfl, rfl, rfl, trivial⟩ ?_
 intro f1 y0 y1 y2 y3 y8 T1 n1 ρ its hS h3
 unfold g193_b1 at h3
 clear h1 h2
 refine CV.seq ?_
 refine sr ?_
 refine mv ?_
 refine mv ?_
 refine vy (V.lt h3 rfl rfl) fun x14_2 h4 => ?_
 refine dn ?_
 refine CV.cond h4 rfl (fun e h5 => ?_) (fun e h5 => ?_)
 ·
  clear h3 h4
  subst e
  refine CV.skip ?_
  refine PV.thenN ?_
  refine CV.seq ?_
  refine CV.block ?_
  refine sr ?_
  refine mv ?_
  refine as_ ?_
  refine dn ?_
  refine CV.block ?_
  refine cl6 X 0 1 2 3 8 9 [] hS h5 ⟨rfl, rfl, rfl, rfl, rfl, rfl, trivial⟩ ?_
  intro f2 y0 y1 y2 y3 y8 y9 T2 n2 ρ its hS h6
  unfold g193_b2 at h6
  clear h5
  refine CV.seq ?_
  refine cs7 X 0 1 2 3 8 9 34 [] (g193_k3 ro (lpf5 1930004 (g193_b1 ro) f1) (lpf6 1930011 (g193_b2 ro (lpf5 1930004 (g193_b1 ro) f1)) f2)) ?_ ?_
  ·
   refine CV.regionM [(0, .anywhere), (1, .anywhere), (2, .anywhere), (3, .anywhere), (4, .anywhere), (5, .anywhere), (6, .anywhere), (7, .anywhere), (8, .held), (9, .anywhere), (10, .anywhere), (11, .anywhere), (12, .anywhere), (13, .held), (14, .alone), (15, .alone), (16, .alone)] rfl (fun c a a' w hd hq => PanicOk.root (P := Tryz.prog) (fn := Tryz.f193) (w0 := w0) (base := base) (E := envE) (ro := ro) (r := r) (T' := T') (n' := n') (ρ0 := ρ0) c a a' w hd hq) (by kernel_rfl) ?_
   refine MV.step0 (i := 0) rfl (VAL.move rfl) rfl rfl rfl ?_
   refine MV.step0 (i := 1) rfl (VAL.move rfl) rfl rfl rfl ?_
   refine MV.lift0 (i := 2) rfl (V.gt h6 rfl rfl) rfl rfl rfl fun x20_13 h21 => ?_
   refine MV.step0 (i := 3) rfl (VAL.move rfl) rfl rfl rfl ?_
   rcases condK_inv h21 with ⟨e, h22⟩ | ⟨e, h22⟩
   ·
    clear h6 h21
    subst e
    refine MV.step0 (i := 4) rfl (VAL.move rfl) rfl rfl rfl ?_
    refine MV.step0 (i := 5) rfl (VAL.move rfl) rfl rfl rfl ?_
    refine MV.step0 (i := 6) rfl (VAL.move rfl) rfl rfl rfl ?_
    refine MV.lift0 (i := 7) rfl (V.ia h22 rfl rfl Cnf.el155) rfl rfl rfl fun x25_14 h23 => ?_
    refine MV.lift1 (i := 8) rfl (fun _ z => z) (V.ldA hS h23 rfl Cnf.agg166) rfl rfl rfl [] (by kernel_rfl) fun x26_15 h24 => ?_
    refine MV.step0 (i := 9) rfl (VAL.move rfl) rfl rfl rfl ?_
    refine MV.step0 (i := 10) rfl (VAL.move rfl) rfl rfl rfl ?_
    refine MV.lift0 (i := 11) rfl (V.sub h24 rfl rfl) rfl rfl rfl fun x29_16 h25 => ?_
    refine MV.lift0 (i := 12) rfl (V.ia h25 rfl rfl Cnf.el155) rfl rfl rfl fun x30_17 h26 => ?_
    refine MV.lift1 (i := 13) rfl (fun _ z => z) (V.ldA hS h26 rfl Cnf.agg166) rfl rfl rfl [8] (by kernel_rfl) fun x31_18 h27 => ?_
    refine MV.force (i := 14) rfl ?_
    refine LV.callD (G := fun f gs => scc3 4000 f ro gs T2 n2) (qs := [x26_15, x31_18]) hS h27 (fun f gs => scc3_ok _ _ _ _ _ _) hP rfl rfl rfl rfl rfl rfl rfl fun x32_19 T6 n6 h28 ρ its hS => ?_
    refine LV.nextM [] (by kernel_rfl) (fun z => absurd rfl z) ?_
    refine MV.force (i := 15) rfl ?_
    refine vy (V.lt h28 rfl rfl) fun x33_20 h29 => ?_
    refine LV.nextM [] (by kernel_rfl) (fun z => absurd rfl z) ?_
    refine MV.force (i := 16) rfl ?_
    refine pu ?_
    refine LV.nextM [] (by kernel_rfl) (fun z => absurd rfl z) ?_
    refine MV.done ?_
    exact pa7 hS h29 ⟨rfl, rfl, rfl, rfl, rfl, rfl, rfl, trivial⟩
   ·
    clear h6 h21
    subst e
    refine MV.skip0 (i := 4) rfl rfl rfl rfl ?_
    refine MV.skip0 (i := 5) rfl rfl rfl rfl ?_
    refine MV.skip0 (i := 6) rfl rfl rfl rfl ?_
    refine MV.skip0 (i := 7) rfl rfl rfl rfl ?_
    refine MV.skip1 (i := 8) rfl (fun _ z => z) rfl rfl rfl [] (by kernel_rfl) ?_
    refine MV.skip0 (i := 9) rfl rfl rfl rfl ?_
    refine MV.skip0 (i := 10) rfl rfl rfl rfl ?_
    refine MV.skip0 (i := 11) rfl rfl rfl rfl ?_
    refine MV.skip0 (i := 12) rfl rfl rfl rfl ?_
    refine MV.skip1 (i := 13) rfl (fun _ z => z) rfl rfl rfl [8] (by kernel_rfl) ?_
    refine MV.force (i := 14) rfl ?_
    refine sk ?_
    refine LV.nextM [] (by kernel_rfl) (fun z => absurd rfl z) ?_
    refine MV.force (i := 15) rfl ?_
    refine sk ?_
    refine LV.nextM [] (by kernel_rfl) (fun z => absurd rfl z) ?_
    refine MV.force (i := 16) rfl ?_
    refine pu ?_
    refine LV.nextM [] (by kernel_rfl) (fun z => absurd rfl z) ?_
    refine MV.done ?_
    exact pa7 hS h22 ⟨rfl, rfl, rfl, rfl, rfl, rfl, rfl, trivial⟩
  ·
   intro y0 y1 y2 y3 y8 y9 y34 T3 n3 ρ its hS h7
   unfold g193_k3 at h7
   clear h6
   refine CV.cond h7 rfl (fun e h8 => ?_) (fun e h8 => ?_)
   ·
    clear h7
    subst e
    refine CV.skip ?_
    refine PV.thenN ?_
    refine CV.seq ?_
    refine CV.block ?_
    refine CV.regionM [(0, .anywhere), (1, .anywhere), (2, .anywhere), (3, .anywhere), (4, .anywhere), (5, .anywhere), (6, .anywhere), (7, .anywhere), (8, .anywhere), (9, .held), (10, .anywhere), (11, .anywhere), (12, .anywhere), (13, .held), (14, .held), (15, .alone), (16, .alone), (17, .alone)] rfl (fun c a a' w hd hq => PanicOk.root (P := Tryz.prog) (fn := Tryz.f193) (w0 := w0) (base := base) (E := envE) (ro := ro) (r := r) (T' := T') (n' := n') (ρ0 := ρ0) c a a' w hd hq) (by kernel_rfl) ?_
    refine MV.step0 (i := 0) rfl (VAL.move rfl) rfl rfl rfl ?_
    refine MV.step0 (i := 1) rfl (VAL.move rfl) rfl rfl rfl ?_
    refine MV.step0 (i := 2) rfl (VAL.move rfl) rfl rfl rfl ?_
    refine MV.step0 (i := 3) rfl (VAL.move rfl) rfl rfl rfl ?_
    refine MV.lift0 (i := 4) rfl (V.sub h8 rfl rfl) rfl rfl rfl fun x41_3 h9 => ?_
    refine MV.step0 (i := 5) rfl (VAL.move rfl) rfl rfl rfl ?_
    refine MV.step0 (i := 6) rfl (VAL.move rfl) rfl rfl rfl ?_
    refine MV.lift0 (i := 7) rfl (V.sub h9 rfl rfl) rfl rfl rfl fun x44_4 h10 => ?_
    refine MV.lift0 (i := 8) rfl (V.ia h10 rfl rfl Cnf.el155) rfl rfl rfl fun x45_5 h11 => ?_
    refine MV.lift1 (i := 9) rfl (fun _ z => z) (V.ldA hS h11 rfl Cnf.agg166) rfl rfl rfl [] (by kernel_rfl) fun x46_6 h12 => ?_
    refine MV.step0 (i := 10) rfl (VAL.move rfl) rfl rfl rfl ?_
    refine MV.step0 (i := 11) rfl (VAL.move rfl) rfl rfl rfl ?_
    refine MV.lift0 (i := 12) rfl (V.ia h12 rfl rfl Cnf.el155) rfl rfl rfl fun x49_7 h13 => ?_
    refine MV.lift1 (i := 13) rfl (fun _ z => z) (V.ldA hS h13 rfl Cnf.agg166) rfl rfl rfl [9] (by kernel_rfl) fun x50_8 h14 => ?_
    refine MV.lift1 (i := 14) rfl (fun _ z => z) (V.ia h14 rfl rfl Cnf.el155) rfl rfl rfl [] (by kernel_rfl) fun x51_9 h15 => ?_
    refine MV.force (i := 15) rfl ?_
    refine LV.stA hS h15 rfl rfl rfl Cnf.agg166 rfl rfl rfl fun T4 its h16 hS => ?_
    refine LV.nextM [] (by kernel_rfl) (fun z => absurd rfl z) ?_
    refine MV.force (i := 16) rfl ?_
    refine vy (V.ia h16 rfl rfl Cnf.el155) fun x52_10 h17 => ?_
    refine LV.nextM [] (by kernel_rfl) (fun z => absurd rfl z) ?_
    refine MV.force (i := 17) rfl ?_
    refine LV.stA hS h17 rfl rfl rfl Cnf.agg166 rfl rfl rfl fun T5 its h18 hS => ?_
    refine LV.nextM [] (by kernel_rfl) (fun z => absurd rfl z) ?_
    refine MV.done ?_
    refine PV.blockN ?_
    refine PV.thenN ?_
    refine CV.region ?_
    refine mv ?_
    refine vy (V.sub h18 rfl rfl) fun x36_11 h19 => ?_
    refine as_ ?_
    refine LV.done ?_
    exact pb6 hS h19 ⟨rfl, rfl, rfl, rfl, rfl, rfl, trivial⟩
   ·
    clear h7
    subst e
    refine CV.exit ?_
    refine PV.thenE ?_
    refine PV.thenE ?_
    refine PV.blockE ?_
    refine PV.blockN ?_
    refine PV.thenN ?_
    refine CV.region ?_
    refine mv ?_
    refine vy (V.add h8 rfl rfl) fun x16_12 h20 => ?_
    refine as_ ?_
    refine LV.done ?_
    exact pb5 hS h20 ⟨rfl, rfl, rfl, rfl, rfl, trivial⟩
 ·
  clear h3 h4
  subst e
  refine CV.exit ?_
  refine PV.thenE ?_
  refine PV.thenE ?_
  refine PV.blockE ?_
  cases h5
  exact PV.ret (by simp) Tryz.results193 hS RS.nil rfl
noncomputable def g196 (ro : List HT) (a0 a1 a2 a3 : AV) (T : HT) (nx : Nat) : R :=
 subK Tryz.prog 3 (.tmp 15) (.tmp 16) 1960005 a2 a1 fun x17_1 =>
 newK T nx (.obj [.lit (.int .i64 0)] 3) fun x11_2 T1 n1 =>
 bin0 Tryz.prog .quo 3 (.tmp 19) (.const (.int .i64 (.ofNat 4))) 1960010 x17_1 (.lit (.int .i64 (.ofNat 4))) fun x20_3 =>
 bin0 Tryz.prog .mul 3 (.tmp 20) (.const (.int .i64 (.ofNat 1))) 1960011 x20_3 (.lit (.int .i64 (.ofNat 1))) fun x21_4 =>
 addK Tryz.prog 3 (.tmp 18) (.tmp 21) 1960012 a1 x21_4 fun x22_5 =>
 bin0 Tryz.prog .quo 3 (.tmp 24) (.const (.int .i64 (.ofNat 4))) 1960016 x17_1 (.lit (.int .i64 (.ofNat 4))) fun x25_6 =>
 bin0 Tryz.prog .mul 3 (.tmp 25) (.const (.int .i64 (.ofNat 2))) 1960017 x25_6 (.lit (.int .i64 (.ofNat 2))) fun x26_7 =>
 addK Tryz.prog 3 (.tmp 23) (.tmp 26) 1960018 a1 x26_7 fun x27_8 =>
 bin0 Tryz.prog .quo 3 (.tmp 29) (.const (.int .i64 (.ofNat 4))) 1960022 x17_1 (.lit (.int .i64 (.ofNat 4))) fun x30_9 =>
 bin0 Tryz.prog .mul 3 (.tmp 30) (.const (.int .i64 (.ofNat 3))) 1960023 x30_9 (.lit (.int .i64 (.ofNat 3))) fun x31_10 =>
 addK Tryz.prog 3 (.tmp 28) (.tmp 31) 1960024 a1 x31_10 fun x32_11 =>
 geK Tryz.prog 3 (.tmp 33) (.const (.int .i64 (.ofNat 8))) 1960027 x17_1 (.lit (.int .i64 (.ofNat 8))) fun x34_12 =>
 condK 1960028 x34_12
 (
  .bad 1960029
 )
 (
  ldK 1960030 T1 ro x11_2 fun x55_13 =>
  eqK Tryz.prog 3 (.tmp 55) (.const (.int .i64 (.ofNat 0))) 1960031 x55_13 (.lit (.int .i64 (.ofNat 0))) fun x58_14 =>
  condK 1960033 x58_14
  (
   .bad 1960034
  )
  (
   eqK Tryz.prog 3 (.tmp 55) (.const (.int .i64 (.ofNat 12))) 1960035 x55_13 (.lit (.int .i64 (.ofNat 12))) fun x61_15 =>
   .bad 1960037
  )
 )
theorem g196_ok (ro : List HT) (a0 a1 a2 a3 : AV) (T : HT) (nx : Nat) : GOk Tryz.prog envE 196 [a0, a1, a2, a3] ro T nx (g196 ro a0 a1 a2 a3 T nx) := by
 refine GOk.of_body Tryz.func196 rfl Tryz.ntmps196 (by kernel_rfl) rfl fun r T' n' h1 w0 base ρ0 its hS hP => ?_
 have X : CtxW envE ρ0 ro r T' n' := trivial
 unfold g196 at h1
 refine sr ?_
 refine as_ ?_
 refine as_ ?_
 refine dn ?_
 refine sr ?_
 refine mv ?_
 refine mv ?_
 refine vy (V.sub h1 rfl rfl) fun x17_1 h2 => ?_
 refine as_ ?_
 refine dn ?_
 refine sr ?_
 refine LV.alloc hS h2 rfl Cnf.zr3 rfl rfl rfl fun x11_2 T1 n1 h3 ρ its hS hdr => ?_
 refine dn ?_
 refine sr ?_
 refine mv ?_
 refine mv ?_
 refine vy (V.bin0 h3 rfl rfl) fun x20_3 h4 => ?_
 refine vy (V.bin0 h4 rfl rfl) fun x21_4 h5 => ?_
 refine vy (V.add h5 rfl rfl) fun x22_5 h6 => ?_
 refine as_ ?_
 refine dn ?_
 refine sr ?_
 refine mv ?_
 refine mv ?_
 refine vy (V.bin0 h6 rfl rfl) fun x25_6 h7 => ?_
 refine vy (V.bin0 h7 rfl rfl) fun x26_7 h8 => ?_
 refine vy (V.add h8 rfl rfl) fun x27_8 h9 => ?_
 refine as_ ?_
 refine dn ?_
 refine sr ?_
 refine mv ?_
 refine mv ?_
 refine vy (V.bin0 h9 rfl rfl) fun x30_9 h10 => ?_
 refine vy (V.bin0 h10 rfl rfl) fun x31_10 h11 => ?_
 refine vy (V.add h11 rfl rfl) fun x32_11 h12 => ?_
 refine as_ ?_
 refine dn ?_
 refine CV.seq ?_
 refine sr ?_
 refine mv ?_
 refine vy (V.ge h12 rfl rfl) fun x34_12 h13 => ?_
 refine dn ?_
 refine CV.cond h13 rfl (fun e h14 => ?_) (fun e h14 => ?_)
 ·
  clear h1 h2 h3 h4 h5 h6 h7 h8 h9 h10 h11 h12 h13
  subst e
  cases h14
 ·
  clear h1 h2 h3 h4 h5 h6 h7 h8 h9 h10 h11 h12 h13
  subst e
  refine CV.skip ?_
  refine PV.thenN ?_
  refine sr ?_
  refine vy (V.ld hS h14 rfl Cnf.one3) fun x55_13 h15 => ?_
  refine dn ?_
  refine CV.block ?_
  refine sr ?_
  refine vy (V.eq h15 rfl rfl) fun x58_14 h16 => ?_
  refine as_ ?_
  refine dn ?_
  refine CV.cond h16 rfl (fun e h17 => ?_) (fun e h17 => ?_)
  ·
   clear h14 h15 h16
   subst e
   cases h17
  ·
   clear h14 h15 h16
   subst e
   refine sr ?_
   refine vy (V.eq h17 rfl rfl) fun x61_15 h18 => ?_
   refine as_ ?_
   refine dn ?_
   cases h18

end Go.Proofs.YtlljgagoboapaaaGreatDoor.Cn
