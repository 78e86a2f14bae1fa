/-
  Proved here: plain functions that do what the program's functions do, each with its proof.
-/
import Derived.Test.YtljaoofbklkglaaGreatDoorVog
namespace Go.Proofs.YtljaoofbklkglaaGreatDoor.Vo
open Go.EY Go.EX Go.SX Go.RowKit
open Tryz Vof
noncomputable section
def g8 (ro : List HT) (a0 : AV) (T : HT) (nx : Nat) : R :=
 callK (g18 ro a0 T nx) fun x1 T1 n1 =>
 exK 80006 x1 0 fun x2 =>
 exK 80007 x1 1 fun x3 =>
 bin0 prog .neq 28 (.tmp 13) (.const (.nilIface)) 80011 x3 (.lit (.nilIface)) fun x4 =>
 condK 80012 x4
 (
  .bad 80013
 )
 (
  callK (g19 ro x2 T1 n1) fun x5 T2 n2 =>
  exK 80017 x5 0 fun x6 =>
  exK 80018 x5 1 fun x7 =>
  bin0 prog .eql 28 (.tmp 21) (.const (.nilIface)) 80023 x7 (.lit (.nilIface)) fun x8 =>
  condK 80025 x8
  (
   bin0 prog .neq 25 (.tmp 24) (.const (.nilIface)) 80027 x6 (.lit (.nilIface)) fun x9 =>
   .ok (.val (.tup [x6, x9])) T2 n2
  )
  (
   .ok (.val (.tup [x6, (.lit (.bool false))])) T2 n2
  )
 )
theorem g8_ok (ro : List HT) (a0 : AV) (T : HT) (nx : Nat) : GOk prog envE 8 [a0] ro T nx (g8 ro a0 T nx) := by
 refine GOk.of_body func8 rfl ntmps8 (by kernel_rfl) rfl fun r T' n' h1 w0 base ρ0 its hS hP => ?_
 have X : CtxW envE ρ0 ro r T' n' := trivial
 unfold g8 at h1
 refine sr ?_
 iterate 2 refine as_ ?_
 refine dn (sr ?_)
 refine mv ?_
 refine LV.call hS h1 (g18_ok _ _ _ _ ) hP rfl rfl rfl rfl fun x1 T1 n1 h2 ρ its hS => ?_
 refine mv ?_
 refine vy (V.ex h2 rfl) fun x2 h3 => ?_
 refine vy (V.ex h3 rfl) fun x3 h4 => ?_
 iterate 2 refine as_ ?_
 refine dn (CV.seq (sr ?_))
 refine mv ?_
 refine vy (V.bin0 h4 rfl rfl) fun x4 h5 => ?_
 refine dn ?_
 refine CV.cond h5 rfl (fun e h6 => ?_) (fun e h6 => ?_)
 ·
  subst e
  cases h6
 subst e
 refine CV.skip (PV.thenN (sr ?_))
 refine mv ?_
 refine LV.call hS h6 (g19_ok _ _ _ _ ) hP rfl rfl rfl rfl fun x5 T2 n2 h7 ρ its hS => ?_
 refine mv ?_
 refine vy (V.ex h7 rfl) fun x6 h8 => ?_
 refine vy (V.ex h8 rfl) fun x7 h9 => ?_
 iterate 2 refine as_ ?_
 refine dn (CV.seq ?_)
 refine CV.regionM [(0, .anywhere), (1, .anywhere), (2, .anywhere), (3, .anywhere), (4, .anywhere), (5, .anywhere), (6, .anywhere), (7, .anywhere), (8, .anywhere)] rfl (fun c a a' w hd hq => PanicOk.root (P := prog) (fn := f8) (w0 := w0) (base := base) (E := envE) (ro := ro) (r := r) (T' := T') (n' := n') (ρ0 := ρ0) c a a' w hd hq) (by kernel_rfl) ?_
 refine MV.step0 (i := 0) rfl (VAL.move rfl) rfl rfl rfl ?_
 refine MV.step0 (i := 1) rfl (VAL.move rfl) rfl rfl rfl ?_
 refine MV.lift0 (i := 2) rfl (V.bin0 h9 rfl rfl) rfl rfl rfl fun x8 h10 => ?_
 refine MV.step0 (i := 3) rfl (VAL.move rfl) rfl rfl rfl ?_
 rcases condK_inv h10 with ⟨e, h11⟩ | ⟨e, h11⟩
 ·
  subst e
  refine MV.step0 (i := 4) rfl (VAL.move rfl) rfl rfl rfl ?_
  refine MV.lift0 (i := 5) rfl (V.bin0 h11 rfl rfl) rfl rfl rfl fun x9 h12 => ?_
  refine MV.step0 (i := 6) rfl (VAL.pure rfl) rfl rfl rfl ?_
  refine MV.step0 (i := 7) rfl (VAL.assign rfl) rfl rfl rfl ?_
  refine MV.step0 (i := 8) rfl (VAL.assign rfl) rfl rfl rfl ?_
  refine mdn (CV.ret ?_)
  cases h12
  exact PV.ret (by simp) results8 hS (RS.tmp rfl (RS.tmp rfl RS.nil)) rfl
 subst e
 refine MV.skip0 (i := 4) rfl rfl rfl rfl ?_
 refine MV.skip0 (i := 5) rfl rfl rfl rfl ?_
 refine MV.step0 (i := 6) rfl (VAL.pure rfl) rfl rfl rfl ?_
 refine MV.step0 (i := 7) rfl (VAL.assign rfl) rfl rfl rfl ?_
 refine MV.step0 (i := 8) rfl (VAL.assign rfl) rfl rfl rfl ?_
 refine mdn (CV.ret ?_)
 cases h11
 exact PV.ret (by simp) results8 hS (RS.tmp rfl (RS.tmp rfl RS.nil)) rfl
def g10_b1 (ro : List HT) (lp1 : AV → AV → AV → AV → HT → Nat → R) (y0 y2 y3 y4 : AV) (T2 : HT) (n2 : Nat) : R :=
 gtK prog 59 (.tmp 11) (.const (.int .u64 (.ofNat 0))) 100012 y3 (.lit (.int .u64 (.ofNat 0))) fun x4 =>
 condK 100013 x4
 (
  bin0 prog .rem 59 (.tmp 16) (.const (.int .u64 (.ofNat 1000000000))) 100016 y3 (.lit (.int .u64 (.ofNat 1000000000))) fun x5 =>
  optK 100017 (convV prog 59 60 x5) fun x6 =>
  bsK 100018 T2 n2 1 60 1 [(0, x6)] fun x7 T3 n3 =>
  shrK 100020 T3 y4 fun T4 =>
  appEK 100019 T4 ro n3 60 1 4 y4 x7 fun x8 T5 n5 =>
  bin0 prog .quo 59 (.tmp 13) (.const (.int .u64 (.ofNat 1000000000))) 100023 y3 (.lit (.int .u64 (.ofNat 1000000000))) fun x9 =>
  lp1 y0 y2 x9 x8 T5 n5
 )
 (
  ltK prog 2 (.tmp 21) (.const (.int .i64 (.ofNat 0))) 100026 y0 (.lit (.int .i64 (.ofNat 0))) fun x10 =>
  callK (g20 ro x10 y4 T2 n2) fun x11 T6 n6 =>
  stAK 100029 T6 y2 x11 2 fun T7 =>
  ldAK 100030 T7 ro y2 2 fun x12 =>
  .ok (.val x12) T7 n6
 )
def g10 (ro : List HT) (a0 : AV) (T : HT) (nx : Nat) : R :=
 newK T nx (.obj [.lit (.bool false), .lit (.slice none 0 0)] 37) fun x1 T1 n1 =>
 optK 100003 (convV prog 2 59 a0) fun x2 =>
 ltK prog 2 (.tmp 7) (.const (.int .i64 (.ofNat 0))) 100006 a0 (.lit (.int .i64 (.ofNat 0))) fun x3 =>
 condK 100007 x3
 (
  .bad 100008
 )
 (
  lpf4 100010 (g10_b1 ro) 100000 a0 x1 x2 (.lit (.slice none 0 0)) T1 n1
 )
theorem g10_ok (ro : List HT) (a0 : AV) (T : HT) (nx : Nat) : GOk prog envE 10 [a0] ro T nx (g10 ro a0 T nx) := by
 refine GOk.of_body func10 rfl ntmps10 (by kernel_rfl) rfl fun r T' n' h1 w0 base ρ0 its hS hP => ?_
 have X : CtxW envE ρ0 ro r T' n' := trivial
 unfold g10 at h1
 refine sr ?_
 refine LV.alloc hS h1 rfl zr37 rfl rfl rfl fun x1 T1 n1 h2 ρ its hS hdr => ?_
 refine dn (sr ?_)
 refine mv ?_
 refine vy (V.conv h2 rfl) fun x2 h3 => ?_
 refine as_ ?_
 refine dn (CV.seq (sr ?_))
 refine mv ?_
 refine vy (V.lt h3 rfl rfl) fun x3 h4 => ?_
 refine dn ?_
 refine CV.cond h4 rfl (fun e h5 => ?_) (fun e h5 => ?_)
 ·
  subst e
  cases h5
 subst e
 refine CV.skip (PV.thenN (sr ?_))
 refine as_ ?_
 refine dn (CV.seq (CV.block ?_))
 refine cl4 X 0 2 3 4 [] hS h5 ⟨rfl, rfl, rfl, rfl, trivial⟩ ?_
 intro f1 y0 y2 y3 y4 T2 n2 ρ its hS h6
 unfold g10_b1 at h6
 refine CV.seq (sr ?_)
 refine mv ?_
 refine vy (V.gt h6 rfl rfl) fun x4 h7 => ?_
 refine dn ?_
 refine CV.cond h7 rfl (fun e h8 => ?_) (fun e h8 => ?_)
 ·
  subst e
  refine CV.skip (PV.thenN (CV.seq (CV.block (CV.region ?_))))
  iterate 2 refine mv ?_
  refine vy (V.bin0 h8 rfl rfl) fun x5 h9 => ?_
  refine vy (V.conv h9 rfl) fun x6 h10 => ?_
  refine LV.bslice hS h10 rfl rfl el35 rfl rfl rfl rfl fun x7 T3 n3 h11 ρ its hS hdr => ?_
  obtain ⟨T4, its1, h12, hS, hW⟩ := shrK_inv hS h11
  refine LV.world hW ?_
  refine LV.appE hS h12 rfl rfl rfl rfl el35 rfl rfl rfl fun x8 T5 n5 h13 ρ its hS => ?_
  refine as_ ?_
  refine LV.done (PV.blockN (PV.thenN (CV.region ?_)))
  refine mv ?_
  refine vy (V.bin0 h13 rfl rfl) fun x9 h14 => ?_
  refine as_ ?_
  refine LV.done ?_
  exact pb4 hS h14 ⟨rfl, rfl, rfl, rfl, trivial⟩
 subst e
 refine CV.exit (PV.thenE (PV.thenE (PV.blockE (PV.thenN (sr ?_)))))
 refine mv ?_
 refine vy (V.lt h8 rfl rfl) fun x10 h15 => ?_
 refine mv ?_
 refine LV.call hS h15 (g20_ok _ _ _ _ _ ) hP rfl rfl rfl rfl fun x11 T6 n6 h16 ρ its hS => ?_
 refine LV.stA hS h16 rfl rfl rfl agg37 rfl rfl rfl fun T7 its h17 hS => ?_
 refine dn (CV.ret ?_)
 refine PV.ldA (x := .tmp 2) (t := 37) hS h17 rfl agg37 fun x12 h18 hVx2_12 => ?_
 cases h18
 exact PV.ret (by simp) results10 hS (RS.cell hVx2_12 RS.nil) rfl
def g40 (ro : List HT) (a0 : AV) (T : HT) (nx : Nat) : R :=
 fldK 400003 T ro a0 0 fun x1 =>
 lenSK 400004 x1 fun x2 =>
 geK prog 3 (.tmp 7) (.const (.int .i64 (.ofNat 65536))) 400005 x2 (.lit (.int .i64 (.ofNat 65536))) fun x3 =>
 .ok (.val x3) T nx
theorem g40_ok (ro : List HT) (a0 : AV) (T : HT) (nx : Nat) : GOk prog envE 40 [a0] ro T nx (g40 ro a0 T nx) := by
 refine GOk.of_body func40 rfl ntmps40 (by kernel_rfl) rfl fun r T' n' h1 w0 base ρ0 its hS hP => ?_
 have X : CtxW envE ρ0 ro r T' n' := trivial
 unfold g40 at h1
 refine sr ?_
 refine as_ ?_
 refine dn (sr ?_)
 refine mv ?_
 refine fl hS h1 fo66_0 one64 fun x1 h2 => ?_
 refine vy (V.lenS h2 rfl ls64) fun x2 h3 => ?_
 refine vy (V.ge h3 rfl rfl) fun x3 h4 => ?_
 refine as_ ?_
 refine dn (CV.ret ?_)
 cases h4
 exact PV.ret (by simp) results40 hS (RS.tmp rfl RS.nil) rfl
def g41_b1 (ro : List HT) (lp1 : AV → AV → AV → AV → HT → Nat → R) (y0 y6 y7 y8 : AV) (T1 : HT) (n1 : Nat) : R :=
 ltK prog 3 (.tmp 8) (.tmp 7) 410005 y8 y7 fun x2 =>
 condK 410006 x2
 (
  iaK 410007 y6 y8 1 fun x3 =>
  ldK 410008 T1 ro x3 fun x4 =>
  ncK 410012 y0 fun x5 =>
  faK 410013 x5 0 fun x6 =>
  ldK 410014 T1 ro x6 fun x7 =>
  lenTK 410017 x4 fun x8 =>
  ncK 410019 y0 fun x9 =>
  faK 410020 x9 0 fun x10 =>
  ldK 410021 T1 ro x10 fun x11 =>
  lenSK 410022 x11 fun x12 =>
  subK prog 3 (.const (.int .i64 (.ofNat 65536))) (.tmp 24) 410023 (.lit (.int .i64 (.ofNat 65536))) x12 fun x13 =>
  optK 410024 (mmV x8 x13 false) fun x14 =>
  sliceF 410025 x4 none (some x14) fun x15 =>
  shrK 410027 T1 x7 fun T2 =>
  appTK 410026 T2 n1 5 x7 x15 fun x16 T3 n3 =>
  ncK 410028 y0 fun x17 =>
  faK 410029 x17 0 fun x18 =>
  stK 410030 T3 x18 x16 fun T4 =>
  addK prog 3 (.tmp 8) (.const (.int .i64 (.ofNat 1))) 410031 y8 (.lit (.int .i64 (.ofNat 1))) fun x19 =>
  lp1 y0 y6 y7 x19 T4 n3
 )
 (
  .ok (.val (.tup [])) T1 n1
 )
def g41 (ro : List HT) (a0 a1 : AV) (T : HT) (nx : Nat) : R :=
 lenSK 410002 a1 fun x1 =>
 lpf4 410004 (g41_b1 ro) 100000 a0 a1 x1 (.lit (.int .i64 (.ofNat 0))) T nx
theorem g41_ok (ro : List HT) (a0 a1 : AV) (T : HT) (nx : Nat) : GOk prog envE 41 [a0, a1] ro T nx (g41 ro a0 a1 T nx) := by
 refine GOk.of_body func41 rfl ntmps41 (by kernel_rfl) rfl fun r T' n' h1 w0 base ρ0 its hS hP => ?_
 have X : CtxW envE ρ0 ro r T' n' := trivial
 unfold g41 at h1
 refine sr ?_
 refine mv ?_
 refine vy (V.lenS h1 rfl ls89) fun x1 h2 => ?_
 refine mv ?_
 refine dn (CV.block ?_)
 refine cl4 X 0 6 7 8 [] hS h2 ⟨rfl, rfl, rfl, rfl, trivial⟩ ?_
 intro f1 y0 y6 y7 y8 T1 n1 ρ its hS h3
 unfold g41_b1 at h3
 refine sr ?_
 refine vy (V.lt h3 rfl rfl) fun x2 h4 => ?_
 refine dn (CV.seq ?_)
 refine CV.cond h4 rfl (fun e h5 => ?_) (fun e h5 => ?_)
 ·
  subst e
  refine CV.skip (PV.thenN (CV.seq (CV.block (sr ?_))))
  refine vy (V.ia h5 rfl rfl el89) fun x3 h6 => ?_
  refine vy (V.ld hS h6 rfl one9) fun x4 h7 => ?_
  refine as_ ?_
  refine dn ?_
  refine CV.regionM [(0, .anywhere), (1, .anywhere), (2, .anywhere), (3, .anywhere), (4, .held), (5, .anywhere), (6, .anywhere), (7, .anywhere), (8, .anywhere), (9, .anywhere), (10, .anywhere), (11, .held), (12, .held), (13, .held), (14, .held), (15, .held), (16, .alone), (17, .alone), (18, .alone), (19, .alone)] rfl (fun c a a' w hd hq => PanicOk.root (P := prog) (fn := f41) (w0 := w0) (base := base) (E := envE) (ro := ro) (r := r) (T' := T') (n' := n') (ρ0 := ρ0) c a a' w hd hq) (by kernel_rfl) ?_
  refine MV.step0 (i := 0) rfl (VAL.move rfl) rfl rfl rfl ?_
  refine MV.step0 (i := 1) rfl (VAL.move rfl) rfl rfl rfl ?_
  refine MV.lift0 (i := 2) rfl (V.nc h7 rfl) rfl rfl rfl fun x5 h8 => ?_
  refine MV.lift0 (i := 3) rfl (V.fa h8 rfl fo66_0) rfl rfl rfl fun x6 h9 => ?_
  refine MV.lift1 (i := 4) rfl (fun _ z => z) (V.ld hS h9 rfl one64) rfl rfl rfl [] (by kernel_rfl) fun x7 h10 => ?_
  refine MV.step0 (i := 5) rfl (VAL.move rfl) rfl rfl rfl ?_
  refine MV.step0 (i := 6) rfl (VAL.move rfl) rfl rfl rfl ?_
  refine MV.lift0 (i := 7) rfl (V.lenT h10 rfl ls9) rfl rfl rfl fun x8 h11 => ?_
  refine MV.step0 (i := 8) rfl (VAL.move rfl) rfl rfl rfl ?_
  refine MV.lift0 (i := 9) rfl (V.nc h11 rfl) rfl rfl rfl fun x9 h12 => ?_
  refine MV.lift0 (i := 10) rfl (V.fa h12 rfl fo66_0) rfl rfl rfl fun x10 h13 => ?_
  refine MV.lift1 (i := 11) rfl (fun _ z => z) (V.ld hS h13 rfl one64) rfl rfl rfl [4] (by kernel_rfl) fun x11 h14 => ?_
  refine MV.lift1 (i := 12) rfl (fun _ z => z) (V.lenS h14 rfl ls64) rfl rfl rfl [4] (by kernel_rfl) fun x12 h15 => ?_
  refine MV.lift1 (i := 13) rfl (fun _ z => z) (V.sub h15 rfl rfl) rfl rfl rfl [4] (by kernel_rfl) fun x13 h16 => ?_
  refine MV.lift1 (i := 14) rfl (fun _ z => z) (V.min h16 rfl rfl) rfl rfl rfl [4] (by kernel_rfl) fun x14 h17 => ?_
  refine MV.lift1 (i := 15) rfl (fun _ z => z) (V.slHi (sliceF_ok h17) rfl rfl st9) rfl rfl rfl [4] (by kernel_rfl) fun x15 h18 => ?_
  refine MV.force (i := 16) rfl ?_
  obtain ⟨T2, its1, h19, hS, hW⟩ := shrK_inv hS h18
  refine LV.world hW ?_
  refine LV.appT hS h19 rfl rfl rfl rfl el64 st9 rfl rfl rfl fun x16 T3 n3 h20 ρ its hS => ?_
  refine LV.nextM [] (by kernel_rfl) (fun z => absurd rfl z) ?_
  refine MV.force (i := 17) rfl ?_
  refine vy (V.nc h20 rfl) fun x17 h21 => ?_
  refine LV.nextM [] (by kernel_rfl) (fun z => absurd rfl z) ?_
  refine MV.force (i := 18) rfl ?_
  refine vy (V.fa h21 rfl fo66_0) fun x18 h22 => ?_
  refine LV.nextM [] (by kernel_rfl) (fun z => absurd rfl z) ?_
  refine MV.force (i := 19) rfl ?_
  refine LV.st hS h22 rfl rfl rfl siz64 rfl rfl fun T4 its h23 hS => ?_
  refine LV.nextM [] (by kernel_rfl) (fun z => absurd rfl z) ?_
  refine MV.done (PV.blockN (PV.thenN (CV.region ?_)))
  refine vy (V.add h23 rfl rfl) fun x19 h24 => ?_
  refine mv ?_
  refine LV.done ?_
  exact pb4 hS h24 ⟨rfl, rfl, rfl, rfl, trivial⟩
 subst e
 refine CV.exit (PV.thenE (PV.thenE (PV.blockE ?_)))
 cases h5
 exact PV.ret (by simp) results41 hS RS.nil rfl
def g42 (ro : List HT) (a0 a1 : AV) (T : HT) (nx : Nat) : R :=
 .bad 420002
theorem g42_ok (ro : List HT) (a0 a1 : AV) (T : HT) (nx : Nat) : GOk prog envE 42 [a0, a1] ro T nx (g42 ro a0 a1 T nx) := by
 refine GOk.of_body func42 rfl ntmps42 (by kernel_rfl) rfl fun r T' n' h1 w0 base ρ0 its hS hP => ?_
 have X : CtxW envE ρ0 ro r T' n' := trivial
 unfold g42 at h1
 refine sr ?_
 refine mv ?_
 refine dn ?_
 cases h1
def g44_k3 (ro : List HT) (lp1 : AV → AV → AV → AV → AV → HT → Nat → R) (y0 y2 y3 y5 y8 y9 y48 : AV) (T4 : HT) (n4 : Nat) : R :=
 condK 440036 y48
 (
  .bad 440037
 )
 (
  bsK 440040 T4 n4 1 5 1 [(0, y5)] fun x9 T5 n5 =>
  shrK 440042 T5 y3 fun T6 =>
  appEK 440041 T6 ro n5 5 1 1 y3 x9 fun x10 T7 n7 =>
  addK prog 3 (.tmp 9) (.const (.int .i64 (.ofNat 1))) 440044 y9 (.lit (.int .i64 (.ofNat 1))) fun x11 =>
  lp1 y0 y2 x10 y8 x11 T7 n7
 )
def g44_k2 (ro : List HT) (lp1 : AV → AV → AV → AV → AV → HT → Nat → R) (y0 y2 y3 y5 y8 y9 y37 : AV) (T3 : HT) (n3 : Nat) : R :=
 condK 440030 y37
 (
  .bad 440031
 )
 (
  ltK prog 5 (.tmp 43) (.const (.int .u8 (.ofNat 32))) 440033 y5 (.lit (.int .u8 (.ofNat 32))) fun x8 =>
  condK 440046 x8
  (
   g44_k3 ro lp1 y0 y2 y3 y5 y8 y9 (.lit (.bool true)) T3 n3
  )
  (
   eqK prog 5 (.tmp 46) (.const (.int .u8 (.ofNat 127))) 440049 y5 (.lit (.int .u8 (.ofNat 127))) fun x12 =>
   g44_k3 ro lp1 y0 y2 y3 y5 y8 y9 x12 T3 n3
  )
 )
def g44_b1 (ro : List HT) (lp1 : AV → AV → AV → AV → AV → HT → Nat → R) (y0 y2 y3 y8 y9 : AV) (T2 : HT) (n2 : Nat) : R :=
 ltK prog 3 (.tmp 9) (.tmp 8) 440008 y9 y8 fun x3 =>
 condK 440009 x3
 (
  ixK 440014 y0 y9 fun x4 =>
  eqK prog 5 (.tmp 20) (.const (.int .u8 (.ofNat 10))) 440017 x4 (.lit (.int .u8 (.ofNat 10))) fun x5 =>
  condK 440019 x5
  (
   .bad 440020
  )
  (
   eqK prog 5 (.tmp 26) (.const (.int .u8 (.ofNat 9))) 440022 x4 (.lit (.int .u8 (.ofNat 9))) fun x6 =>
   condK 440024 x6
   (
    .bad 440025
   )
   (
    eqK prog 5 (.tmp 32) (.const (.int .u8 (.ofNat 92))) 440027 x4 (.lit (.int .u8 (.ofNat 92))) fun x7 =>
    condK 440051 x7
    (
     g44_k2 ro lp1 y0 y2 y3 x4 y8 y9 (.lit (.bool true)) T2 n2
    )
    (
     eqK prog 5 (.tmp 35) (.const (.int .u8 (.ofNat 34))) 440054 x4 (.lit (.int .u8 (.ofNat 34))) fun x13 =>
     g44_k2 ro lp1 y0 y2 y3 x4 y8 y9 x13 T2 n2
    )
   )
  )
 )
 (
  bsK 440057 T2 n2 1 5 1 [(0, (.lit (.int .u8 (.ofNat 34))))] fun x14 T8 n8 =>
  shrK 440059 T8 y3 fun T9 =>
  appEK 440058 T9 ro n8 5 1 1 y3 x14 fun x15 T10 n10 =>
  strBK 440060 T10 5 x15 fun x16 =>
  .ok (.val x16) T10 n10
 )
def g44 (ro : List HT) (a0 : AV) (T : HT) (nx : Nat) : R :=
 bsK 440002 T nx 1 5 1 [(0, (.lit (.int .u8 (.ofNat 34))))] fun x1 T1 n1 =>
 lenTK 440005 a0 fun x2 =>
 lpf5 440007 (g44_b1 ro) 100000 a0 (.lit (.string ⟨⟨[]⟩⟩)) x1 x2 (.lit (.int .i64 (.ofNat 0))) T1 n1
theorem g44_ok (ro : List HT) (a0 : AV) (T : HT) (nx : Nat) : GOk prog envE 44 [a0] ro T nx (g44 ro a0 T nx) := by
 refine GOk.of_body func44 rfl ntmps44 (by kernel_rfl) rfl fun r T' n' h1 w0 base ρ0 its hS hP => ?_
 have X : CtxW envE ρ0 ro r T' n' := trivial
 unfold g44 at h1
 refine sr ?_
 refine as_ ?_
 refine dn (sr ?_)
 refine LV.bslice hS h1 rfl rfl el64 rfl rfl rfl rfl fun x1 T1 n1 h2 ρ its hS hdr => ?_
 refine as_ ?_
 refine dn (CV.seq (sr ?_))
 refine mv ?_
 refine vy (V.lenT h2 rfl ls9) fun x2 h3 => ?_
 refine mv ?_
 refine dn (CV.block ?_)
 refine cl5 X 0 2 3 8 9 [] hS h3 ⟨rfl, rfl, rfl, rfl, rfl, trivial⟩ ?_
 intro f1 y0 y2 y3 y8 y9 T2 n2 ρ its hS h4
 unfold g44_b1 at h4
 refine sr ?_
 refine vy (V.lt h4 rfl rfl) fun x3 h5 => ?_
 refine dn (CV.seq ?_)
 refine CV.cond h5 rfl (fun e h6 => ?_) (fun e h6 => ?_)
 ·
  subst e
  refine CV.skip (PV.thenN (CV.seq (CV.block (sr ?_))))
  refine mv ?_
  refine as_ ?_
  refine dn (sr ?_)
  iterate 2 refine mv ?_
  refine vy (V.ix h6 rfl rfl st9) fun x4 h7 => ?_
  refine as_ ?_
  refine dn (CV.block (sr ?_))
  refine mv ?_
  refine vy (V.eq h7 rfl rfl) fun x5 h8 => ?_
  refine as_ ?_
  refine dn ?_
  refine CV.cond h8 rfl (fun e h9 => ?_) (fun e h9 => ?_)
  ·
   subst e
   cases h9
  subst e
  refine sr ?_
  refine mv ?_
  refine vy (V.eq h9 rfl rfl) fun x6 h10 => ?_
  refine as_ ?_
  refine dn ?_
  refine CV.cond h10 rfl (fun e h11 => ?_) (fun e h11 => ?_)
  ·
   subst e
   cases h11
  subst e
  refine sr ?_
  refine mv ?_
  refine vy (V.eq h11 rfl rfl) fun x7 h12 => ?_
  refine mv ?_
  refine ls7 X 0 2 3 5 8 9 37 [] (g44_k2 ro (lpf5 440007 (g44_b1 ro) f1)) 3 ?_ ?_
  ·
   rcases condK_inv h12 with ⟨e, h24⟩ | ⟨e, h24⟩
   ·
    subst e
    iterate 2 refine sk ?_
    refine pu ?_
    exact la7 hS h24 ⟨rfl, rfl, rfl, rfl, rfl, rfl, rfl, trivial⟩
   subst e
   refine mv ?_
   refine vy (V.eq h24 rfl rfl) fun x13 h25 => ?_
   refine pu ?_
   exact la7 hS h25 ⟨rfl, rfl, rfl, rfl, rfl, rfl, rfl, trivial⟩
  intro y0 y2 y3 y5 y8 y9 y37 T3 n3 ρ its hS h13
  unfold g44_k2 at h13
  refine as_ ?_
  refine dn ?_
  refine CV.cond h13 rfl (fun e h14 => ?_) (fun e h14 => ?_)
  ·
   subst e
   cases h14
  subst e
  refine sr ?_
  refine mv ?_
  refine vy (V.lt h14 rfl rfl) fun x8 h15 => ?_
  refine mv ?_
  refine ls7 X 0 2 3 5 8 9 48 [] (g44_k3 ro (lpf5 440007 (g44_b1 ro) f1)) 3 ?_ ?_
  ·
   rcases condK_inv h15 with ⟨e, h22⟩ | ⟨e, h22⟩
   ·
    subst e
    iterate 2 refine sk ?_
    refine pu ?_
    exact la7 hS h22 ⟨rfl, rfl, rfl, rfl, rfl, rfl, rfl, trivial⟩
   subst e
   refine mv ?_
   refine vy (V.eq h22 rfl rfl) fun x12 h23 => ?_
   refine pu ?_
   exact la7 hS h23 ⟨rfl, rfl, rfl, rfl, rfl, rfl, rfl, trivial⟩
  intro y0 y2 y3 y5 y8 y9 y48 T4 n4 ρ its hS h16
  unfold g44_k3 at h16
  refine as_ ?_
  refine dn ?_
  refine CV.cond h16 rfl (fun e h17 => ?_) (fun e h17 => ?_)
  ·
   subst e
   cases h17
  subst e
  refine CV.region ?_
  iterate 2 refine mv ?_
  refine LV.bslice hS h17 rfl rfl el64 rfl rfl rfl rfl fun x9 T5 n5 h18 ρ its hS hdr => ?_
  obtain ⟨T6, its1, h19, hS, hW⟩ := shrK_inv hS h18
  refine LV.world hW ?_
  refine LV.appE hS h19 rfl rfl rfl rfl el64 rfl rfl rfl fun x10 T7 n7 h20 ρ its hS => ?_
  refine as_ ?_
  refine LV.done (PV.blockN (PV.blockN (PV.thenN (CV.region ?_))))
  refine vy (V.add h20 rfl rfl) fun x11 h21 => ?_
  refine mv ?_
  refine LV.done ?_
  exact pb5 hS h21 ⟨rfl, rfl, rfl, rfl, rfl, trivial⟩
 subst e
 refine CV.exit (PV.thenE (PV.thenE (PV.blockE (PV.thenN (sr ?_)))))
 refine mv ?_
 refine LV.bslice hS h6 rfl rfl el64 rfl rfl rfl rfl fun x14 T8 n8 h26 ρ its hS hdr => ?_
 obtain ⟨T9, its1, h27, hS, hW⟩ := shrK_inv hS h26
 refine LV.world hW ?_
 refine LV.appE hS h27 rfl rfl rfl rfl el64 rfl rfl rfl fun x15 T10 n10 h28 ρ its hS => ?_
 refine vy (V.strB hS h28 rfl slt64 u8t5 st9) fun x16 h29 => ?_
 refine as_ ?_
 refine dn (CV.ret ?_)
 cases h29
 exact PV.ret (by simp) results44 hS (RS.tmp rfl RS.nil) rfl
def g45 (ro : List HT) (a0 a1 : AV) (T : HT) (nx : Nat) : R :=
 callK (ifcK 450002 a1 fun tr xr => .bad 450002) fun x1 T1 n1 =>
 exK 450004 x1 0 fun x2 =>
 exK 450005 x1 1 fun x3 =>
 exK 450006 x1 2 fun x4 =>
 newK T1 n1 (.obj [.lit (.bool false), .lit (.slice none 0 0)] 37) fun x5 T2 n2 =>
 newK T2 n2 (.obj [.lit (.bool false), .lit (.slice none 0 0)] 37) fun x6 T3 n3 =>
 newK T3 n3 (.obj [.lit (.bool false), .lit (.slice none 0 0)] 37) fun x7 T4 n4 =>
 stAK 450010 T4 x5 x2 2 fun T5 =>
 stAK 450011 T5 x6 x3 2 fun T6 =>
 stAK 450012 T6 x7 x4 2 fun T7 =>
 ldAQK 450014 T7 ro [(x5, 0, 2), (x6, 0, 2)] x5 2 fun x8 =>
 ldAQK 450015 T7 ro [(x5, 0, 2), (x6, 0, 2)] x6 2 fun x9 =>
 callK (g43 ro x8 T7 n4) fun x10 T8 n8 =>
 keepK 450017 T7 T8 [(x5, 0, 2), (x6, 0, 2)] <|
 callK (g43 ro x9 T8 n8) fun x11 T9 n9 =>
 bsK 450019 T9 n9 4 9 1 [(0, (.lit (.string ⟨⟨[114, 97, 110, 103, 101, 40]⟩⟩))), (1, x10), (2, (.lit (.string ⟨⟨[44, 32]⟩⟩))), (3, x11)] fun x12 T10 n10 =>
 callK (g41 ro a0 x12 T10 n10) fun x13 T11 n11 =>
 ldAQK 450021 T11 ro [(x7, 0, 2)] x7 2 fun x14 =>
 callK (g10 ro (.lit (.int .i64 (.ofNat 1))) T11 n11) fun x15 T12 n12 =>
 keepK 450023 T11 T12 [(x7, 0, 2)] <|
 callK (g26 ro x14 x15 T12 n12) fun x16 T13 n13 =>
 neK prog 3 (.tmp 22) (.const (.int .i64 (.ofNat 0))) 450025 x16 (.lit (.int .i64 (.ofNat 0))) fun x17 =>
 condK 450026 x17
 (
  .bad 450027
 )
 (
  bsK 450029 T13 n13 1 9 1 [(0, (.lit (.string ⟨⟨[41]⟩⟩)))] fun x18 T14 n14 =>
  callK (g41 ro a0 x18 T14 n14) fun x19 T15 n15 =>
  .ok (.val (.tup [])) T15 n15
 )
theorem g45_ok (ro : List HT) (a0 a1 : AV) (T : HT) (nx : Nat) : GOk prog envE 45 [a0, a1] ro T nx (g45 ro a0 a1 T nx) := by
 refine GOk.of_body func45 rfl ntmps45 (by kernel_rfl) rfl fun r T' n' h1 w0 base ρ0 its hS hP => ?_
 have X : CtxW envE ρ0 ro r T' n' := trivial
 unfold g45 at h1
 refine sr ?_
 refine mv ?_
 refine LV.inv hS h1 (GMk.ifc fun tr xr _ => GMk.bad) hP rfl rfl rfl rfl rfl rfl rfl fun x1 T1 n1 h2 ρ its hS => ?_
 refine mv ?_
 refine vy (V.ex h2 rfl) fun x2 h3 => ?_
 refine vy (V.ex h3 rfl) fun x3 h4 => ?_
 refine vy (V.ex h4 rfl) fun x4 h5 => ?_
 refine LV.alloc hS h5 rfl zr37 rfl rfl rfl fun x5 T2 n2 h6 ρ its hS hdr => ?_
 refine LV.alloc hS h6 rfl zr37 rfl rfl rfl fun x6 T3 n3 h7 ρ its hS hdr => ?_
 refine LV.alloc hS h7 rfl zr37 rfl rfl rfl fun x7 T4 n4 h8 ρ its hS hdr => ?_
 refine LV.stA hS h8 rfl rfl rfl agg37 rfl rfl rfl fun T5 its h9 hS => ?_
 refine LV.stA hS h9 rfl rfl rfl agg37 rfl rfl rfl fun T6 its h10 hS => ?_
 refine LV.stA hS h10 rfl rfl rfl agg37 rfl rfl rfl fun T7 its h11 hS => ?_
 refine dn (CV.seq ?_)
 refine CV.regionMS hS [(x5, 0, 2), (x6, 0, 2)] [(0, .anywhere), (1, .held), (3, .held), (2, .alone), (4, .alone), (5, .alone), (6, .alone)] rfl (fun c a a' w hd hq => PanicOk.root (P := prog) (fn := f45) (w0 := w0) (base := base) (E := envE) (ro := ro) (r := r) (T' := T') (n' := n') (ρ0 := ρ0) c a a' w hd hq) (by kernel_rfl) ?_
 have hK := KeepS.start [(x5, 0, 2), (x6, 0, 2)] hS
 have hR := hS
 have hP0 := hP
 replace hP := PK.up hR hP
 replace hS := hR.root
 refine MV.step0 (i := 0) rfl (VAL.move rfl) rfl rfl rfl ?_
 refine MV.lift1 (i := 1) rfl hK (V.ldAQ hS h11 rfl agg37) rfl rfl rfl [] (by kernel_rfl) fun x8 h12 => ?_
 refine MV.lift1 (i := 3) rfl hK (V.ldAQ hS h12 rfl agg37) rfl rfl rfl [1] (by kernel_rfl) fun x9 h13 => ?_
 refine MV.force (i := 2) rfl ?_
 refine LV.call hS h13 (g43_ok _ _ _ _ ) hP rfl rfl rfl rfl fun x10 T8 n8 h14 ρ its hS => ?_
 obtain ⟨hK, h15⟩ := KeepS.step hR hS h14
 refine LV.nextM [3] (by kernel_rfl) (fun _ => hK) ?_
 refine MV.force (i := 4) rfl ?_
 refine LV.call hS h15 (g43_ok _ _ _ _ ) hP rfl rfl rfl rfl fun x11 T9 n9 h16 ρ its hS => ?_
 refine LV.nextM [] (by kernel_rfl) (fun z => absurd rfl z) ?_
 refine MV.force (i := 5) rfl ?_
 refine LV.bslice hS h16 rfl rfl el89 rfl rfl rfl rfl fun x12 T10 n10 h17 ρ its hS hdr => ?_
 refine LV.nextM [] (by kernel_rfl) (fun z => absurd rfl z) ?_
 refine MV.force (i := 6) rfl ?_
 refine LV.call hS h17 (g41_ok _ _ _ _ _ ) hP rfl rfl rfl rfl fun x13 T11 n11 h18 ρ its hS => ?_
 refine LV.nextM [] (by kernel_rfl) (fun z => absurd rfl z) ?_
 replace hS := hR.up hS
 replace hP := hP0
 refine mdn (CV.seq (CV.seq ?_))
 refine CV.regionMS hS [(x7, 0, 2)] [(0, .held), (1, .alone), (2, .alone), (3, .alone)] rfl (fun c a a' w hd hq => PanicOk.root (P := prog) (fn := f45) (w0 := w0) (base := base) (E := envE) (ro := ro) (r := r) (T' := T') (n' := n') (ρ0 := ρ0) c a a' w hd hq) (by kernel_rfl) ?_
 have hK := KeepS.start [(x7, 0, 2)] hS
 have hR := hS
 have hP0 := hP
 replace hP := PK.up hR hP
 replace hS := hR.root
 refine MV.lift1 (i := 0) rfl hK (V.ldAQ hS h18 rfl agg37) rfl rfl rfl [] (by kernel_rfl) fun x14 h19 => ?_
 refine MV.force (i := 1) rfl ?_
 refine LV.call hS h19 (g10_ok _ _ _ _ ) hP rfl rfl rfl rfl fun x15 T12 n12 h20 ρ its hS => ?_
 obtain ⟨hK, h21⟩ := KeepS.step hR hS h20
 refine LV.nextM [0] (by kernel_rfl) (fun _ => hK) ?_
 refine MV.force (i := 2) rfl ?_
 refine LV.call hS h21 (g26_ok _ _ _ _ _ ) hP rfl rfl rfl rfl fun x16 T13 n13 h22 ρ its hS => ?_
 refine LV.nextM [] (by kernel_rfl) (fun z => absurd rfl z) ?_
 refine MV.force (i := 3) rfl ?_
 refine vy (V.ne h22 rfl rfl) fun x17 h23 => ?_
 refine LV.nextM [] (by kernel_rfl) (fun z => absurd rfl z) ?_
 replace hS := hR.up hS
 replace hP := hP0
 refine mdn ?_
 refine CV.cond h23 rfl (fun e h24 => ?_) (fun e h24 => ?_)
 ·
  subst e
  cases h24
 subst e
 refine CV.skip (PV.thenN (CV.region ?_))
 refine mv ?_
 refine LV.bslice hS h24 rfl rfl el89 rfl rfl rfl rfl fun x18 T14 n14 h25 ρ its hS hdr => ?_
 refine LV.call hS h25 (g41_ok _ _ _ _ _ ) hP rfl rfl rfl rfl fun x19 T15 n15 h26 ρ its hS => ?_
 refine LV.done ?_
 cases h26
 exact PV.ret (by simp) results45 hS RS.nil rfl
def g21 (ih : FuncId → List HT → List AV → HT → Nat → R) (ro : List HT) (a0 a1 a2 : AV) (T : HT) (nx : Nat) : R :=
 callK (g40 ro a0 T nx) fun x1 T1 n1 =>
 condK 210003 x1
 (
  .ok (.val (.tup [])) T1 n1
 )
 (
  asK 210005 a1 84 (.tup [.lit (.agg #[]), .lit (.bool false)]) fun x2 =>
  exK 210006 x2 1 fun x3 =>
  exK 210007 x2 0 fun x4 =>
  condK 210008 x3
  (
   newK T1 n1 (.obj [] 84) fun x5 T2 n2 =>
   st0K 210010 x5 x4 <|
   bsK 210012 T2 n2 1 9 1 [(0, (.lit (.string ⟨⟨[78, 111, 110, 101]⟩⟩)))] fun x6 T3 n3 =>
   callK (g41 ro a0 x6 T3 n3) fun x7 T4 n4 =>
   .ok (.val (.tup [])) T4 n4
  )
  (
   asK 210014 a1 77 (.tup [.lit (.bool false), .lit (.bool false)]) fun x8 =>
   exK 210015 x8 1 fun x9 =>
   exK 210016 x8 0 fun x10 =>
   condK 210017 x9
   (
    callK (g42 ro a0 x10 T1 n1) fun x11 T5 n5 =>
    .ok (.val (.tup [])) T5 n5
   )
   (
    asK 210022 a1 58 (.tup [.lit (.agg #[.bool false, .slice none 0 0]), .lit (.bool false)]) fun x12 =>
    exK 210023 x12 1 fun x13 =>
    exK 210024 x12 0 fun x14 =>
    condK 210025 x13
    (
     newK T1 n1 (.obj [.lit (.bool false), .lit (.slice none 0 0)] 58) fun x15 T6 n6 =>
     stAK 210027 T6 x15 x14 2 fun T7 =>
     faK 210029 x15 0 fun x16 =>
     ldAK 210030 T7 ro x16 2 fun x17 =>
     callK (g43 ro x17 T7 n6) fun x18 T8 n8 =>
     bsK 210032 T8 n8 1 9 1 [(0, x18)] fun x19 T9 n9 =>
     callK (g41 ro a0 x19 T9 n9) fun x20 T10 n10 =>
     .ok (.val (.tup [])) T10 n10
    )
    (
     asK 210034 a1 62 (.tup [.lit (.string ⟨#[]⟩), .lit (.bool false)]) fun x21 =>
     exK 210035 x21 1 fun x22 =>
     exK 210036 x21 0 fun x23 =>
     condK 210037 x22
     (
      callK (g44 ro x23 T1 n1) fun x24 T11 n11 =>
      bsK 210042 T11 n11 1 9 1 [(0, x24)] fun x25 T12 n12 =>
      callK (g41 ro a0 x25 T12 n12) fun x26 T13 n13 =>
      .ok (.val (.tup [])) T13 n13
     )
     (
      asIK 210044 a1 [] [44, 58, 62, 80, 84, 85, 139] fun x27 =>
      exK 210045 x27 1 fun x28 =>
      exK 210046 x27 0 fun x29 =>
      condK 210047 x28
      (
       callK (ifcK 210051 x29 fun tr xr => .bad 210051) fun x30 T14 n14 =>
       bsK 210052 T14 n14 3 9 1 [(0, (.lit (.string ⟨⟨[60, 102, 117, 110, 99, 116, 105, 111, 110, 32]⟩⟩))), (1, x30), (2, (.lit (.string ⟨⟨[62]⟩⟩)))] fun x31 T15 n15 =>
       callK (g41 ro a0 x31 T15 n15) fun x32 T16 n16 =>
       .ok (.val (.tup [])) T16 n16
      )
      (
       asIK 210054 a1 [] [44, 58, 62, 80, 84, 85, 139] fun x33 =>
       exK 210055 x33 1 fun x34 =>
       exK 210056 x33 0 fun x35 =>
       condK 210057 x34
       (
        callK (g45 ro a0 x35 T1 n1) fun x36 T17 n17 =>
        .ok (.val (.tup [])) T17 n17
       )
       (
        asIK 210062 a1 [] [44, 58, 62, 80, 84, 85, 139] fun x37 =>
        exK 210063 x37 1 fun x38 =>
        exK 210064 x37 0 fun x39 =>
        condK 210065 x38
        (
         callK (ifcK 210068 x39 fun tr xr => .bad 210068) fun x40 T18 n18 =>
         exK 210070 x40 0 fun x41 =>
         exK 210071 x40 1 fun x42 =>
         bsK 210075 T18 n18 1 9 1 [(0, (.lit (.string ⟨⟨[100, 101, 112, 115, 101, 116, 40, 91]⟩⟩)))] fun x43 T19 n19 =>
         callK (g41 ro a0 x43 T19 n19) fun x44 T20 n20 =>
         callK (ih 46 ro [a0, x41, a2] T20 n20) fun x45 T21 n21 =>
         bsK 210082 T21 n21 1 9 1 [(0, (.lit (.string ⟨⟨[93, 41]⟩⟩)))] fun x46 T22 n22 =>
         callK (g41 ro a0 x46 T22 n22) fun x47 T23 n23 =>
         .ok (.val (.tup [])) T23 n23
        )
        (
         callK (ih 47 ro [a0, a1, a2] T1 n1) fun x48 T24 n24 =>
         .ok (.val (.tup [])) T24 n24
        )
       )
      )
     )
    )
   )
  )
 )
theorem g21_ok (ih : FuncId → List HT → List AV → HT → Nat → R) (hI : ∀ f ro args T nx, GOk prog envE f args ro T nx (ih f ro args T nx)) (ro : List HT) (a0 a1 a2 : AV) (T : HT) (nx : Nat) : GOk prog envE 21 [a0, a1, a2] ro T nx (g21 ih ro a0 a1 a2 T nx) := by
 refine GOk.of_body func21 rfl ntmps21 (by kernel_rfl) rfl fun r T' n' h1 w0 base ρ0 its hS hP => ?_
 have X : CtxW envE ρ0 ro r T' n' := trivial
 unfold g21 at h1
 refine CV.seq (sr ?_)
 refine mv ?_
 refine LV.call hS h1 (g40_ok _ _ _ _ ) hP rfl rfl rfl rfl fun x1 T1 n1 h2 ρ its hS => ?_
 refine dn ?_
 refine CV.cond h2 rfl (fun e h3 => ?_) (fun e h3 => ?_)
 ·
  subst e
  refine CV.ret (PV.thenR ?_)
  cases h3
  exact PV.ret (by simp) results21 hS RS.nil rfl
 subst e
 refine CV.skip (PV.thenN (sr ?_))
 refine mv ?_
 refine dn (CV.block (sr ?_))
 refine vy (V.as h3 rfl ni84 za84) fun x2 h4 => ?_
 refine vy (V.ex h4 rfl) fun x3 h5 => ?_
 refine vy (V.ex h5 rfl) fun x4 h6 => ?_
 refine dn ?_
 refine CV.cond h6 rfl (fun e h7 => ?_) (fun e h7 => ?_)
 ·
  subst e
  refine sr ?_
  refine LV.alloc hS h7 rfl zr84 rfl rfl rfl fun x5 T2 n2 h8 ρ its hS hdr => ?_
  refine LV.st0 h8 rfl rfl rfl agg84 rfl rfl fun h9 => ?_
  refine dn (CV.region ?_)
  refine mv ?_
  refine LV.bslice hS h9 rfl rfl el89 rfl rfl rfl rfl fun x6 T3 n3 h10 ρ its hS hdr => ?_
  refine LV.call hS h10 (g41_ok _ _ _ _ _ ) hP rfl rfl rfl rfl fun x7 T4 n4 h11 ρ its hS => ?_
  refine LV.done (PV.blockN ?_)
  cases h11
  exact PV.ret (by simp) results21 hS RS.nil rfl
 subst e
 refine sr ?_
 refine vy (V.as h7 rfl ni77 za77) fun x8 h12 => ?_
 refine vy (V.ex h12 rfl) fun x9 h13 => ?_
 refine vy (V.ex h13 rfl) fun x10 h14 => ?_
 refine dn ?_
 refine CV.cond h14 rfl (fun e h15 => ?_) (fun e h15 => ?_)
 ·
  subst e
  refine sr ?_
  refine as_ ?_
  refine dn (CV.region ?_)
  iterate 2 refine mv ?_
  refine LV.call hS h15 (g42_ok _ _ _ _ _ ) hP rfl rfl rfl rfl fun x11 T5 n5 h16 ρ its hS => ?_
  refine LV.done (PV.blockN ?_)
  cases h16
  exact PV.ret (by simp) results21 hS RS.nil rfl
 subst e
 refine sr ?_
 refine vy (V.as h15 rfl ni58 za58) fun x12 h17 => ?_
 refine vy (V.ex h17 rfl) fun x13 h18 => ?_
 refine vy (V.ex h18 rfl) fun x14 h19 => ?_
 refine dn ?_
 refine CV.cond h19 rfl (fun e h20 => ?_) (fun e h20 => ?_)
 ·
  subst e
  refine sr ?_
  refine LV.alloc hS h20 rfl zr58 rfl rfl rfl fun x15 T6 n6 h21 ρ its hS hdr => ?_
  refine LV.stA hS h21 rfl rfl rfl agg58 rfl rfl rfl fun T7 its h22 hS => ?_
  refine dn (CV.region ?_)
  refine mv ?_
  refine vy (V.fa h22 rfl fo58_1) fun x16 h23 => ?_
  refine vy (V.ldA hS h23 rfl agg37) fun x17 h24 => ?_
  refine LV.call hS h24 (g43_ok _ _ _ _ ) hP rfl rfl rfl rfl fun x18 T8 n8 h25 ρ its hS => ?_
  refine LV.bslice hS h25 rfl rfl el89 rfl rfl rfl rfl fun x19 T9 n9 h26 ρ its hS hdr => ?_
  refine LV.call hS h26 (g41_ok _ _ _ _ _ ) hP rfl rfl rfl rfl fun x20 T10 n10 h27 ρ its hS => ?_
  refine LV.done (PV.blockN ?_)
  cases h27
  exact PV.ret (by simp) results21 hS RS.nil rfl
 subst e
 refine sr ?_
 refine vy (V.as h20 rfl ni62 za62) fun x21 h28 => ?_
 refine vy (V.ex h28 rfl) fun x22 h29 => ?_
 refine vy (V.ex h29 rfl) fun x23 h30 => ?_
 refine dn ?_
 refine CV.cond h30 rfl (fun e h31 => ?_) (fun e h31 => ?_)
 ·
  subst e
  refine sr ?_
  refine as_ ?_
  refine dn (CV.region ?_)
  iterate 2 refine mv ?_
  refine LV.call hS h31 (g44_ok _ _ _ _ ) hP rfl rfl rfl rfl fun x24 T11 n11 h32 ρ its hS => ?_
  refine LV.bslice hS h32 rfl rfl el89 rfl rfl rfl rfl fun x25 T12 n12 h33 ρ its hS hdr => ?_
  refine LV.call hS h33 (g41_ok _ _ _ _ _ ) hP rfl rfl rfl rfl fun x26 T13 n13 h34 ρ its hS => ?_
  refine LV.done (PV.blockN ?_)
  cases h34
  exact PV.ret (by simp) results21 hS RS.nil rfl
 subst e
 refine sr ?_
 refine vy (V.asI h31 rfl ii113 zw113 hi113_y_ hi113_n_44_58_62_80_84_85_139) fun x27 h35 => ?_
 refine vy (V.ex h35 rfl) fun x28 h36 => ?_
 refine vy (V.ex h36 rfl) fun x29 h37 => ?_
 refine dn ?_
 refine CV.cond h37 rfl (fun e h38 => ?_) (fun e h38 => ?_)
 ·
  subst e
  refine sr ?_
  refine as_ ?_
  refine dn (CV.region ?_)
  iterate 2 refine mv ?_
  refine LV.inv hS h38 (GMk.ifc fun tr xr _ => GMk.bad) hP rfl rfl rfl rfl rfl rfl rfl fun x30 T14 n14 h39 ρ its hS => ?_
  refine LV.bslice hS h39 rfl rfl el89 rfl rfl rfl rfl fun x31 T15 n15 h40 ρ its hS hdr => ?_
  refine LV.call hS h40 (g41_ok _ _ _ _ _ ) hP rfl rfl rfl rfl fun x32 T16 n16 h41 ρ its hS => ?_
  refine LV.done (PV.blockN ?_)
  cases h41
  exact PV.ret (by simp) results21 hS RS.nil rfl
 subst e
 refine sr ?_
 refine vy (V.asI h38 rfl ii93 zw93 hi93_y_ hi93_n_44_58_62_80_84_85_139) fun x33 h42 => ?_
 refine vy (V.ex h42 rfl) fun x34 h43 => ?_
 refine vy (V.ex h43 rfl) fun x35 h44 => ?_
 refine dn ?_
 refine CV.cond h44 rfl (fun e h45 => ?_) (fun e h45 => ?_)
 ·
  subst e
  refine sr ?_
  refine as_ ?_
  refine dn (CV.region ?_)
  iterate 2 refine mv ?_
  refine LV.call hS h45 (g45_ok _ _ _ _ _ ) hP rfl rfl rfl rfl fun x36 T17 n17 h46 ρ its hS => ?_
  refine LV.done (PV.blockN ?_)
  cases h46
  exact PV.ret (by simp) results21 hS RS.nil rfl
 subst e
 refine sr ?_
 refine vy (V.asI h45 rfl ii116 zw116 hi116_y_ hi116_n_44_58_62_80_84_85_139) fun x37 h47 => ?_
 refine vy (V.ex h47 rfl) fun x38 h48 => ?_
 refine vy (V.ex h48 rfl) fun x39 h49 => ?_
 refine dn ?_
 refine CV.cond h49 rfl (fun e h50 => ?_) (fun e h50 => ?_)
 ·
  subst e
  refine sr ?_
  refine as_ ?_
  refine dn (sr ?_)
  refine mv ?_
  refine LV.inv hS h50 (GMk.ifc fun tr xr _ => GMk.bad) hP rfl rfl rfl rfl rfl rfl rfl fun x40 T18 n18 h51 ρ its hS => ?_
  refine mv ?_
  refine vy (V.ex h51 rfl) fun x41 h52 => ?_
  refine vy (V.ex h52 rfl) fun x42 h53 => ?_
  iterate 2 refine as_ ?_
  refine dn (sr ?_)
  refine mv ?_
  refine LV.bslice hS h53 rfl rfl el89 rfl rfl rfl rfl fun x43 T19 n19 h54 ρ its hS hdr => ?_
  refine LV.call hS h54 (g41_ok _ _ _ _ _ ) hP rfl rfl rfl rfl fun x44 T20 n20 h55 ρ its hS => ?_
  refine dn (sr ?_)
  iterate 3 refine mv ?_
  refine LV.call hS h55 (hI _ _ _ _ _) hP rfl rfl rfl rfl fun x45 T21 n21 h56 ρ its hS => ?_
  refine dn (CV.region ?_)
  refine mv ?_
  refine LV.bslice hS h56 rfl rfl el89 rfl rfl rfl rfl fun x46 T22 n22 h57 ρ its hS hdr => ?_
  refine LV.call hS h57 (g41_ok _ _ _ _ _ ) hP rfl rfl rfl rfl fun x47 T23 n23 h58 ρ its hS => ?_
  refine LV.done (PV.blockN ?_)
  cases h58
  exact PV.ret (by simp) results21 hS RS.nil rfl
 subst e
 refine sr ?_
 refine as_ ?_
 refine dn (CV.region ?_)
 iterate 3 refine mv ?_
 refine LV.call hS h50 (hI _ _ _ _ _) hP rfl rfl rfl rfl fun x48 T24 n24 h59 ρ its hS => ?_
 refine LV.done (PV.blockN ?_)
 cases h59
 exact PV.ret (by simp) results21 hS RS.nil rfl
def g46_k2 (ih : FuncId → List HT → List AV → HT → Nat → R) (ro : List HT) (lp1 : AV → AV → AV → AV → AV → HT → Nat → R) (y0 y2 y7 y8 y9 y10 : AV) (T3 : HT) (n3 : Nat) : R :=
 callK (ih 21 ro [y0, y7, y2] T3 n3) fun x6 T4 n4 =>
 addK prog 3 (.tmp 10) (.const (.int .i64 (.ofNat 1))) 460019 y10 (.lit (.int .i64 (.ofNat 1))) fun x7 =>
 lp1 y0 y2 y8 y9 x7 T4 n4
def g46_b1 (ih : FuncId → List HT → List AV → HT → Nat → R) (ro : List HT) (lp1 : AV → AV → AV → AV → AV → HT → Nat → R) (y0 y2 y8 y9 y10 : AV) (T1 : HT) (n1 : Nat) : R :=
 ltK prog 3 (.tmp 10) (.tmp 9) 460005 y10 y9 fun x2 =>
 condK 460006 x2
 (
  iaK 460008 y8 y10 1 fun x3 =>
  ldK 460009 T1 ro x3 fun x4 =>
  callK (g40 ro y0 T1 n1) fun x5 T2 n2 =>
  condK 460014 x5
  (
   .ok (.val (.tup [])) T2 n2
  )
  (
   gtK prog 3 (.tmp 17) (.const (.int .i64 (.ofNat 0))) 460022 y10 (.lit (.int .i64 (.ofNat 0))) fun x8 =>
   condK 460023 x8
   (
    bsK 460025 T2 n2 1 9 1 [(0, (.lit (.string ⟨⟨[44, 32]⟩⟩)))] fun x9 T5 n5 =>
    callK (g41 ro y0 x9 T5 n5) fun x10 T6 n6 =>
    g46_k2 ih ro lp1 y0 y2 x4 y8 y9 y10 T6 n6
   )
   (
    g46_k2 ih ro lp1 y0 y2 x4 y8 y9 y10 T2 n2
   )
  )
 )
 (
  .ok (.val (.tup [])) T1 n1
 )
def g46 (ih : FuncId → List HT → List AV → HT → Nat → R) (ro : List HT) (a0 a1 a2 : AV) (T : HT) (nx : Nat) : R :=
 lenSK 460002 a1 fun x1 =>
 lpf5 460004 (g46_b1 ih ro) 100000 a0 a2 a1 x1 (.lit (.int .i64 (.ofNat 0))) T nx
theorem g46_ok (ih : FuncId → List HT → List AV → HT → Nat → R) (hI : ∀ f ro args T nx, GOk prog envE f args ro T nx (ih f ro args T nx)) (ro : List HT) (a0 a1 a2 : AV) (T : HT) (nx : Nat) : GOk prog envE 46 [a0, a1, a2] ro T nx (g46 ih ro a0 a1 a2 T nx) := by
 refine GOk.of_body func46 rfl ntmps46 (by kernel_rfl) rfl fun r T' n' h1 w0 base ρ0 its hS hP => ?_
 have X : CtxW envE ρ0 ro r T' n' := trivial
 unfold g46 at h1
 refine sr ?_
 refine mv ?_
 refine vy (V.lenS h1 rfl ls42) fun x1 h2 => ?_
 refine mv ?_
 refine dn (CV.block ?_)
 refine cl5 X 0 2 8 9 10 [] hS h2 ⟨rfl, rfl, rfl, rfl, rfl, trivial⟩ ?_
 intro f1 y0 y2 y8 y9 y10 T1 n1 ρ its hS h3
 unfold g46_b1 at h3
 refine sr ?_
 refine vy (V.lt h3 rfl rfl) fun x2 h4 => ?_
 refine dn (CV.seq ?_)
 refine CV.cond h4 rfl (fun e h5 => ?_) (fun e h5 => ?_)
 ·
  subst e
  refine CV.skip (PV.thenN (CV.seq (CV.block (sr ?_))))
  refine mv ?_
  refine vy (V.ia h5 rfl rfl el42) fun x3 h6 => ?_
  refine vy (V.ld hS h6 rfl one25) fun x4 h7 => ?_
  iterate 2 refine as_ ?_
  refine dn (CV.seq (sr ?_))
  refine mv ?_
  refine LV.call hS h7 (g40_ok _ _ _ _ ) hP rfl rfl rfl rfl fun x5 T2 n2 h8 ρ its hS => ?_
  refine dn ?_
  refine CV.cond h8 rfl (fun e h9 => ?_) (fun e h9 => ?_)
  ·
   subst e
   refine CV.ret (PV.thenR (PV.blockR (PV.thenR (PV.thenR (PV.blockR ?_)))))
   cases h9
   exact PV.ret (by simp) results46 hS RS.nil rfl
  subst e
  refine CV.skip (PV.thenN ?_)
  refine cs6 X 0 2 7 8 9 10 [] (g46_k2 ih ro (lpf5 460004 (g46_b1 ih ro) f1)) ?_ ?_
  ·
   refine sr ?_
   refine mv ?_
   refine vy (V.gt h9 rfl rfl) fun x8 h13 => ?_
   refine dn ?_
   refine CV.cond h13 rfl (fun e h14 => ?_) (fun e h14 => ?_)
   ·
    subst e
    refine CV.region ?_
    refine mv ?_
    refine LV.bslice hS h14 rfl rfl el89 rfl rfl rfl rfl fun x9 T5 n5 h15 ρ its hS hdr => ?_
    refine LV.call hS h15 (g41_ok _ _ _ _ _ ) hP rfl rfl rfl rfl fun x10 T6 n6 h16 ρ its hS => ?_
    refine LV.done ?_
    exact pa6 hS h16 ⟨rfl, rfl, rfl, rfl, rfl, rfl, trivial⟩
   subst e
   refine CV.skip ?_
   exact pa6 hS h14 ⟨rfl, rfl, rfl, rfl, rfl, rfl, trivial⟩
  intro y0 y2 y7 y8 y9 y10 T3 n3 ρ its hS h10
  unfold g46_k2 at h10
  refine CV.region ?_
  iterate 3 refine mv ?_
  refine LV.call hS h10 (hI _ _ _ _ _) hP rfl rfl rfl rfl fun x6 T4 n4 h11 ρ its hS => ?_
  refine LV.done (PV.blockN (PV.thenN (CV.region ?_)))
  refine vy (V.add h11 rfl rfl) fun x7 h12 => ?_
  refine mv ?_
  refine LV.done ?_
  exact pb5 hS h12 ⟨rfl, rfl, rfl, rfl, rfl, trivial⟩
 subst e
 refine CV.exit (PV.thenE (PV.thenE (PV.blockE ?_)))
 cases h5
 exact PV.ret (by simp) results46 hS RS.nil rfl
def g47_k1 (ih : FuncId → List HT → List AV → HT → Nat → R) (ro : List HT) (y0 : AV) (T9 : HT) (n9 : Nat) : R :=
 bsK 470038 T9 n9 1 9 1 [(0, (.lit (.string ⟨⟨[41]⟩⟩)))] fun x20 T10 n10 =>
 callK (g41 ro y0 x20 T10 n10) fun x21 T11 n11 =>
 .ok (.val (.tup [])) T11 n11
def g47_b2 (ih : FuncId → List HT → List AV → HT → Nat → R) (ro : List HT) (lp2 : AV → AV → AV → AV → AV → HT → Nat → R) (y0 y2 y72 y73 y74 : AV) (T16 : HT) (n16 : Nat) : R :=
 ltK prog 3 (.tmp 74) (.tmp 73) 470061 y74 y73 fun x34 =>
 condK 470062 x34
 (
  iaK 470064 y72 y74 1 fun x35 =>
  ldK 470065 T16 ro x35 fun x36 =>
  gtK prog 3 (.tmp 79) (.const (.int .i64 (.ofNat 0))) 470069 y74 (.lit (.int .i64 (.ofNat 0))) fun x37 =>
  condK 470070 x37
  (
   .bad 470071
  )
  (
   fldK 470074 T16 ro x36 1 fun x38 =>
   addK prog 3 (.tmp 89) (.const (.int .i64 (.ofNat 1))) 470076 y2 (.lit (.int .i64 (.ofNat 1))) fun x39 =>
   callK (ih 21 ro [y0, x38, x39] T16 n16) fun x40 T17 n17 =>
   bsK 470079 T17 n17 1 9 1 [(0, (.lit (.string ⟨⟨[58, 32]⟩⟩)))] fun x41 T18 n18 =>
   callK (g41 ro y0 x41 T18 n18) fun x42 T19 n19 =>
   fldK 470083 T19 ro x36 2 fun x43 =>
   addK prog 3 (.tmp 100) (.const (.int .i64 (.ofNat 1))) 470085 y2 (.lit (.int .i64 (.ofNat 1))) fun x44 =>
   callK (ih 21 ro [y0, x43, x44] T19 n19) fun x45 T20 n20 =>
   addK prog 3 (.tmp 74) (.const (.int .i64 (.ofNat 1))) 470087 y74 (.lit (.int .i64 (.ofNat 1))) fun x46 =>
   lp2 y0 y2 y72 y73 x46 T20 n20
  )
 )
 (
  bsK 470090 T16 n16 1 9 1 [(0, (.lit (.string ⟨⟨[125]⟩⟩)))] fun x47 T21 n21 =>
  callK (g41 ro y0 x47 T21 n21) fun x48 T22 n22 =>
  .ok (.val (.tup [])) T22 n22
 )
def g47_b3 (ih : FuncId → List HT → List AV → HT → Nat → R) (ro : List HT) (lp3 : AV → AV → AV → AV → AV → AV → HT → Nat → R) (y0 y2 y11 y116 y117 y118 : AV) (T25 : HT) (n25 : Nat) : R :=
 ltK prog 3 (.tmp 118) (.tmp 117) 470105 y118 y117 fun x56 =>
 condK 470106 x56
 (
  iaK 470108 y116 y118 1 fun x57 =>
  ldK 470109 T25 ro x57 fun x58 =>
  gtK prog 3 (.tmp 123) (.const (.int .i64 (.ofNat 0))) 470113 y118 (.lit (.int .i64 (.ofNat 0))) fun x59 =>
  condK 470114 x59
  (
   .bad 470115
  )
  (
   bsK 470118 T25 n25 2 9 1 [(0, x58), (1, (.lit (.string ⟨⟨[32, 61, 32]⟩⟩)))] fun x60 T26 n26 =>
   callK (g41 ro y0 x60 T26 n26) fun x61 T27 n27 =>
   fldK 470122 T27 ro y11 1 fun x62 =>
   iaK 470124 x62 y118 1 fun x63 =>
   ldK 470125 T27 ro x63 fun x64 =>
   addK prog 3 (.tmp 140) (.const (.int .i64 (.ofNat 1))) 470127 y2 (.lit (.int .i64 (.ofNat 1))) fun x65 =>
   callK (ih 21 ro [y0, x64, x65] T27 n27) fun x66 T28 n28 =>
   addK prog 3 (.tmp 118) (.const (.int .i64 (.ofNat 1))) 470129 y118 (.lit (.int .i64 (.ofNat 1))) fun x67 =>
   lp3 y0 y2 y11 y116 y117 x67 T28 n28
  )
 )
 (
  bsK 470132 T25 n25 1 9 1 [(0, (.lit (.string ⟨⟨[41]⟩⟩)))] fun x68 T29 n29 =>
  callK (g41 ro y0 x68 T29 n29) fun x69 T30 n30 =>
  .ok (.val (.tup [])) T30 n30
 )
def g47 (ih : FuncId → List HT → List AV → HT → Nat → R) (ro : List HT) (a0 a1 a2 : AV) (T : HT) (nx : Nat) : R :=
 geK prog 3 (.tmp 14) (.const (.int .i64 (.ofNat 60))) 470002 a2 (.lit (.int .i64 (.ofNat 60))) fun x1 =>
 condK 470003 x1
 (
  .bad 470004
 )
 (
  asK 470006 a1 44 (.tup [.lit (.pointer none), .lit (.bool false)]) fun x2 =>
  exK 470007 x2 1 fun x3 =>
  exK 470008 x2 0 fun x4 =>
  condK 470009 x3
  (
   bsK 470012 T nx 1 9 1 [(0, (.lit (.string ⟨⟨[91]⟩⟩)))] fun x5 T1 n1 =>
   callK (g41 ro a0 x5 T1 n1) fun x6 T2 n2 =>
   fldK 470016 T2 ro x4 0 fun x7 =>
   addK prog 3 (.tmp 31) (.const (.int .i64 (.ofNat 1))) 470018 a2 (.lit (.int .i64 (.ofNat 1))) fun x8 =>
   callK (ih 46 ro [a0, x7, x8] T2 n2) fun x9 T3 n3 =>
   bsK 470021 T3 n3 1 9 1 [(0, (.lit (.string ⟨⟨[93]⟩⟩)))] fun x10 T4 n4 =>
   callK (g41 ro a0 x10 T4 n4) fun x11 T5 n5 =>
   .ok (.val (.tup [])) T5 n5
  )
  (
   asK 470023 a1 80 (.tup [.lit (.pointer none), .lit (.bool false)]) fun x12 =>
   exK 470024 x12 1 fun x13 =>
   exK 470025 x12 0 fun x14 =>
   condK 470026 x13
   (
    bsK 470029 T nx 1 9 1 [(0, (.lit (.string ⟨⟨[40]⟩⟩)))] fun x15 T6 n6 =>
    callK (g41 ro a0 x15 T6 n6) fun x16 T7 n7 =>
    fldK 470033 T7 ro x14 0 fun x17 =>
    addK prog 3 (.tmp 48) (.const (.int .i64 (.ofNat 1))) 470035 a2 (.lit (.int .i64 (.ofNat 1))) fun x18 =>
    callK (ih 46 ro [a0, x17, x18] T7 n7) fun x19 T8 n8 =>
    fldK 470041 T8 ro x14 0 fun x22 =>
    lenSK 470042 x22 fun x23 =>
    eqK prog 3 (.tmp 55) (.const (.int .i64 (.ofNat 1))) 470043 x23 (.lit (.int .i64 (.ofNat 1))) fun x24 =>
    condK 470044 x24
    (
     bsK 470046 T8 n8 1 9 1 [(0, (.lit (.string ⟨⟨[44]⟩⟩)))] fun x25 T12 n12 =>
     callK (g41 ro a0 x25 T12 n12) fun x26 T13 n13 =>
     g47_k1 ih ro a0 T13 n13
    )
    (
     g47_k1 ih ro a0 T8 n8
    )
   )
   (
    asK 470048 a1 85 (.tup [.lit (.pointer none), .lit (.bool false)]) fun x27 =>
    exK 470049 x27 1 fun x28 =>
    exK 470050 x27 0 fun x29 =>
    condK 470051 x28
    (
     bsK 470054 T nx 1 9 1 [(0, (.lit (.string ⟨⟨[123]⟩⟩)))] fun x30 T14 n14 =>
     callK (g41 ro a0 x30 T14 n14) fun x31 T15 n15 =>
     fldK 470057 T15 ro x29 0 fun x32 =>
     lenSK 470058 x32 fun x33 =>
     lpf5 470060 (g47_b2 ih ro) 100000 a0 a2 x32 x33 (.lit (.int .i64 (.ofNat 0))) T15 n15
    )
    (
     asK 470092 a1 87 (.tup [.lit (.pointer none), .lit (.bool false)]) fun x49 =>
     exK 470093 x49 1 fun x50 =>
     exK 470094 x49 0 fun x51 =>
     condK 470095 x50
     (
      bsK 470098 T nx 1 9 1 [(0, (.lit (.string ⟨⟨[115, 116, 114, 117, 99, 116, 40]⟩⟩)))] fun x52 T23 n23 =>
      callK (g41 ro a0 x52 T23 n23) fun x53 T24 n24 =>
      fldK 470101 T24 ro x51 0 fun x54 =>
      lenSK 470102 x54 fun x55 =>
      lpf6 470104 (g47_b3 ih ro) 100000 a0 a2 x51 x54 x55 (.lit (.int .i64 (.ofNat 0))) T24 n24
     )
     (
      .ok (.val (.tup [])) T nx
     )
    )
   )
  )
 )
theorem g47_ok (ih : FuncId → List HT → List AV → HT → Nat → R) (hI : ∀ f ro args T nx, GOk prog envE f args ro T nx (ih f ro args T nx)) (ro : List HT) (a0 a1 a2 : AV) (T : HT) (nx : Nat) : GOk prog envE 47 [a0, a1, a2] ro T nx (g47 ih ro a0 a1 a2 T nx) := by
 refine GOk.of_body func47 rfl ntmps47 (by kernel_rfl) rfl fun r T' n' h1 w0 base ρ0 its hS hP => ?_
 have X : CtxW envE ρ0 ro r T' n' := trivial
 unfold g47 at h1
 refine CV.seq (sr ?_)
 refine mv ?_
 refine vy (V.ge h1 rfl rfl) fun x1 h2 => ?_
 refine dn ?_
 refine CV.cond h2 rfl (fun e h3 => ?_) (fun e h3 => ?_)
 ·
  subst e
  cases h3
 subst e
 refine CV.skip (PV.thenN (sr ?_))
 refine mv ?_
 refine dn (CV.block (sr ?_))
 refine vy (V.as h3 rfl ni44 za44) fun x2 h4 => ?_
 refine vy (V.ex h4 rfl) fun x3 h5 => ?_
 refine vy (V.ex h5 rfl) fun x4 h6 => ?_
 refine dn ?_
 refine CV.cond h6 rfl (fun e h7 => ?_) (fun e h7 => ?_)
 ·
  subst e
  refine sr ?_
  refine as_ ?_
  refine dn (sr ?_)
  refine mv ?_
  refine LV.bslice hS h7 rfl rfl el89 rfl rfl rfl rfl fun x5 T1 n1 h8 ρ its hS hdr => ?_
  refine LV.call hS h8 (g41_ok _ _ _ _ _ ) hP rfl rfl rfl rfl fun x6 T2 n2 h9 ρ its hS => ?_
  refine dn (sr ?_)
  iterate 2 refine mv ?_
  refine fl hS h9 fo74_1 one42 fun x7 h10 => ?_
  refine mv ?_
  refine vy (V.add h10 rfl rfl) fun x8 h11 => ?_
  refine LV.call hS h11 (hI _ _ _ _ _) hP rfl rfl rfl rfl fun x9 T3 n3 h12 ρ its hS => ?_
  refine dn (CV.region ?_)
  refine mv ?_
  refine LV.bslice hS h12 rfl rfl el89 rfl rfl rfl rfl fun x10 T4 n4 h13 ρ its hS hdr => ?_
  refine LV.call hS h13 (g41_ok _ _ _ _ _ ) hP rfl rfl rfl rfl fun x11 T5 n5 h14 ρ its hS => ?_
  refine LV.done (PV.blockN ?_)
  cases h14
  exact PV.ret (by simp) results47 hS RS.nil rfl
 subst e
 refine sr ?_
 refine vy (V.as h7 rfl ni80 za80) fun x12 h15 => ?_
 refine vy (V.ex h15 rfl) fun x13 h16 => ?_
 refine vy (V.ex h16 rfl) fun x14 h17 => ?_
 refine dn ?_
 refine CV.cond h17 rfl (fun e h18 => ?_) (fun e h18 => ?_)
 ·
  subst e
  refine sr ?_
  refine as_ ?_
  refine dn (sr ?_)
  refine mv ?_
  refine LV.bslice hS h18 rfl rfl el89 rfl rfl rfl rfl fun x15 T6 n6 h19 ρ its hS hdr => ?_
  refine LV.call hS h19 (g41_ok _ _ _ _ _ ) hP rfl rfl rfl rfl fun x16 T7 n7 h20 ρ its hS => ?_
  refine dn (sr ?_)
  iterate 2 refine mv ?_
  refine fl hS h20 fo82_1 one42 fun x17 h21 => ?_
  refine mv ?_
  refine vy (V.add h21 rfl rfl) fun x18 h22 => ?_
  refine LV.call hS h22 (hI _ _ _ _ _) hP rfl rfl rfl rfl fun x19 T8 n8 h23 ρ its hS => ?_
  refine dn ?_
  refine cs1 X 0 [] (g47_k1 ih ro) ?_ ?_
  ·
   refine sr ?_
   refine mv ?_
   refine fl hS h23 fo82_1 one42 fun x22 h27 => ?_
   refine vy (V.lenS h27 rfl ls42) fun x23 h28 => ?_
   refine vy (V.eq h28 rfl rfl) fun x24 h29 => ?_
   refine dn ?_
   refine CV.cond h29 rfl (fun e h30 => ?_) (fun e h30 => ?_)
   ·
    subst e
    refine CV.region ?_
    refine mv ?_
    refine LV.bslice hS h30 rfl rfl el89 rfl rfl rfl rfl fun x25 T12 n12 h31 ρ its hS hdr => ?_
    refine LV.call hS h31 (g41_ok _ _ _ _ _ ) hP rfl rfl rfl rfl fun x26 T13 n13 h32 ρ its hS => ?_
    refine LV.done ?_
    exact pa1 hS h32 ⟨rfl, trivial⟩
   subst e
   refine CV.skip ?_
   exact pa1 hS h30 ⟨rfl, trivial⟩
  intro y0 T9 n9 ρ its hS h24
  unfold g47_k1 at h24
  refine CV.region ?_
  refine mv ?_
  refine LV.bslice hS h24 rfl rfl el89 rfl rfl rfl rfl fun x20 T10 n10 h25 ρ its hS hdr => ?_
  refine LV.call hS h25 (g41_ok _ _ _ _ _ ) hP rfl rfl rfl rfl fun x21 T11 n11 h26 ρ its hS => ?_
  refine LV.done (PV.blockN ?_)
  cases h26
  exact PV.ret (by simp) results47 hS RS.nil rfl
 subst e
 refine sr ?_
 refine vy (V.as h18 rfl ni85 za85) fun x27 h33 => ?_
 refine vy (V.ex h33 rfl) fun x28 h34 => ?_
 refine vy (V.ex h34 rfl) fun x29 h35 => ?_
 refine dn ?_
 refine CV.cond h35 rfl (fun e h36 => ?_) (fun e h36 => ?_)
 ·
  subst e
  refine sr ?_
  refine as_ ?_
  refine dn (sr ?_)
  refine mv ?_
  refine LV.bslice hS h36 rfl rfl el89 rfl rfl rfl rfl fun x30 T14 n14 h37 ρ its hS hdr => ?_
  refine LV.call hS h37 (g41_ok _ _ _ _ _ ) hP rfl rfl rfl rfl fun x31 T15 n15 h38 ρ its hS => ?_
  refine dn (CV.seq (sr ?_))
  refine mv ?_
  refine fl hS h38 fo128_1 one125 fun x32 h39 => ?_
  refine vy (V.lenS h39 rfl ls125) fun x33 h40 => ?_
  refine mv ?_
  refine dn (CV.block ?_)
  refine cl5 X 0 2 72 73 74 [] hS h40 ⟨rfl, rfl, rfl, rfl, rfl, trivial⟩ ?_
  intro f2 y0 y2 y72 y73 y74 T16 n16 ρ its hS h41
  unfold g47_b2 at h41
  refine sr ?_
  refine vy (V.lt h41 rfl rfl) fun x34 h42 => ?_
  refine dn (CV.seq ?_)
  refine CV.cond h42 rfl (fun e h43 => ?_) (fun e h43 => ?_)
  ·
   subst e
   refine CV.skip (PV.thenN (CV.seq (CV.block (sr ?_))))
   refine mv ?_
   refine vy (V.ia h43 rfl rfl el125) fun x35 h44 => ?_
   refine vy (V.ld hS h44 rfl one129) fun x36 h45 => ?_
   iterate 2 refine as_ ?_
   refine dn (CV.seq (sr ?_))
   refine mv ?_
   refine vy (V.gt h45 rfl rfl) fun x37 h46 => ?_
   refine dn ?_
   refine CV.cond h46 rfl (fun e h47 => ?_) (fun e h47 => ?_)
   ·
    subst e
    cases h47
   subst e
   refine CV.skip (PV.thenN (sr ?_))
   iterate 2 refine mv ?_
   refine fl hS h47 fo131_1 one25 fun x38 h48 => ?_
   refine mv ?_
   refine vy (V.add h48 rfl rfl) fun x39 h49 => ?_
   refine LV.call hS h49 (hI _ _ _ _ _) hP rfl rfl rfl rfl fun x40 T17 n17 h50 ρ its hS => ?_
   refine dn (sr ?_)
   refine mv ?_
   refine LV.bslice hS h50 rfl rfl el89 rfl rfl rfl rfl fun x41 T18 n18 h51 ρ its hS hdr => ?_
   refine LV.call hS h51 (g41_ok _ _ _ _ _ ) hP rfl rfl rfl rfl fun x42 T19 n19 h52 ρ its hS => ?_
   refine dn (CV.region ?_)
   iterate 2 refine mv ?_
   refine fl hS h52 fo131_2 one25 fun x43 h53 => ?_
   refine mv ?_
   refine vy (V.add h53 rfl rfl) fun x44 h54 => ?_
   refine LV.call hS h54 (hI _ _ _ _ _) hP rfl rfl rfl rfl fun x45 T20 n20 h55 ρ its hS => ?_
   refine LV.done (PV.blockN (PV.thenN (CV.region ?_)))
   refine vy (V.add h55 rfl rfl) fun x46 h56 => ?_
   refine mv ?_
   refine LV.done ?_
   exact pb5 hS h56 ⟨rfl, rfl, rfl, rfl, rfl, trivial⟩
  subst e
  refine CV.exit (PV.thenE (PV.thenE (PV.blockE (PV.thenN (CV.region ?_)))))
  refine mv ?_
  refine LV.bslice hS h43 rfl rfl el89 rfl rfl rfl rfl fun x47 T21 n21 h57 ρ its hS hdr => ?_
  refine LV.call hS h57 (g41_ok _ _ _ _ _ ) hP rfl rfl rfl rfl fun x48 T22 n22 h58 ρ its hS => ?_
  refine LV.done (PV.blockN ?_)
  cases h58
  exact PV.ret (by simp) results47 hS RS.nil rfl
 subst e
 refine sr ?_
 refine vy (V.as h36 rfl ni87 za87) fun x49 h59 => ?_
 refine vy (V.ex h59 rfl) fun x50 h60 => ?_
 refine vy (V.ex h60 rfl) fun x51 h61 => ?_
 refine dn ?_
 refine CV.cond h61 rfl (fun e h62 => ?_) (fun e h62 => ?_)
 ·
  subst e
  refine sr ?_
  refine as_ ?_
  refine dn (sr ?_)
  refine mv ?_
  refine LV.bslice hS h62 rfl rfl el89 rfl rfl rfl rfl fun x52 T23 n23 h63 ρ its hS hdr => ?_
  refine LV.call hS h63 (g41_ok _ _ _ _ _ ) hP rfl rfl rfl rfl fun x53 T24 n24 h64 ρ its hS => ?_
  refine dn (CV.seq (sr ?_))
  refine mv ?_
  refine fl hS h64 fo91_1 one89 fun x54 h65 => ?_
  refine vy (V.lenS h65 rfl ls89) fun x55 h66 => ?_
  refine mv ?_
  refine dn (CV.block ?_)
  refine cl6 X 0 2 11 116 117 118 [] hS h66 ⟨rfl, rfl, rfl, rfl, rfl, rfl, trivial⟩ ?_
  intro f3 y0 y2 y11 y116 y117 y118 T25 n25 ρ its hS h67
  unfold g47_b3 at h67
  refine sr ?_
  refine vy (V.lt h67 rfl rfl) fun x56 h68 => ?_
  refine dn (CV.seq ?_)
  refine CV.cond h68 rfl (fun e h69 => ?_) (fun e h69 => ?_)
  ·
   subst e
   refine CV.skip (PV.thenN (CV.seq (CV.block (sr ?_))))
   refine mv ?_
   refine vy (V.ia h69 rfl rfl el89) fun x57 h70 => ?_
   refine vy (V.ld hS h70 rfl one9) fun x58 h71 => ?_
   iterate 2 refine as_ ?_
   refine dn (CV.seq (sr ?_))
   refine mv ?_
   refine vy (V.gt h71 rfl rfl) fun x59 h72 => ?_
   refine dn ?_
   refine CV.cond h72 rfl (fun e h73 => ?_) (fun e h73 => ?_)
   ·
    subst e
    cases h73
   subst e
   refine CV.skip (PV.thenN (sr ?_))
   iterate 2 refine mv ?_
   refine LV.bslice hS h73 rfl rfl el89 rfl rfl rfl rfl fun x60 T26 n26 h74 ρ its hS hdr => ?_
   refine LV.call hS h74 (g41_ok _ _ _ _ _ ) hP rfl rfl rfl rfl fun x61 T27 n27 h75 ρ its hS => ?_
   refine dn (CV.region ?_)
   iterate 2 refine mv ?_
   refine fl hS h75 fo91_2 one42 fun x62 h76 => ?_
   refine mv ?_
   refine vy (V.ia h76 rfl rfl el42) fun x63 h77 => ?_
   refine vy (V.ld hS h77 rfl one25) fun x64 h78 => ?_
   refine mv ?_
   refine vy (V.add h78 rfl rfl) fun x65 h79 => ?_
   refine LV.call hS h79 (hI _ _ _ _ _) hP rfl rfl rfl rfl fun x66 T28 n28 h80 ρ its hS => ?_
   refine LV.done (PV.blockN (PV.thenN (CV.region ?_)))
   refine vy (V.add h80 rfl rfl) fun x67 h81 => ?_
   refine mv ?_
   refine LV.done ?_
   exact pb6 hS h81 ⟨rfl, rfl, rfl, rfl, rfl, rfl, trivial⟩
  subst e
  refine CV.exit (PV.thenE (PV.thenE (PV.blockE (PV.thenN (CV.region ?_)))))
  refine mv ?_
  refine LV.bslice hS h69 rfl rfl el89 rfl rfl rfl rfl fun x68 T29 n29 h82 ρ its hS hdr => ?_
  refine LV.call hS h82 (g41_ok _ _ _ _ _ ) hP rfl rfl rfl rfl fun x69 T30 n30 h83 ρ its hS => ?_
  refine LV.done (PV.blockN ?_)
  cases h83
  exact PV.ret (by simp) results47 hS RS.nil rfl
 subst e
 refine CV.skip (PV.blockN ?_)
 cases h62
 exact PV.ret (by simp) results47 hS RS.nil rfl
def ap7 (ih : FuncId → List HT → List AV → HT → Nat → R) (f : FuncId) (ro : List HT) (args : List AV) (T : HT) (nx : Nat) : R :=
  Bool.rec (motive := fun _ => R) (Bool.rec (motive := fun _ => R) (Bool.rec (motive := fun _ => R) (.bad 2) (List.rec (motive := fun _ => R) (.bad 1) (fun a0 l0 _ => List.rec (motive := fun _ => R) (.bad 1) (fun a1 l1 _ => List.rec (motive := fun _ => R) (.bad 1) (fun a2 l2 _ => List.rec (motive := fun _ => R) (g47 ih ro a0 a1 a2 T nx) (fun _ _ _ => .bad 1) l2) l1) l0) args) (Nat.beq f 47)) (Bool.rec (motive := fun _ => R) (.bad 2) (List.rec (motive := fun _ => R) (.bad 1) (fun a0 l0 _ => List.rec (motive := fun _ => R) (.bad 1) (fun a1 l1 _ => List.rec (motive := fun _ => R) (.bad 1) (fun a2 l2 _ => List.rec (motive := fun _ => R) (g46 ih ro a0 a1 a2 T nx) (fun _ _ _ => .bad 1) l2) l1) l0) args) (Nat.beq f 46)) (Nat.ble f 46)) (Bool.rec (motive := fun _ => R) (.bad 2) (List.rec (motive := fun _ => R) (.bad 1) (fun a0 l0 _ => List.rec (motive := fun _ => R) (.bad 1) (fun a1 l1 _ => List.rec (motive := fun _ => R) (.bad 1) (fun a2 l2 _ => List.rec (motive := fun _ => R) (g21 ih ro a0 a1 a2 T nx) (fun _ _ _ => .bad 1) l2) l1) l0) args) (Nat.beq f 21)) (Nat.ble f 21)
def scc7 (fuel : Nat) : FuncId → List HT → List AV → HT → Nat → R :=
  Nat.rec (motive := fun _ => FuncId → List HT → List AV → HT → Nat → R) (fun _ _ _ _ _ => .bad 3) (fun _ ih => ap7 ih) fuel
theorem ap7_ok (ih : FuncId → List HT → List AV → HT → Nat → R) (hI : ∀ f ro args T nx, GOk prog envE f args ro T nx (ih f ro args T nx)) (f : FuncId) (ro : List HT) (args : List AV) (T : HT) (nx : Nat) : GOk prog envE f args ro T nx (ap7 ih f ro args T nx) := by
  unfold ap7
  refine recb_go (fun hb => ?_) (fun _ => ?_)
  · refine recb_go (fun hb => ?_) (fun _ => ?_)
    · obtain rfl := beqT hb
      rcases args with _ | ⟨a0, l0⟩
      · exact GOk.bad
      rcases l0 with _ | ⟨a1, l1⟩
      · exact GOk.bad
      rcases l1 with _ | ⟨a2, l2⟩
      · exact GOk.bad
      rcases l2 with _ | ⟨_, _⟩
      · exact g21_ok _ hI _ _ _ _ _ _ 
      · exact GOk.bad
    · exact GOk.bad
  · refine recb_go (fun hb => ?_) (fun _ => ?_)
    · refine recb_go (fun hb => ?_) (fun _ => ?_)
      · obtain rfl := beqT hb
        rcases args with _ | ⟨a0, l0⟩
        · exact GOk.bad
        rcases l0 with _ | ⟨a1, l1⟩
        · exact GOk.bad
        rcases l1 with _ | ⟨a2, l2⟩
        · exact GOk.bad
        rcases l2 with _ | ⟨_, _⟩
        · exact g46_ok _ hI _ _ _ _ _ _ 
        · exact GOk.bad
      · exact GOk.bad
    · refine recb_go (fun hb => ?_) (fun _ => ?_)
      · obtain rfl := beqT hb
        rcases args with _ | ⟨a0, l0⟩
        · exact GOk.bad
        rcases l0 with _ | ⟨a1, l1⟩
        · exact GOk.bad
        rcases l1 with _ | ⟨a2, l2⟩
        · exact GOk.bad
        rcases l2 with _ | ⟨_, _⟩
        · exact g47_ok _ hI _ _ _ _ _ _ 
        · exact GOk.bad
      · exact GOk.bad
theorem scc7_ok : ∀ (fuel : Nat) (f : FuncId) (ro : List HT) (args : List AV) (T : HT) (nx : Nat), GOk prog envE f args ro T nx (scc7 fuel f ro args T nx)
  | 0, _, _, _, _, _ => GOk.bad
  | fuel + 1, f, ro, args, T, nx => ap7_ok (scc7 fuel) (scc7_ok fuel) f ro args T nx
def g12 (ro : List HT) (a0 : AV) (T : HT) (nx : Nat) : R :=
 optK 120002 (bld66 []) fun x1 =>
 boxK 120003 T nx x1 66 fun x2 T1 n1 =>
 callK (scc7 4000 21 ro [x2, a0, (.lit (.int .i64 (.ofNat 0)))] T1 n1) fun x3 T2 n2 =>
 fldK 120009 T2 ro x2 0 fun x4 =>
 strBK 120010 T2 5 x4 fun x5 =>
 .ok (.val x5) T2 n2
theorem g12_ok (ro : List HT) (a0 : AV) (T : HT) (nx : Nat) : GOk prog envE 12 [a0] ro T nx (g12 ro a0 T nx) := by
 refine GOk.of_body func12 rfl ntmps12 (by kernel_rfl) rfl fun r T' n' h1 w0 base ρ0 its hS hP => ?_
 have X : CtxW envE ρ0 ro r T' n' := trivial
 unfold g12 at h1
 refine sr ?_
 refine as_ ?_
 refine dn (sr ?_)
 refine vy (V.bld h1 rfl) fun x1 h2 => ?_
 refine LV.box hS h2 rfl rfl rfl rfl rfl fun x2 T1 n1 h3 ρ its hS hdr => ?_
 refine as_ ?_
 refine dn (sr ?_)
 iterate 2 refine mv ?_
 refine LV.call hS h3 (scc7_ok _ _ _ _ _ _) hP rfl rfl rfl rfl fun x3 T2 n2 h4 ρ its hS => ?_
 refine dn (sr ?_)
 refine mv ?_
 refine fl hS h4 fo66_0 one64 fun x4 h5 => ?_
 refine vy (V.strB hS h5 rfl slt64 u8t5 st9) fun x5 h6 => ?_
 refine as_ ?_
 refine dn (CV.ret ?_)
 cases h6
 exact PV.ret (by simp) results12 hS (RS.tmp rfl RS.nil) rfl
def g48_k4 (ro : List HT) (y37 : AV) (T6 : HT) (n6 : Nat) : R :=
 .ok (.val y37) T6 n6
def g48_k3 (ro : List HT) (y2 y3 y30 : AV) (T5 : HT) (n5 : Nat) : R :=
 condK 480014 y30
 (
  faK 480015 y2 4 fun x8 =>
  ldK 480016 T5 ro x8 fun x9 =>
  faK 480017 y3 4 fun x10 =>
  ldK 480018 T5 ro x10 fun x11 =>
  eqSK prog 9 (.tmp 33) (.tmp 35) 480019 x9 x11 fun x12 =>
  g48_k4 ro x12 T5 n5
 )
 (
  g48_k4 ro (.lit (.bool false)) T5 n5
 )
def g48_k2 (ro : List HT) (y2 y3 y23 : AV) (T4 : HT) (n4 : Nat) : R :=
 condK 480022 y23
 (
  faK 480023 y2 3 fun x13 =>
  ldK 480024 T4 ro x13 fun x14 =>
  faK 480025 y3 3 fun x15 =>
  ldK 480026 T4 ro x15 fun x16 =>
  bin0 prog .eql 4 (.tmp 26) (.tmp 28) 480027 x14 x16 fun x17 =>
  g48_k3 ro y2 y3 x17 T4 n4
 )
 (
  g48_k3 ro y2 y3 (.lit (.bool false)) T4 n4
 )
def g48_k1 (ro : List HT) (y2 y3 y16 : AV) (T3 : HT) (n3 : Nat) : R :=
 condK 480030 y16
 (
  faK 480031 y2 2 fun x18 =>
  ldK 480032 T3 ro x18 fun x19 =>
  faK 480033 y3 2 fun x20 =>
  ldK 480034 T3 ro x20 fun x21 =>
  eqK prog 3 (.tmp 19) (.tmp 21) 480035 x19 x21 fun x22 =>
  g48_k2 ro y2 y3 x22 T3 n3
 )
 (
  g48_k2 ro y2 y3 (.lit (.bool false)) T3 n3
 )
def g48 (ro : List HT) (a0 a1 : AV) (T : HT) (nx : Nat) : R :=
 boxK 480001 T nx a0 70 fun x1 T1 n1 =>
 boxK 480002 T1 n1 a1 70 fun x2 T2 n2 =>
 faK 480004 x1 0 fun x3 =>
 ldK 480005 T2 ro x3 fun x4 =>
 faK 480006 x2 0 fun x5 =>
 ldK 480007 T2 ro x5 fun x6 =>
 eqK prog 3 (.tmp 6) (.tmp 8) 480008 x4 x6 fun x7 =>
 condK 480038 x7
 (
  faK 480039 x1 1 fun x23 =>
  ldK 480040 T2 ro x23 fun x24 =>
  faK 480041 x2 1 fun x25 =>
  ldK 480042 T2 ro x25 fun x26 =>
  bin0 prog .eql 4 (.tmp 12) (.tmp 14) 480043 x24 x26 fun x27 =>
  g48_k1 ro x1 x2 x27 T2 n2
 )
 (
  g48_k1 ro x1 x2 (.lit (.bool false)) T2 n2
 )
theorem g48_ok (ro : List HT) (a0 a1 : AV) (T : HT) (nx : Nat) : GOk prog envE 48 [a0, a1] ro T nx (g48 ro a0 a1 T nx) := by
 refine GOk.of_body func48 rfl ntmps48 (by kernel_rfl) rfl fun r T' n' h1 w0 base ρ0 its hS hP => ?_
 have X : CtxW envE ρ0 ro r T' n' := trivial
 unfold g48 at h1
 refine sr ?_
 refine LV.box hS h1 rfl rfl rfl rfl rfl fun x1 T1 n1 h2 ρ its hS hdr => ?_
 refine LV.box hS h2 rfl rfl rfl rfl rfl fun x2 T2 n2 h3 ρ its hS hdr => ?_
 refine as_ ?_
 refine dn (sr ?_)
 refine vy (V.fa h3 rfl fo70_0) fun x3 h4 => ?_
 refine vy (V.ld hS h4 rfl one3) fun x4 h5 => ?_
 refine vy (V.fa h5 rfl fo70_0) fun x5 h6 => ?_
 refine vy (V.ld hS h6 rfl one3) fun x6 h7 => ?_
 refine vy (V.eq h7 rfl rfl) fun x7 h8 => ?_
 refine mv ?_
 refine ls3 X 2 3 16 [(4, (.lit (.bool false)))] (g48_k1 ro) 6 ?_ ?_
 ·
  rcases condK_inv h8 with ⟨e, h31⟩ | ⟨e, h31⟩
  ·
   subst e
   refine vy (V.fa h31 rfl fo70_1) fun x23 h32 => ?_
   refine vy (V.ld hS h32 rfl one4) fun x24 h33 => ?_
   refine vy (V.fa h33 rfl fo70_1) fun x25 h34 => ?_
   refine vy (V.ld hS h34 rfl one4) fun x26 h35 => ?_
   refine vy (V.bin0 h35 rfl rfl) fun x27 h36 => ?_
   refine pu ?_
   exact la3 hS h36 ⟨rfl, rfl, rfl, rfl, trivial⟩
  subst e
  iterate 5 refine sk ?_
  refine pu ?_
  exact la3 hS h31 ⟨rfl, rfl, rfl, rfl, trivial⟩
 intro y2 y3 y16 T3 n3 ρ its hS h9
 unfold g48_k1 at h9
 refine mv ?_
 refine ls3 X 2 3 23 [(4, (.lit (.bool false)))] (g48_k2 ro) 6 ?_ ?_
 ·
  rcases condK_inv h9 with ⟨e, h25⟩ | ⟨e, h25⟩
  ·
   subst e
   refine vy (V.fa h25 rfl fo70_2) fun x18 h26 => ?_
   refine vy (V.ld hS h26 rfl one3) fun x19 h27 => ?_
   refine vy (V.fa h27 rfl fo70_2) fun x20 h28 => ?_
   refine vy (V.ld hS h28 rfl one3) fun x21 h29 => ?_
   refine vy (V.eq h29 rfl rfl) fun x22 h30 => ?_
   refine pu ?_
   exact la3 hS h30 ⟨rfl, rfl, rfl, rfl, trivial⟩
  subst e
  iterate 5 refine sk ?_
  refine pu ?_
  exact la3 hS h25 ⟨rfl, rfl, rfl, rfl, trivial⟩
 intro y2 y3 y23 T4 n4 ρ its hS h10
 unfold g48_k2 at h10
 refine mv ?_
 refine ls3 X 2 3 30 [(4, (.lit (.bool false)))] (g48_k3 ro) 6 ?_ ?_
 ·
  rcases condK_inv h10 with ⟨e, h19⟩ | ⟨e, h19⟩
  ·
   subst e
   refine vy (V.fa h19 rfl fo70_3) fun x13 h20 => ?_
   refine vy (V.ld hS h20 rfl one4) fun x14 h21 => ?_
   refine vy (V.fa h21 rfl fo70_3) fun x15 h22 => ?_
   refine vy (V.ld hS h22 rfl one4) fun x16 h23 => ?_
   refine vy (V.bin0 h23 rfl rfl) fun x17 h24 => ?_
   refine pu ?_
   exact la3 hS h24 ⟨rfl, rfl, rfl, rfl, trivial⟩
  subst e
  iterate 5 refine sk ?_
  refine pu ?_
  exact la3 hS h19 ⟨rfl, rfl, rfl, rfl, trivial⟩
 intro y2 y3 y30 T5 n5 ρ its hS h11
 unfold g48_k3 at h11
 refine mv ?_
 refine ls1 X 37 [(4, (.lit (.bool false)))] (g48_k4 ro) 6 ?_ ?_
 ·
  rcases condK_inv h11 with ⟨e, h13⟩ | ⟨e, h13⟩
  ·
   subst e
   refine vy (V.fa h13 rfl fo70_4) fun x8 h14 => ?_
   refine vy (V.ld hS h14 rfl one9) fun x9 h15 => ?_
   refine vy (V.fa h15 rfl fo70_4) fun x10 h16 => ?_
   refine vy (V.ld hS h16 rfl one9) fun x11 h17 => ?_
   refine vy (V.eqS h17 rfl rfl) fun x12 h18 => ?_
   refine pu ?_
   exact la1 hS h18 ⟨rfl, rfl, trivial⟩
  subst e
  iterate 5 refine sk ?_
  refine pu ?_
  exact la1 hS h13 ⟨rfl, rfl, trivial⟩
 intro y37 T6 n6 ρ its hS h12
 unfold g48_k4 at h12
 refine as_ ?_
 refine dn (CV.ret ?_)
 cases h12
 exact PV.ret (by simp) results48 hS (RS.tmp rfl RS.nil) rfl
def g23 (ro : List HT) (a0 : AV) (T : HT) (nx : Nat) : R :=
 newK T nx (.obj [.lit (.int .i64 0), .lit (.bool false), .lit (.int .i64 0), .lit (.bool false), .lit (.string ⟨#[]⟩)] 70) fun x1 T1 n1 =>
 optK 230003 (bld70 [(0, a0)]) fun x2 =>
 stAK 230004 T1 x1 x2 5 fun T2 =>
 ldAK 230005 T2 ro x1 5 fun x3 =>
 .ok (.val x3) T2 n1
theorem g23_ok (ro : List HT) (a0 : AV) (T : HT) (nx : Nat) : GOk prog envE 23 [a0] ro T nx (g23 ro a0 T nx) := by
 refine GOk.of_body func23 rfl ntmps23 (by kernel_rfl) rfl fun r T' n' h1 w0 base ρ0 its hS hP => ?_
 have X : CtxW envE ρ0 ro r T' n' := trivial
 unfold g23 at h1
 refine sr ?_
 refine LV.alloc hS h1 rfl zr70 rfl rfl rfl fun x1 T1 n1 h2 ρ its hS hdr => ?_
 refine dn (sr ?_)
 refine mv ?_
 refine vy (V.bld h2 rfl) fun x2 h3 => ?_
 refine LV.stA hS h3 rfl rfl rfl agg70 rfl rfl rfl fun T2 its h4 hS => ?_
 refine dn (CV.ret ?_)
 refine PV.ldA (x := .tmp 2) (t := 70) hS h4 rfl agg70 fun x3 h5 hVx2_3 => ?_
 cases h5
 exact PV.ret (by simp) results23 hS (RS.cell hVx2_3 RS.nil) rfl
def g123 (ro : List HT) (T : HT) (nx : Nat) : R :=
 bsK 1230019 T nx 17 28 1 [(0, (.iface 241 (.opq 0))), (1, (.iface 241 (.opq 1))), (2, (.iface 241 (.opq 2))), (3, (.iface 241 (.opq 3))), (4, (.iface 241 (.opq 4))), (5, (.iface 241 (.opq 5))), (6, (.iface 241 (.opq 6))), (7, (.iface 241 (.opq 7))), (8, (.iface 241 (.opq 8))), (9, (.iface 241 (.opq 9))), (10, (.iface 241 (.opq 10))), (11, (.iface 241 (.opq 11))), (12, (.iface 241 (.opq 12))), (13, (.iface 241 (.opq 13))), (14, (.iface 241 (.opq 14))), (15, (.iface 241 (.opq 15))), (16, (.iface 241 (.opq 16)))] fun x1 T1 n1 =>
 .ok (.val x1) T1 n1
theorem g123_ok (ro : List HT) (T : HT) (nx : Nat) : GOk prog envE 123 [] ro T nx (g123 ro T nx) := by
 refine GOk.of_body func123 rfl ntmps123 (by kernel_rfl) rfl fun r T' n' h1 w0 base ρ0 its hS hP => ?_
 have X : CtxW envE ρ0 ro r T' n' := trivial
 unfold g123 at h1
 refine sr ?_
 refine as_ ?_
 refine dn (sr ?_)
 refine sv (VAL.ldG hS (by rfl) one28) ?_
 refine sv (VAL.ldG hS (by rfl) one28) ?_
 refine sv (VAL.ldG hS (by rfl) one28) ?_
 refine sv (VAL.ldG hS (by rfl) one28) ?_
 refine sv (VAL.ldG hS (by rfl) one28) ?_
 refine sv (VAL.ldG hS (by rfl) one28) ?_
 refine sv (VAL.ldG hS (by rfl) one28) ?_
 refine sv (VAL.ldG hS (by rfl) one28) ?_
 refine sv (VAL.ldG hS (by rfl) one28) ?_
 refine sv (VAL.ldG hS (by rfl) one28) ?_
 refine sv (VAL.ldG hS (by rfl) one28) ?_
 refine sv (VAL.ldG hS (by rfl) one28) ?_
 refine sv (VAL.ldG hS (by rfl) one28) ?_
 refine sv (VAL.ldG hS (by rfl) one28) ?_
 refine sv (VAL.ldG hS (by rfl) one28) ?_
 refine sv (VAL.ldG hS (by rfl) one28) ?_
 refine sv (VAL.ldG hS (by rfl) one28) ?_
 refine LV.bslice hS h1 rfl rfl el206 rfl rfl rfl rfl fun x1 T1 n1 h2 ρ its hS hdr => ?_
 refine as_ ?_
 refine dn (CV.ret ?_)
 cases h2
 exact PV.ret (by simp) results123 hS (RS.tmp rfl RS.nil) rfl
def g124_k1 (ro : List HT) (y0 y1 y10 : AV) (T1 : HT) (n1 : Nat) : R :=
 condK 1240005 y10
 (
  .bad 1240006
 )
 (
  eeK prog 241 28 (.tmp 17) (.tmp 18) 1240009 y0 y1 fun x2 =>
  .ok (.val x2) T1 n1
 )
def g124 (ro : List HT) (a0 a1 : AV) (T : HT) (nx : Nat) : R :=
 bin0 prog .eql 28 (.tmp 5) (.const (.nilIface)) 1240003 a0 (.lit (.nilIface)) fun x1 =>
 condK 1240011 x1
 (
  g124_k1 ro a0 a1 (.lit (.bool true)) T nx
 )
 (
  bin0 prog .eql 28 (.tmp 8) (.const (.nilIface)) 1240014 a1 (.lit (.nilIface)) fun x3 =>
  g124_k1 ro a0 a1 x3 T nx
 )
theorem g124_ok (ro : List HT) (a0 a1 : AV) (T : HT) (nx : Nat) : GOk prog envE 124 [a0, a1] ro T nx (g124 ro a0 a1 T nx) := by
 refine GOk.of_body func124 rfl ntmps124 (by kernel_rfl) rfl fun r T' n' h1 w0 base ρ0 its hS hP => ?_
 have X : CtxW envE ρ0 ro r T' n' := trivial
 unfold g124 at h1
 refine sr ?_
 refine as_ ?_
 refine dn (CV.seq (sr ?_))
 refine mv ?_
 refine vy (V.bin0 h1 rfl rfl) fun x1 h2 => ?_
 refine mv ?_
 refine ls3 X 0 1 10 [(4, (.lit (.bool false)))] (g124_k1 ro) 3 ?_ ?_
 ·
  rcases condK_inv h2 with ⟨e, h6⟩ | ⟨e, h6⟩
  ·
   subst e
   iterate 2 refine sk ?_
   refine pu ?_
   exact la3 hS h6 ⟨rfl, rfl, rfl, rfl, trivial⟩
  subst e
  refine mv ?_
  refine vy (V.bin0 h6 rfl rfl) fun x3 h7 => ?_
  refine pu ?_
  exact la3 hS h7 ⟨rfl, rfl, rfl, rfl, trivial⟩
 intro y0 y1 y10 T1 n1 ρ its hS h3
 unfold g124_k1 at h3
 refine dn ?_
 refine CV.cond h3 rfl (fun e h4 => ?_) (fun e h4 => ?_)
 ·
  subst e
  cases h4
 subst e
 refine CV.skip (PV.thenN (sr ?_))
 iterate 2 refine mv ?_
 refine vy (V.ee hS h4 rfl rfl ii28 cp241) fun x2 h5 => ?_
 refine as_ ?_
 refine dn (CV.ret ?_)
 cases h5
 exact PV.ret (by simp) results124 hS (RS.tmp rfl RS.nil) rfl
def g92_b1 (ro : List HT) (lp1 : AV → AV → AV → AV → HT → Nat → R) (y0 y2 y3 y4 : AV) (T2 : HT) (n2 : Nat) : R :=
 lenSK 920008 y3 fun x2 =>
 ltK prog 3 (.tmp 6) (.tmp 8) 920009 y4 x2 fun x3 =>
 condK 920010 x3
 (
  iaK 920014 y3 y4 1 fun x4 =>
  ldK 920015 T2 ro x4 fun x5 =>
  callK (g124 ro y0 x5 T2 n2) fun x6 T3 n3 =>
  condK 920017 x6
  (
   addK prog 3 (.const (.int .i64 (.ofNat 101))) (.tmp 18) 920019 (.lit (.int .i64 (.ofNat 101))) y4 fun x7 =>
   .ok (.val x7) T3 n3
  )
  (
   addK prog 3 (.tmp 10) (.const (.int .i64 (.ofNat 1))) 920022 y4 (.lit (.int .i64 (.ofNat 1))) fun x8 =>
   lp1 y0 y2 y3 x8 T3 n3
  )
 )
 (
  .ok (.val (.lit (.int .i64 (.negSucc 0)))) T2 n2
 )
def g92 (ro : List HT) (a0 : AV) (T : HT) (nx : Nat) : R :=
 callK (g123 ro T nx) fun x1 T1 n1 =>
 lpf4 920005 (g92_b1 ro) 100000 a0 (.lit (.int .i64 (.ofNat 0))) x1 (.lit (.int .i64 (.ofNat 0))) T1 n1
theorem g92_ok (ro : List HT) (a0 : AV) (T : HT) (nx : Nat) : GOk prog envE 92 [a0] ro T nx (g92 ro a0 T nx) := by
 refine GOk.of_body func92 rfl ntmps92 (by kernel_rfl) rfl fun r T' n' h1 w0 base ρ0 its hS hP => ?_
 have X : CtxW envE ρ0 ro r T' n' := trivial
 unfold g92 at h1
 refine sr ?_
 refine as_ ?_
 refine dn (sr ?_)
 refine LV.call hS h1 (g123_ok _ _ _ ) hP rfl rfl rfl rfl fun x1 T1 n1 h2 ρ its hS => ?_
 refine as_ ?_
 refine dn (CV.seq (sr ?_))
 refine as_ ?_
 refine dn (CV.block ?_)
 refine cl4 X 0 2 3 4 [] hS h2 ⟨rfl, rfl, rfl, rfl, trivial⟩ ?_
 intro f1 y0 y2 y3 y4 T2 n2 ρ its hS h3
 unfold g92_b1 at h3
 refine CV.seq (sr ?_)
 iterate 2 refine mv ?_
 refine vy (V.lenS h3 rfl ls206) fun x2 h4 => ?_
 refine vy (V.lt h4 rfl rfl) fun x3 h5 => ?_
 refine dn ?_
 refine CV.cond h5 rfl (fun e h6 => ?_) (fun e h6 => ?_)
 ·
  subst e
  refine CV.skip (PV.thenN (CV.seq (CV.block (sr ?_))))
  iterate 3 refine mv ?_
  refine vy (V.ia h6 rfl rfl el206) fun x4 h7 => ?_
  refine vy (V.ld hS h7 rfl one28) fun x5 h8 => ?_
  refine LV.call hS h8 (g124_ok _ _ _ _ _ ) hP rfl rfl rfl rfl fun x6 T3 n3 h9 ρ its hS => ?_
  refine dn ?_
  refine CV.cond h9 rfl (fun e h10 => ?_) (fun e h10 => ?_)
  ·
   subst e
   refine sr ?_
   refine mv ?_
   refine vy (V.add h10 rfl rfl) fun x7 h11 => ?_
   refine as_ ?_
   refine dn (CV.ret (PV.blockR (PV.thenR (PV.thenR (PV.blockR (PV.thenR ?_))))))
   cases h11
   exact PV.ret (by simp) results92 hS (RS.tmp rfl RS.nil) rfl
  subst e
  refine CV.skip (PV.blockN (PV.thenN (CV.region ?_)))
  refine mv ?_
  refine vy (V.add h10 rfl rfl) fun x8 h12 => ?_
  refine as_ ?_
  refine LV.done ?_
  exact pb4 hS h12 ⟨rfl, rfl, rfl, rfl, trivial⟩
 subst e
 refine CV.exit (PV.thenE (PV.thenE (PV.blockE (PV.thenN (sr ?_)))))
 refine as_ ?_
 refine dn (CV.ret ?_)
 cases h6
 exact PV.ret (by simp) results92 hS (RS.tmp rfl RS.nil) rfl
def g93 (ro : List HT) (a0 a1 : AV) (T : HT) (nx : Nat) : R :=
 newK T nx (.obj [.lit (.int .i64 0), .lit (.bool false), .lit (.int .i64 0), .lit (.bool false), .lit (.string ⟨#[]⟩)] 70) fun x1 T1 n1 =>
 eqK prog 3 (.tmp 5) (.const (.int .i64 (.ofNat 0))) 930003 a0 (.lit (.int .i64 (.ofNat 0))) fun x2 =>
 condK 930004 x2
 (
  .bad 930005
 )
 (
  optK 930008 (bld70 [(0, a0), (1, (.lit (.bool true))), (2, a1)]) fun x3 =>
  stAK 930009 T1 x1 x3 5 fun T2 =>
  ldAK 930010 T2 ro x1 5 fun x4 =>
  .ok (.val x4) T2 n1
 )
theorem g93_ok (ro : List HT) (a0 a1 : AV) (T : HT) (nx : Nat) : GOk prog envE 93 [a0, a1] ro T nx (g93 ro a0 a1 T nx) := by
 refine GOk.of_body func93 rfl ntmps93 (by kernel_rfl) rfl fun r T' n' h1 w0 base ρ0 its hS hP => ?_
 have X : CtxW envE ρ0 ro r T' n' := trivial
 unfold g93 at h1
 refine sr ?_
 refine LV.alloc hS h1 rfl zr70 rfl rfl rfl fun x1 T1 n1 h2 ρ its hS hdr => ?_
 refine dn (CV.seq (sr ?_))
 refine mv ?_
 refine vy (V.eq h2 rfl rfl) fun x2 h3 => ?_
 refine dn ?_
 refine CV.cond h3 rfl (fun e h4 => ?_) (fun e h4 => ?_)
 ·
  subst e
  cases h4
 subst e
 refine CV.skip (PV.thenN (sr ?_))
 iterate 2 refine mv ?_
 refine vy (V.bld h4 rfl) fun x3 h5 => ?_
 refine LV.stA hS h5 rfl rfl rfl agg70 rfl rfl rfl fun T2 its h6 hS => ?_
 refine dn (CV.ret ?_)
 refine PV.ldA (x := .tmp 4) (t := 70) hS h6 rfl agg70 fun x4 h7 hVx4_4 => ?_
 cases h7
 exact PV.ret (by simp) results93 hS (RS.cell hVx4_4 RS.nil) rfl
def g71_k1 (ro : List HT) (y2 y3 y23 : AV) (T5 : HT) (n5 : Nat) : R :=
 condK 710020 y23
 (
  .bad 710021
 )
 (
  ncK 710023 y3 fun x10 =>
  faK 710024 x10 1 fun x11 =>
  ldQK 710025 T5 ro [(y3, 1, 1), (y3, 0, 1)] x11 fun x12 =>
  ncK 710027 y3 fun x13 =>
  faK 710028 x13 0 fun x14 =>
  ldQK 710029 T5 ro [(y3, 1, 1), (y3, 0, 1)] x14 fun x15 =>
  callK (g92 ro x12 T5 n5) fun x16 T6 n6 =>
  keepK 710031 T5 T6 [(y3, 1, 1), (y3, 0, 1)] <|
  callK (g93 ro x16 x15 T6 n6) fun x17 T7 n7 =>
  stAK 710033 T7 y2 x17 5 fun T8 =>
  ldAK 710034 T8 ro y2 5 fun x18 =>
  .ok (.val x18) T8 n7
 )
def g71 (ro : List HT) (a0 : AV) (T : HT) (nx : Nat) : R :=
 newK T nx (.obj [.lit (.int .i64 0), .lit (.bool false), .lit (.int .i64 0), .lit (.bool false), .lit (.string ⟨#[]⟩)] 70) fun x1 T1 n1 =>
 asK 710003 a0 137 (.tup [.lit (.pointer none), .lit (.bool false)]) fun x2 =>
 exK 710005 x2 0 fun x3 =>
 exK 710006 x2 1 fun x4 =>
 notK 710010 x4 fun x5 =>
 condK 710011 x5
 (
  callK (g92 ro a0 T1 n1) fun x6 T2 n2 =>
  callK (g23 ro x6 T2 n2) fun x7 T3 n3 =>
  stAK 710015 T3 x1 x7 5 fun T4 =>
  ldAK 710016 T4 ro x1 5 fun x8 =>
  .ok (.val x8) T4 n3
 )
 (
  bin0 prog .eql 137 (.tmp 15) (.const (.pointer none)) 710018 x3 (.lit (.pointer none)) fun x9 =>
  condK 710035 x9
  (
   g71_k1 ro x1 x3 (.lit (.bool true)) T1 n1
  )
  (
   ncK 710038 x3 fun x19 =>
   faK 710039 x19 1 fun x20 =>
   ldK 710040 T1 ro x20 fun x21 =>
   bin0 prog .eql 28 (.tmp 21) (.const (.nilIface)) 710041 x21 (.lit (.nilIface)) fun x22 =>
   g71_k1 ro x1 x3 x22 T1 n1
  )
 )
theorem g71_ok (ro : List HT) (a0 : AV) (T : HT) (nx : Nat) : GOk prog envE 71 [a0] ro T nx (g71 ro a0 T nx) := by
 refine GOk.of_body func71 rfl ntmps71 (by kernel_rfl) rfl fun r T' n' h1 w0 base ρ0 its hS hP => ?_
 have X : CtxW envE ρ0 ro r T' n' := trivial
 unfold g71 at h1
 refine sr ?_
 refine LV.alloc hS h1 rfl zr70 rfl rfl rfl fun x1 T1 n1 h2 ρ its hS hdr => ?_
 refine dn (sr ?_)
 refine mv ?_
 refine vy (V.as h2 rfl ni137 za137) fun x2 h3 => ?_
 refine mv ?_
 refine vy (V.ex h3 rfl) fun x3 h4 => ?_
 refine vy (V.ex h4 rfl) fun x4 h5 => ?_
 iterate 2 refine as_ ?_
 refine dn (CV.seq (sr ?_))
 refine mv ?_
 refine vy (V.not h5 rfl) fun x5 h6 => ?_
 refine dn ?_
 refine CV.cond h6 rfl (fun e h7 => ?_) (fun e h7 => ?_)
 ·
  subst e
  refine sr ?_
  refine mv ?_
  refine LV.call hS h7 (g92_ok _ _ _ _ ) hP rfl rfl rfl rfl fun x6 T2 n2 h8 ρ its hS => ?_
  refine LV.call hS h8 (g23_ok _ _ _ _ ) hP rfl rfl rfl rfl fun x7 T3 n3 h9 ρ its hS => ?_
  refine LV.stA hS h9 rfl rfl rfl agg70 rfl rfl rfl fun T4 its h10 hS => ?_
  refine dn (CV.ret (PV.thenR ?_))
  refine PV.ldA (x := .tmp 2) (t := 70) hS h10 rfl agg70 fun x8 h11 hVx2_8 => ?_
  cases h11
  exact PV.ret (by simp) results71 hS (RS.cell hVx2_8 RS.nil) rfl
 subst e
 refine CV.skip (PV.thenN (CV.seq (sr ?_)))
 refine mv ?_
 refine vy (V.bin0 h7 rfl rfl) fun x9 h12 => ?_
 refine mv ?_
 refine ls3 X 2 3 23 [] (g71_k1 ro) 6 ?_ ?_
 ·
  rcases condK_inv h12 with ⟨e, h26⟩ | ⟨e, h26⟩
  ·
   subst e
   iterate 5 refine sk ?_
   refine pu ?_
   exact la3 hS h26 ⟨rfl, rfl, rfl, trivial⟩
  subst e
  refine mv ?_
  refine vy (V.nc h26 rfl) fun x19 h27 => ?_
  refine vy (V.fa h27 rfl fo152_1) fun x20 h28 => ?_
  refine vy (V.ld hS h28 rfl one28) fun x21 h29 => ?_
  refine vy (V.bin0 h29 rfl rfl) fun x22 h30 => ?_
  refine pu ?_
  exact la3 hS h30 ⟨rfl, rfl, rfl, trivial⟩
 intro y2 y3 y23 T5 n5 ρ its hS h13
 unfold g71_k1 at h13
 refine dn ?_
 refine CV.cond h13 rfl (fun e h14 => ?_) (fun e h14 => ?_)
 ·
  subst e
  cases h14
 subst e
 refine CV.skip (PV.thenN (CV.seq ?_))
 refine CV.regionMS hS [(y3, 1, 1), (y3, 0, 1)] [(0, .anywhere), (1, .anywhere), (2, .anywhere), (3, .held), (5, .anywhere), (6, .anywhere), (7, .anywhere), (8, .held), (4, .alone), (9, .alone), (10, .alone)] rfl (fun c a a' w hd hq => PanicOk.root (P := prog) (fn := f71) (w0 := w0) (base := base) (E := envE) (ro := ro) (r := r) (T' := T') (n' := n') (ρ0 := ρ0) c a a' w hd hq) (by kernel_rfl) ?_
 have hK := KeepS.start [(y3, 1, 1), (y3, 0, 1)] hS
 have hR := hS
 have hP0 := hP
 replace hP := PK.up hR hP
 replace hS := hR.root
 refine MV.step0 (i := 0) rfl (VAL.move rfl) rfl rfl rfl ?_
 refine MV.lift0 (i := 1) rfl (V.nc h14 rfl) rfl rfl rfl fun x10 h15 => ?_
 refine MV.lift0 (i := 2) rfl (V.fa h15 rfl fo152_1) rfl rfl rfl fun x11 h16 => ?_
 refine MV.lift1 (i := 3) rfl hK (V.ldQ hS h16 rfl one28) rfl rfl rfl [] (by kernel_rfl) fun x12 h17 => ?_
 refine MV.step0 (i := 5) rfl (VAL.move rfl) rfl rfl rfl ?_
 refine MV.lift0 (i := 6) rfl (V.nc h17 rfl) rfl rfl rfl fun x13 h18 => ?_
 refine MV.lift0 (i := 7) rfl (V.fa h18 rfl fo152_0) rfl rfl rfl fun x14 h19 => ?_
 refine MV.lift1 (i := 8) rfl hK (V.ldQ hS h19 rfl one3) rfl rfl rfl [3] (by kernel_rfl) fun x15 h20 => ?_
 refine MV.force (i := 4) rfl ?_
 refine LV.call hS h20 (g92_ok _ _ _ _ ) hP rfl rfl rfl rfl fun x16 T6 n6 h21 ρ its hS => ?_
 obtain ⟨hK, h22⟩ := KeepS.step hR hS h21
 refine LV.nextM [8] (by kernel_rfl) (fun _ => hK) ?_
 refine MV.force (i := 9) rfl ?_
 refine LV.call hS h22 (g93_ok _ _ _ _ _ ) hP rfl rfl rfl rfl fun x17 T7 n7 h23 ρ its hS => ?_
 refine LV.nextM [] (by kernel_rfl) (fun z => absurd rfl z) ?_
 refine MV.force (i := 10) rfl ?_
 refine LV.stA hS h23 rfl rfl rfl agg70 rfl rfl rfl fun T8 its h24 hS => ?_
 refine LV.nextM [] (by kernel_rfl) (fun z => absurd rfl z) ?_
 replace hS := hR.up hS
 replace hP := hP0
 refine mdn (CV.ret ?_)
 refine PV.ldA (x := .tmp 2) (t := 70) hS h24 rfl agg70 fun x18 h25 hVx2_18 => ?_
 cases h25
 exact PV.ret (by simp) results71 hS (RS.cell hVx2_18 RS.nil) rfl
def g49_k1 (ro : List HT) (y2 y3 y26 : AV) (T4 : HT) (n4 : Nat) : R :=
 condK 490023 y26
 (
  .bad 490024
 )
 (
  fldK 490026 T4 ro y3 1 fun x10 =>
  callK (g71 ro x10 T4 n4) fun x11 T5 n5 =>
  newK T5 n5 (.obj [.lit (.int .i64 0), .lit (.bool false), .lit (.int .i64 0), .lit (.bool false), .lit (.string ⟨#[]⟩)] 70) fun x12 T6 n6 =>
  stAK 490029 T6 x12 x11 5 fun T7 =>
  faK 490030 x12 0 fun x13 =>
  ldK 490031 T7 ro x13 fun x14 =>
  faK 490032 x12 1 fun x15 =>
  ldK 490033 T7 ro x15 fun x16 =>
  faK 490034 x12 2 fun x17 =>
  ldK 490035 T7 ro x17 fun x18 =>
  ncK 490037 y3 fun x19 =>
  faK 490038 x19 0 fun x20 =>
  ldK 490039 T7 ro x20 fun x21 =>
  optK 490040 (bld70 [(0, x14), (1, x16), (2, x18), (3, (.lit (.bool true))), (4, x21)]) fun x22 =>
  stAK 490041 T7 y2 x22 5 fun T8 =>
  ldAK 490042 T8 ro y2 5 fun x23 =>
  .ok (.val x23) T8 n6
 )
def g49 (ro : List HT) (a0 : AV) (T : HT) (nx : Nat) : R :=
 newK T nx (.obj [.lit (.int .i64 0), .lit (.bool false), .lit (.int .i64 0), .lit (.bool false), .lit (.string ⟨#[]⟩)] 70) fun x1 T1 n1 =>
 bin0 prog .eql 28 (.tmp 6) (.const (.nilIface)) 490003 a0 (.lit (.nilIface)) fun x2 =>
 condK 490004 x2
 (
  .bad 490005
 )
 (
  asK 490007 a0 168 (.tup [.lit (.pointer none), .lit (.bool false)]) fun x3 =>
  exK 490009 x3 0 fun x4 =>
  exK 490010 x3 1 fun x5 =>
  notK 490014 x5 fun x6 =>
  condK 490015 x6
  (
   callK (g71 ro a0 T1 n1) fun x7 T2 n2 =>
   stAK 490018 T2 x1 x7 5 fun T3 =>
   ldAK 490019 T3 ro x1 5 fun x8 =>
   .ok (.val x8) T3 n2
  )
  (
   bin0 prog .eql 168 (.tmp 18) (.const (.pointer none)) 490021 x4 (.lit (.pointer none)) fun x9 =>
   condK 490043 x9
   (
    g49_k1 ro x1 x4 (.lit (.bool true)) T1 n1
   )
   (
    ncK 490046 x4 fun x24 =>
    faK 490047 x24 1 fun x25 =>
    ldK 490048 T1 ro x25 fun x26 =>
    bin0 prog .eql 28 (.tmp 24) (.const (.nilIface)) 490049 x26 (.lit (.nilIface)) fun x27 =>
    g49_k1 ro x1 x4 x27 T1 n1
   )
  )
 )
theorem g49_ok (ro : List HT) (a0 : AV) (T : HT) (nx : Nat) : GOk prog envE 49 [a0] ro T nx (g49 ro a0 T nx) := by
 refine GOk.of_body func49 rfl ntmps49 (by kernel_rfl) rfl fun r T' n' h1 w0 base ρ0 its hS hP => ?_
 have X : CtxW envE ρ0 ro r T' n' := trivial
 unfold g49 at h1
 refine sr ?_
 refine LV.alloc hS h1 rfl zr70 rfl rfl rfl fun x1 T1 n1 h2 ρ its hS hdr => ?_
 refine dn (CV.seq (sr ?_))
 refine mv ?_
 refine vy (V.bin0 h2 rfl rfl) fun x2 h3 => ?_
 refine dn ?_
 refine CV.cond h3 rfl (fun e h4 => ?_) (fun e h4 => ?_)
 ·
  subst e
  cases h4
 subst e
 refine CV.skip (PV.thenN (sr ?_))
 refine mv ?_
 refine vy (V.as h4 rfl ni168 za168) fun x3 h5 => ?_
 refine mv ?_
 refine vy (V.ex h5 rfl) fun x4 h6 => ?_
 refine vy (V.ex h6 rfl) fun x5 h7 => ?_
 iterate 2 refine as_ ?_
 refine dn (CV.seq (sr ?_))
 refine mv ?_
 refine vy (V.not h7 rfl) fun x6 h8 => ?_
 refine dn ?_
 refine CV.cond h8 rfl (fun e h9 => ?_) (fun e h9 => ?_)
 ·
  subst e
  refine sr ?_
  refine mv ?_
  refine LV.call hS h9 (g71_ok _ _ _ _ ) hP rfl rfl rfl rfl fun x7 T2 n2 h10 ρ its hS => ?_
  refine LV.stA hS h10 rfl rfl rfl agg70 rfl rfl rfl fun T3 its h11 hS => ?_
  refine dn (CV.ret (PV.thenR ?_))
  refine PV.ldA (x := .tmp 2) (t := 70) hS h11 rfl agg70 fun x8 h12 hVx2_8 => ?_
  cases h12
  exact PV.ret (by simp) results49 hS (RS.cell hVx2_8 RS.nil) rfl
 subst e
 refine CV.skip (PV.thenN (CV.seq (sr ?_)))
 refine mv ?_
 refine vy (V.bin0 h9 rfl rfl) fun x9 h13 => ?_
 refine mv ?_
 refine ls3 X 2 3 26 [] (g49_k1 ro) 6 ?_ ?_
 ·
  rcases condK_inv h13 with ⟨e, h32⟩ | ⟨e, h32⟩
  ·
   subst e
   iterate 5 refine sk ?_
   refine pu ?_
   exact la3 hS h32 ⟨rfl, rfl, rfl, trivial⟩
  subst e
  refine mv ?_
  refine vy (V.nc h32 rfl) fun x24 h33 => ?_
  refine vy (V.fa h33 rfl fo171_1) fun x25 h34 => ?_
  refine vy (V.ld hS h34 rfl one28) fun x26 h35 => ?_
  refine vy (V.bin0 h35 rfl rfl) fun x27 h36 => ?_
  refine pu ?_
  exact la3 hS h36 ⟨rfl, rfl, rfl, trivial⟩
 intro y2 y3 y26 T4 n4 ρ its hS h14
 unfold g49_k1 at h14
 refine dn ?_
 refine CV.cond h14 rfl (fun e h15 => ?_) (fun e h15 => ?_)
 ·
  subst e
  cases h15
 subst e
 refine CV.skip (PV.thenN (sr ?_))
 refine mv ?_
 refine fl hS h15 fo171_1 one28 fun x10 h16 => ?_
 refine LV.call hS h16 (g71_ok _ _ _ _ ) hP rfl rfl rfl rfl fun x11 T5 n5 h17 ρ its hS => ?_
 refine LV.alloc hS h17 rfl zr70 rfl rfl rfl fun x12 T6 n6 h18 ρ its hS hdr => ?_
 refine LV.stA hS h18 rfl rfl rfl agg70 rfl rfl rfl fun T7 its h19 hS => ?_
 refine dn (CV.seq ?_)
 refine CV.regionM [(0, .anywhere), (1, .held), (2, .anywhere), (3, .held), (4, .anywhere), (5, .held), (6, .anywhere), (7, .anywhere), (8, .anywhere), (9, .held), (10, .held), (11, .alone)] rfl (fun c a a' w hd hq => PanicOk.root (P := prog) (fn := f49) (w0 := w0) (base := base) (E := envE) (ro := ro) (r := r) (T' := T') (n' := n') (ρ0 := ρ0) c a a' w hd hq) (by kernel_rfl) ?_
 refine MV.lift0 (i := 0) rfl (V.fa h19 rfl fo70_0) rfl rfl rfl fun x13 h20 => ?_
 refine MV.lift1 (i := 1) rfl (fun _ z => z) (V.ld hS h20 rfl one3) rfl rfl rfl [] (by kernel_rfl) fun x14 h21 => ?_
 refine MV.lift0 (i := 2) rfl (V.fa h21 rfl fo70_1) rfl rfl rfl fun x15 h22 => ?_
 refine MV.lift1 (i := 3) rfl (fun _ z => z) (V.ld hS h22 rfl one4) rfl rfl rfl [1] (by kernel_rfl) fun x16 h23 => ?_
 refine MV.lift0 (i := 4) rfl (V.fa h23 rfl fo70_2) rfl rfl rfl fun x17 h24 => ?_
 refine MV.lift1 (i := 5) rfl (fun _ z => z) (V.ld hS h24 rfl one3) rfl rfl rfl [3, 1] (by kernel_rfl) fun x18 h25 => ?_
 refine MV.step0 (i := 6) rfl (VAL.move rfl) rfl rfl rfl ?_
 refine MV.lift0 (i := 7) rfl (V.nc h25 rfl) rfl rfl rfl fun x19 h26 => ?_
 refine MV.lift0 (i := 8) rfl (V.fa h26 rfl fo171_0) rfl rfl rfl fun x20 h27 => ?_
 refine MV.lift1 (i := 9) rfl (fun _ z => z) (V.ld hS h27 rfl one9) rfl rfl rfl [5, 3, 1] (by kernel_rfl) fun x21 h28 => ?_
 refine MV.lift1 (i := 10) rfl (fun _ z => z) (V.bld h28 rfl) rfl rfl rfl [] (by kernel_rfl) fun x22 h29 => ?_
 refine MV.force (i := 11) rfl ?_
 refine LV.stA hS h29 rfl rfl rfl agg70 rfl rfl rfl fun T8 its h30 hS => ?_
 refine LV.nextM [] (by kernel_rfl) (fun z => absurd rfl z) ?_
 refine mdn (CV.ret ?_)
 refine PV.ldA (x := .tmp 2) (t := 70) hS h30 rfl agg70 fun x23 h31 hVx2_23 => ?_
 cases h31
 exact PV.ret (by simp) results49 hS (RS.cell hVx2_23 RS.nil) rfl
def g22 (ro : List HT) (a0 a1 : AV) (T : HT) (nx : Nat) : R :=
 boxK 220001 T nx a1 70 fun x1 T1 n1 =>
 ldAQK 220004 T1 ro [(x1, 0, 5)] x1 5 fun x2 =>
 callK (g49 ro a0 T1 n1) fun x3 T2 n2 =>
 keepK 220006 T1 T2 [(x1, 0, 5)] <|
 callK (g48 ro x3 x2 T2 n2) fun x4 T3 n3 =>
 .ok (.val x4) T3 n3
theorem g22_ok (ro : List HT) (a0 a1 : AV) (T : HT) (nx : Nat) : GOk prog envE 22 [a0, a1] ro T nx (g22 ro a0 a1 T nx) := by
 refine GOk.of_body func22 rfl ntmps22 (by kernel_rfl) rfl fun r T' n' h1 w0 base ρ0 its hS hP => ?_
 have X : CtxW envE ρ0 ro r T' n' := trivial
 unfold g22 at h1
 refine sr ?_
 refine LV.box hS h1 rfl rfl rfl rfl rfl fun x1 T1 n1 h2 ρ its hS hdr => ?_
 refine as_ ?_
 refine dn (CV.seq ?_)
 refine CV.regionMS hS [(x1, 0, 5)] [(0, .anywhere), (2, .held), (1, .alone), (3, .alone), (4, .alone)] rfl (fun c a a' w hd hq => PanicOk.root (P := prog) (fn := f22) (w0 := w0) (base := base) (E := envE) (ro := ro) (r := r) (T' := T') (n' := n') (ρ0 := ρ0) c a a' w hd hq) (by kernel_rfl) ?_
 have hK := KeepS.start [(x1, 0, 5)] hS
 have hR := hS
 have hP0 := hP
 replace hP := PK.up hR hP
 replace hS := hR.root
 refine MV.step0 (i := 0) rfl (VAL.move rfl) rfl rfl rfl ?_
 refine MV.lift1 (i := 2) rfl hK (V.ldAQ hS h2 rfl agg70) rfl rfl rfl [] (by kernel_rfl) fun x2 h3 => ?_
 refine MV.force (i := 1) rfl ?_
 refine LV.call hS h3 (g49_ok _ _ _ _ ) hP rfl rfl rfl rfl fun x3 T2 n2 h4 ρ its hS => ?_
 obtain ⟨hK, h5⟩ := KeepS.step hR hS h4
 refine LV.nextM [2] (by kernel_rfl) (fun _ => hK) ?_
 refine MV.force (i := 3) rfl ?_
 refine LV.call hS h5 (g48_ok _ _ _ _ _ ) hP rfl rfl rfl rfl fun x4 T3 n3 h6 ρ its hS => ?_
 refine LV.nextM [] (by kernel_rfl) (fun z => absurd rfl z) ?_
 refine MV.force (i := 4) rfl ?_
 refine as_ ?_
 refine LV.nextM [] (by kernel_rfl) (fun z => absurd rfl z) ?_
 replace hS := hR.up hS
 replace hP := hP0
 refine mdn (CV.ret ?_)
 cases h6
 exact PV.ret (by simp) results22 hS (RS.tmp rfl RS.nil) rfl
def g13 (ro : List HT) (a0 a1 : AV) (T : HT) (nx : Nat) : R :=
 callK (g23 ro a1 T nx) fun x1 T1 n1 =>
 callK (g22 ro a0 x1 T1 n1) fun x2 T2 n2 =>
 .ok (.val x2) T2 n2
theorem g13_ok (ro : List HT) (a0 a1 : AV) (T : HT) (nx : Nat) : GOk prog envE 13 [a0, a1] ro T nx (g13 ro a0 a1 T nx) := by
 refine GOk.of_body func13 rfl ntmps13 (by kernel_rfl) rfl fun r T' n' h1 w0 base ρ0 its hS hP => ?_
 have X : CtxW envE ρ0 ro r T' n' := trivial
 unfold g13 at h1
 refine sr ?_
 refine as_ ?_
 refine dn (sr ?_)
 iterate 2 refine mv ?_
 refine LV.call hS h1 (g23_ok _ _ _ _ ) hP rfl rfl rfl rfl fun x1 T1 n1 h2 ρ its hS => ?_
 refine LV.call hS h2 (g22_ok _ _ _ _ _ ) hP rfl rfl rfl rfl fun x2 T2 n2 h3 ρ its hS => ?_
 refine as_ ?_
 refine dn (CV.ret ?_)
 cases h3
 exact PV.ret (by simp) results13 hS (RS.tmp rfl RS.nil) rfl
def g4_k5 (ro : List HT) (y59 : AV) (T14 : HT) (n14 : Nat) : R :=
 .ok (.val y59) T14 n14
def g4_k4 (ro : List HT) (y10 y55 : AV) (T13 : HT) (n13 : Nat) : R :=
 condK 40050 y55
 (
  callK (g13 ro y10 (.lit (.int .i64 (.ofNat 104))) T13 n13) fun x22 T15 n15 =>
  g4_k5 ro x22 T15 n15
 )
 (
  g4_k5 ro (.lit (.bool false)) T13 n13
 )
def g4_k3 (ro : List HT) (y8 y10 y51 : AV) (T12 : HT) (n12 : Nat) : R :=
 condK 40055 y51
 (
  bin0 prog .eql 28 (.tmp 53) (.const (.nilIface)) 40057 y8 (.lit (.nilIface)) fun x23 =>
  g4_k4 ro y10 x23 T12 n12
 )
 (
  g4_k4 ro y10 (.lit (.bool false)) T12 n12
 )
def g4_k2 (ro : List HT) (y1 y3 y5 y32 : AV) (T5 : HT) (n5 : Nat) : R :=
 condK 40024 y32
 (
  .bad 40025
 )
 (
  callK (g6 ro y3 y5 T5 n5) fun x11 T6 n6 =>
  exK 40030 x11 0 fun x12 =>
  exK 40031 x11 1 fun x13 =>
  callK (g10 ro (.lit (.int .i64 (.ofNat 1))) T6 n6) fun x14 T7 n7 =>
  callK (g9 ro x14 T7 n7) fun x15 T8 n8 =>
  callK (g11 ro (.lit (.string ⟨⟨[97]⟩⟩)) T8 n8) fun x16 T9 n9 =>
  callK (g6 ro x15 x16 T9 n9) fun x17 T10 n10 =>
  exK 40039 x17 0 fun x18 =>
  exK 40040 x17 1 fun x19 =>
  callK (g12 ro y1 T10 n10) fun x20 T11 n11 =>
  eqSK prog 9 (.tmp 47) (.const (.string ⟨⟨[123, 34, 97, 34, 58, 32, 91, 49, 44, 32, 40, 50, 44, 41, 93, 125]⟩⟩)) 40045 x20 (.lit (.string ⟨⟨[123, 34, 97, 34, 58, 32, 91, 49, 44, 32, 40, 50, 44, 41, 93, 125]⟩⟩)) fun x21 =>
  condK 40060 x21
  (
   g4_k3 ro x13 x19 x12 T11 n11
  )
  (
   g4_k3 ro x13 x19 (.lit (.bool false)) T11 n11
  )
 )
def g4_k1 (ro : List HT) (y1 y3 y5 y6 y28 : AV) (T4 : HT) (n4 : Nat) : R :=
 condK 40064 y28
 (
  g4_k2 ro y1 y3 y5 (.lit (.bool true)) T4 n4
 )
 (
  notK 40067 y6 fun x24 =>
  g4_k2 ro y1 y3 y5 x24 T4 n4
 )
def g4 (ro : List HT) (T : HT) (nx : Nat) : R :=
 callK (g8 ro (.lit (.string ⟨⟨[123, 34, 97, 34, 58, 32, 91, 49, 44, 32, 40, 50, 44, 41, 93, 125]⟩⟩)) T nx) fun x1 T1 n1 =>
 exK 40004 x1 0 fun x2 =>
 exK 40005 x1 1 fun x3 =>
 callK (g8 ro (.lit (.string ⟨⟨[40, 49, 44, 32, 50, 41]⟩⟩)) T1 n1) fun x4 T2 n2 =>
 exK 40010 x4 0 fun x5 =>
 exK 40011 x4 1 fun x6 =>
 callK (g8 ro (.lit (.string ⟨⟨[40, 49, 44, 32, 51, 41]⟩⟩)) T2 n2) fun x7 T3 n3 =>
 exK 40016 x7 0 fun x8 =>
 exK 40017 x7 1 fun x9 =>
 notK 40021 x3 fun x10 =>
 condK 40069 x10
 (
  g4_k1 ro x2 x5 x8 x9 (.lit (.bool true)) T3 n3
 )
 (
  notK 40072 x6 fun x25 =>
  g4_k1 ro x2 x5 x8 x9 x25 T3 n3
 )
theorem g4_ok (ro : List HT) (T : HT) (nx : Nat) : GOk prog envE 4 [] ro T nx (g4 ro T nx) := by
 refine GOk.of_body func4 rfl ntmps4 (by kernel_rfl) rfl fun r T' n' h1 w0 base ρ0 its hS hP => ?_
 have X : CtxW envE ρ0 ro r T' n' := trivial
 unfold g4 at h1
 refine sr ?_
 refine as_ ?_
 refine dn (sr ?_)
 refine LV.call hS h1 (g8_ok _ _ _ _ ) hP rfl rfl rfl rfl fun x1 T1 n1 h2 ρ its hS => ?_
 refine mv ?_
 refine vy (V.ex h2 rfl) fun x2 h3 => ?_
 refine vy (V.ex h3 rfl) fun x3 h4 => ?_
 iterate 2 refine as_ ?_
 refine dn (sr ?_)
 refine LV.call hS h4 (g8_ok _ _ _ _ ) hP rfl rfl rfl rfl fun x4 T2 n2 h5 ρ its hS => ?_
 refine mv ?_
 refine vy (V.ex h5 rfl) fun x5 h6 => ?_
 refine vy (V.ex h6 rfl) fun x6 h7 => ?_
 iterate 2 refine as_ ?_
 refine dn (sr ?_)
 refine LV.call hS h7 (g8_ok _ _ _ _ ) hP rfl rfl rfl rfl fun x7 T3 n3 h8 ρ its hS => ?_
 refine mv ?_
 refine vy (V.ex h8 rfl) fun x8 h9 => ?_
 refine vy (V.ex h9 rfl) fun x9 h10 => ?_
 iterate 2 refine as_ ?_
 refine dn (CV.seq (sr ?_))
 refine mv ?_
 refine vy (V.not h10 rfl) fun x10 h11 => ?_
 refine mv ?_
 refine ls5 X 1 3 5 6 28 [(0, (.lit (.bool false)))] (g4_k1 ro) 3 ?_ ?_
 ·
  rcases condK_inv h11 with ⟨e, h36⟩ | ⟨e, h36⟩
  ·
   subst e
   iterate 2 refine sk ?_
   refine pu ?_
   exact la5 hS h36 ⟨rfl, rfl, rfl, rfl, rfl, rfl, trivial⟩
  subst e
  refine mv ?_
  refine vy (V.not h36 rfl) fun x25 h37 => ?_
  refine pu ?_
  exact la5 hS h37 ⟨rfl, rfl, rfl, rfl, rfl, rfl, trivial⟩
 intro y1 y3 y5 y6 y28 T4 n4 ρ its hS h12
 unfold g4_k1 at h12
 refine mv ?_
 refine ls4 X 1 3 5 32 [(0, (.lit (.bool false)))] (g4_k2 ro) 3 ?_ ?_
 ·
  rcases condK_inv h12 with ⟨e, h34⟩ | ⟨e, h34⟩
  ·
   subst e
   iterate 2 refine sk ?_
   refine pu ?_
   exact la4 hS h34 ⟨rfl, rfl, rfl, rfl, rfl, trivial⟩
  subst e
  refine mv ?_
  refine vy (V.not h34 rfl) fun x24 h35 => ?_
  refine pu ?_
  exact la4 hS h35 ⟨rfl, rfl, rfl, rfl, rfl, trivial⟩
 intro y1 y3 y5 y32 T5 n5 ρ its hS h13
 unfold g4_k2 at h13
 refine dn ?_
 refine CV.cond h13 rfl (fun e h14 => ?_) (fun e h14 => ?_)
 ·
  subst e
  cases h14
 subst e
 refine CV.skip (PV.thenN (sr ?_))
 iterate 2 refine mv ?_
 refine LV.call hS h14 (g6_ok _ _ _ _ _ ) hP rfl rfl rfl rfl fun x11 T6 n6 h15 ρ its hS => ?_
 refine mv ?_
 refine vy (V.ex h15 rfl) fun x12 h16 => ?_
 refine vy (V.ex h16 rfl) fun x13 h17 => ?_
 iterate 2 refine as_ ?_
 refine dn (sr ?_)
 refine LV.call hS h17 (g10_ok _ _ _ _ ) hP rfl rfl rfl rfl fun x14 T7 n7 h18 ρ its hS => ?_
 refine LV.call hS h18 (g9_ok _ _ _ _ ) hP rfl rfl rfl rfl fun x15 T8 n8 h19 ρ its hS => ?_
 refine LV.call hS h19 (g11_ok _ _ _ _ ) hP rfl rfl rfl rfl fun x16 T9 n9 h20 ρ its hS => ?_
 refine LV.call hS h20 (g6_ok _ _ _ _ _ ) hP rfl rfl rfl rfl fun x17 T10 n10 h21 ρ its hS => ?_
 refine mv ?_
 refine vy (V.ex h21 rfl) fun x18 h22 => ?_
 refine vy (V.ex h22 rfl) fun x19 h23 => ?_
 iterate 2 refine as_ ?_
 refine dn (sr ?_)
 refine mv ?_
 refine LV.call hS h23 (g12_ok _ _ _ _ ) hP rfl rfl rfl rfl fun x20 T11 n11 h24 ρ its hS => ?_
 refine vy (V.eqS h24 rfl rfl) fun x21 h25 => ?_
 refine mv ?_
 refine ls3 X 8 10 51 [(0, (.lit (.bool false)))] (g4_k3 ro) 2 ?_ ?_
 ·
  rcases condK_inv h25 with ⟨e, h33⟩ | ⟨e, h33⟩
  ·
   subst e
   refine mv ?_
   refine pu ?_
   exact la3 hS h33 ⟨rfl, rfl, rfl, rfl, trivial⟩
  subst e
  refine sk ?_
  refine pu ?_
  exact la3 hS h33 ⟨rfl, rfl, rfl, rfl, trivial⟩
 intro y8 y10 y51 T12 n12 ρ its hS h26
 unfold g4_k3 at h26
 refine mv ?_
 refine ls2 X 10 55 [(0, (.lit (.bool false)))] (g4_k4 ro) 3 ?_ ?_
 ·
  rcases condK_inv h26 with ⟨e, h31⟩ | ⟨e, h31⟩
  ·
   subst e
   refine mv ?_
   refine vy (V.bin0 h31 rfl rfl) fun x23 h32 => ?_
   refine pu ?_
   exact la2 hS h32 ⟨rfl, rfl, rfl, trivial⟩
  subst e
  iterate 2 refine sk ?_
  refine pu ?_
  exact la2 hS h31 ⟨rfl, rfl, rfl, trivial⟩
 intro y10 y55 T13 n13 ρ its hS h27
 unfold g4_k4 at h27
 refine mv ?_
 refine ls1 X 59 [(0, (.lit (.bool false)))] (g4_k5 ro) 3 ?_ ?_
 ·
  rcases condK_inv h27 with ⟨e, h29⟩ | ⟨e, h29⟩
  ·
   subst e
   refine mv ?_
   refine LV.call hS h29 (g13_ok _ _ _ _ _ ) hP rfl rfl rfl rfl fun x22 T15 n15 h30 ρ its hS => ?_
   refine pu ?_
   exact la1 hS h30 ⟨rfl, rfl, trivial⟩
  subst e
  iterate 2 refine sk ?_
  refine pu ?_
  exact la1 hS h29 ⟨rfl, rfl, trivial⟩
 intro y59 T14 n14 ρ its hS h28
 unfold g4_k5 at h28
 refine as_ ?_
 refine dn (CV.ret ?_)
 cases h28
 exact PV.ret (by simp) results4 hS (RS.tmp rfl RS.nil) rfl

end
end Go.Proofs.YtljaoofbklkglaaGreatDoor.Vo
