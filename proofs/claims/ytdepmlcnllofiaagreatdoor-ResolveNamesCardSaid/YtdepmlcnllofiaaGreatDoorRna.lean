/-
  Proved here: plain functions that do what the program's functions do, each with its proof.
-/
import Derived.Test.YtdepmlcnllofiaaGreatDoorRnf
namespace Go.Proofs.YtdepmlcnllofiaaGreatDoor.Rn
open Go.EY Go.EX Go.SX Go.RowKit
def envE : List (Nat × AV) := [(5, (.iface 253 (.opq 0))), (4, (.iface 253 (.opq 1))), (2, (.iface 253 (.opq 2))), (6, (.iface 253 (.opq 3))), (7, (.iface 253 (.opq 4))), (8, (.iface 253 (.opq 5))), (9, (.iface 253 (.opq 6))), (3, (.iface 253 (.opq 7))), (10, (.iface 253 (.opq 8))), (0, (.iface 253 (.opq 9))), (11, (.iface 253 (.opq 10))), (12, (.iface 253 (.opq 11))), (1, (.iface 253 (.opq 12))), (13, (.iface 253 (.opq 13))), (14, (.iface 253 (.opq 14))), (15, (.iface 253 (.opq 15))), (16, (.iface 253 (.opq 16)))]
noncomputable def bld32 (ps : List (Nat × AV)) : Option AV := (placesA Tryz.prog 32).bind fun q => (fillA q.2 (q.1.map .lit) ps).map .agg
noncomputable def bld36 (ps : List (Nat × AV)) : Option AV := (placesA Tryz.prog 36).bind fun q => (fillA q.2 (q.1.map .lit) ps).map .agg
noncomputable def bld56 (ps : List (Nat × AV)) : Option AV := (placesA Tryz.prog 56).bind fun q => (fillA q.2 (q.1.map .lit) ps).map .agg
noncomputable def bld58 (ps : List (Nat × AV)) : Option AV := (placesA Tryz.prog 58).bind fun q => (fillA q.2 (q.1.map .lit) ps).map .agg
noncomputable def bld69 (ps : List (Nat × AV)) : Option AV := (placesA Tryz.prog 69).bind fun q => (fillA q.2 (q.1.map .lit) ps).map .agg
noncomputable def bld74 (ps : List (Nat × AV)) : Option AV := (placesA Tryz.prog 74).bind fun q => (fillA q.2 (q.1.map .lit) ps).map .agg
noncomputable def bld98 (ps : List (Nat × AV)) : Option AV := (placesA Tryz.prog 98).bind fun q => (fillA q.2 (q.1.map .lit) ps).map .agg
noncomputable def bld114 (ps : List (Nat × AV)) : Option AV := (placesA Tryz.prog 114).bind fun q => (fillA q.2 (q.1.map .lit) ps).map .agg
noncomputable def bld123 (ps : List (Nat × AV)) : Option AV := (placesA Tryz.prog 123).bind fun q => (fillA q.2 (q.1.map .lit) ps).map .agg
noncomputable def bld139 (ps : List (Nat × AV)) : Option AV := (placesA Tryz.prog 139).bind fun q => (fillA q.2 (q.1.map .lit) ps).map .agg
noncomputable def bld155 (ps : List (Nat × AV)) : Option AV := (placesA Tryz.prog 155).bind fun q => (fillA q.2 (q.1.map .lit) ps).map .agg
noncomputable def bld168 (ps : List (Nat × AV)) : Option AV := (placesA Tryz.prog 168).bind fun q => (fillA q.2 (q.1.map .lit) ps).map .agg
noncomputable def bld197 (ps : List (Nat × AV)) : Option AV := (placesA Tryz.prog 197).bind fun q => (fillA q.2 (q.1.map .lit) ps).map .agg
noncomputable def g50 (ro : List HT) (a0 : AV) (T : HT) (nx : Nat) : R :=
 ncK 500003 a0 fun x4_1 =>
 faK 500004 x4_1 0 fun x5_2 =>
 ldK 500005 T ro x5_2 fun x6_3 =>
 ncK 500007 a0 fun x8_4 =>
 faK 500008 x8_4 1 fun x9_5 =>
 ldK 500009 T ro x9_5 fun x10_6 =>
 iaK 500010 x6_3 x10_6 3 fun x11_7 =>
 faK 500011 x11_7 0 fun x12_8 =>
 ldK 500012 T ro x12_8 fun x13_9 =>
 .ok (.val x13_9) T nx
theorem g50_ok (ro : List HT) (a0 : AV) (T : HT) (nx : Nat) : GOk Tryz.prog envE 50 [a0] ro T nx (g50 ro a0 T nx) := by
 refine GOk.of_body Tryz.func50 rfl Tryz.ntmps50 (by kernel_rfl) rfl fun r T' n' h1 w0 base ρ0 its hS hP => ?_
 have X : CtxW envE ρ0 ro r T' n' := trivial
 unfold g50 at h1
 refine sr ?_
 refine as_ ?_
 refine dn ?_
 refine CV.seq ?_
 refine CV.regionM [(0, .anywhere), (1, .anywhere), (2, .anywhere), (3, .held), (4, .anywhere), (5, .anywhere), (6, .anywhere), (7, .held), (8, .held), (9, .held), (10, .held), (11, .held)] rfl (fun c a a' w hd hq => PanicOk.root (P := Tryz.prog) (fn := Tryz.f50) (w0 := w0) (base := base) (E := envE) (ro := ro) (r := r) (T' := T') (n' := n') (ρ0 := ρ0) c a a' w hd hq) (by kernel_rfl) ?_
 refine MV.step0 (i := 0) rfl (VAL.move rfl) rfl rfl rfl ?_
 refine MV.lift0 (i := 1) rfl (V.nc h1 rfl) rfl rfl rfl fun x4_1 h2 => ?_
 refine MV.lift0 (i := 2) rfl (V.fa h2 rfl Rnf.fo98_0) rfl rfl rfl fun x5_2 h3 => ?_
 refine MV.lift1 (i := 3) rfl (fun _ z => z) (V.ld hS h3 rfl Rnf.one96) rfl rfl rfl [] (by kernel_rfl) fun x6_3 h4 => ?_
 refine MV.step0 (i := 4) rfl (VAL.move rfl) rfl rfl rfl ?_
 refine MV.lift0 (i := 5) rfl (V.nc h4 rfl) rfl rfl rfl fun x8_4 h5 => ?_
 refine MV.lift0 (i := 6) rfl (V.fa h5 rfl Rnf.fo98_1) rfl rfl rfl fun x9_5 h6 => ?_
 refine MV.lift1 (i := 7) rfl (fun _ z => z) (V.ld hS h6 rfl Rnf.one3) rfl rfl rfl [3] (by kernel_rfl) fun x10_6 h7 => ?_
 refine MV.lift1 (i := 8) rfl (fun _ z => z) (V.ia h7 rfl rfl Rnf.el96) rfl rfl rfl [] (by kernel_rfl) fun x11_7 h8 => ?_
 refine MV.lift1 (i := 9) rfl (fun _ z => z) (V.fa h8 rfl Rnf.fo139_0) rfl rfl rfl [] (by kernel_rfl) fun x12_8 h9 => ?_
 refine MV.lift1 (i := 10) rfl (fun _ z => z) (V.ld hS h9 rfl Rnf.one3) rfl rfl rfl [] (by kernel_rfl) fun x13_9 h10 => ?_
 refine MV.step1 (i := 11) rfl (fun _ z => z) (VAL.assign rfl) rfl rfl rfl [] (by kernel_rfl) ?_
 refine mdn ?_
 refine CV.ret ?_
 cases h10
 exact PV.ret (by simp) Tryz.results50 hS (RS.tmp rfl RS.nil) rfl
noncomputable def g51_k1 (ro : List HT) (y4 y5 y6 : AV) (T4 : HT) (n4 : Nat) : R :=
 faK 510021 y6 1 fun x32_12 =>
 ldK 510022 T4 ro x32_12 fun x33_13 =>
 faK 510023 y6 2 fun x34_14 =>
 ldK 510024 T4 ro x34_14 fun x35_15 =>
 .ok (.val (.tup [x33_13, x35_15])) T4 n4
noncomputable def g51 (ro : List HT) (a0 a1 : AV) (T : HT) (nx : Nat) : R :=
 callK (g50 ro a0 T nx) fun x8_1 T1 n1 =>
 neK Tryz.prog 3 (.tmp 8) (.tmp 9) 510006 x8_1 a1 fun x10_2 =>
 condK 510007 x10_2
 (
  .bad 510008
 )
 (
  ncK 510010 a0 fun x14_3 =>
  faK 510011 x14_3 0 fun x15_4 =>
  ldK 510012 T1 ro x15_4 fun x16_5 =>
  ncK 510014 a0 fun x18_6 =>
  faK 510015 x18_6 1 fun x19_7 =>
  ldK 510016 T1 ro x19_7 fun x20_8 =>
  iaK 510017 x16_5 x20_8 3 fun x21_9 =>
  ldAK 510018 T1 ro x21_9 3 fun x22_10 =>
  newK T1 n1 (.obj [.lit (.int .i64 0), .lit (.string ⟨#[]⟩), .lit (.int .i64 0)] 139) fun x6_11 T2 n2 =>
  stAK 510020 T2 x6_11 x22_10 3 fun T3 =>
  neK Tryz.prog 3 (.tmp 23) (.const (.int .i64 (.ofNat 8))) 510028 a1 (.lit (.int .i64 (.ofNat 8))) fun x24_16 =>
  condK 510029 x24_16
  (
   fldK 510031 T3 ro a0 1 fun x28_17 =>
   addK Tryz.prog 3 (.tmp 28) (.const (.int .i64 (.ofNat 1))) 510032 x28_17 (.lit (.int .i64 (.ofNat 1))) fun x29_18 =>
   faK 510033 a0 1 fun x31_19 =>
   stK 510034 T3 x31_19 x29_18 fun T5 =>
   g51_k1 ro (.lit (.string ⟨⟨[]⟩⟩)) (.lit (.int .i64 (.ofNat 0))) x6_11 T5 n2
  )
  (
   g51_k1 ro (.lit (.string ⟨⟨[]⟩⟩)) (.lit (.int .i64 (.ofNat 0))) x6_11 T3 n2
  )
 )
theorem g51_ok (ro : List HT) (a0 a1 : AV) (T : HT) (nx : Nat) : GOk Tryz.prog envE 51 [a0, a1] ro T nx (g51 ro a0 a1 T nx) := by
 refine GOk.of_body Tryz.func51 rfl Tryz.ntmps51 (by kernel_rfl) rfl fun r T' n' h1 w0 base ρ0 its hS hP => ?_
 have X : CtxW envE ρ0 ro r T' n' := trivial
 unfold g51 at h1
 refine sr ?_
 refine as_ ?_
 refine as_ ?_
 refine dn ?_
 refine CV.seq ?_
 refine sr ?_
 refine mv ?_
 refine LV.call hS h1 (g50_ok _ _ _ _ ) hP rfl rfl rfl rfl fun x8_1 T1 n1 h2 ρ its hS => ?_
 refine mv ?_
 refine vy (V.ne h2 rfl rfl) fun x10_2 h3 => ?_
 refine dn ?_
 refine CV.cond h3 rfl (fun e h4 => ?_) (fun e h4 => ?_)
 ·
  clear h1 h2 h3
  subst e
  cases h4
 ·
  clear h1 h2 h3
  subst e
  refine CV.skip ?_
  refine PV.thenN ?_
  refine CV.seq ?_
  refine CV.regionM [(0, .anywhere), (1, .anywhere), (2, .anywhere), (3, .held), (4, .anywhere), (5, .anywhere), (6, .anywhere), (7, .held), (8, .held), (9, .held), (10, .alone), (11, .alone)] rfl (fun c a a' w hd hq => PanicOk.root (P := Tryz.prog) (fn := Tryz.f51) (w0 := w0) (base := base) (E := envE) (ro := ro) (r := r) (T' := T') (n' := n') (ρ0 := ρ0) c a a' w hd hq) (by kernel_rfl) ?_
  refine MV.step0 (i := 0) rfl (VAL.move rfl) rfl rfl rfl ?_
  refine MV.lift0 (i := 1) rfl (V.nc h4 rfl) rfl rfl rfl fun x14_3 h5 => ?_
  refine MV.lift0 (i := 2) rfl (V.fa h5 rfl Rnf.fo98_0) rfl rfl rfl fun x15_4 h6 => ?_
  refine MV.lift1 (i := 3) rfl (fun _ z => z) (V.ld hS h6 rfl Rnf.one96) rfl rfl rfl [] (by kernel_rfl) fun x16_5 h7 => ?_
  refine MV.step0 (i := 4) rfl (VAL.move rfl) rfl rfl rfl ?_
  refine MV.lift0 (i := 5) rfl (V.nc h7 rfl) rfl rfl rfl fun x18_6 h8 => ?_
  refine MV.lift0 (i := 6) rfl (V.fa h8 rfl Rnf.fo98_1) rfl rfl rfl fun x19_7 h9 => ?_
  refine MV.lift1 (i := 7) rfl (fun _ z => z) (V.ld hS h9 rfl Rnf.one3) rfl rfl rfl [3] (by kernel_rfl) fun x20_8 h10 => ?_
  refine MV.lift1 (i := 8) rfl (fun _ z => z) (V.ia h10 rfl rfl Rnf.el96) rfl rfl rfl [] (by kernel_rfl) fun x21_9 h11 => ?_
  refine MV.lift1 (i := 9) rfl (fun _ z => z) (V.ldA hS h11 rfl Rnf.agg139) rfl rfl rfl [] (by kernel_rfl) fun x22_10 h12 => ?_
  refine MV.force (i := 10) rfl ?_
  refine LV.alloc hS h12 rfl Rnf.zr139 rfl rfl rfl fun x6_11 T2 n2 h13 ρ its hS hdr => ?_
  refine LV.nextM [9] (by kernel_rfl) (fun _ => hdr) ?_
  refine MV.force (i := 11) rfl ?_
  refine LV.stA hS h13 rfl rfl rfl Rnf.agg139 rfl rfl rfl fun T3 its h14 hS => ?_
  refine LV.nextM [] (by kernel_rfl) (fun z => absurd rfl z) ?_
  refine mdn ?_
  refine cs3 X 4 5 6 [] (g51_k1 ro) ?_ ?_
  ·
   refine sr ?_
   refine mv ?_
   refine vy (V.ne h14 rfl rfl) fun x24_16 h20 => ?_
   refine dn ?_
   refine CV.cond h20 rfl (fun e h21 => ?_) (fun e h21 => ?_)
   ·
    clear h4 h5 h6 h7 h8 h9 h10 h11 h12 h13 h14 h20
    subst e
    refine CV.region ?_
    refine mv ?_
    refine fl hS h21 Rnf.fo98_1 Rnf.one3 fun x28_17 h22 => ?_
    refine vy (V.add h22 rfl rfl) fun x29_18 h23 => ?_
    refine fa2 h23 Rnf.fo98_1 fun x31_19 h24 => ?_
    refine LV.st hS h24 rfl rfl rfl Rnf.siz3 rfl rfl fun T5 its h25 hS => ?_
    refine LV.done ?_
    exact pa3 hS h25 ⟨rfl, rfl, rfl, trivial⟩
   ·
    clear h4 h5 h6 h7 h8 h9 h10 h11 h12 h13 h14 h20
    subst e
    refine CV.skip ?_
    exact pa3 hS h21 ⟨rfl, rfl, rfl, trivial⟩
  ·
   intro y4 y5 y6 T4 n4 ρ its hS h15
   unfold g51_k1 at h15
   clear h4 h5 h6 h7 h8 h9 h10 h11 h12 h13 h14
   refine CV.seq ?_
   refine CV.regionM [(0, .anywhere), (1, .held), (2, .anywhere), (3, .held), (4, .held), (5, .held)] rfl (fun c a a' w hd hq => PanicOk.root (P := Tryz.prog) (fn := Tryz.f51) (w0 := w0) (base := base) (E := envE) (ro := ro) (r := r) (T' := T') (n' := n') (ρ0 := ρ0) c a a' w hd hq) (by kernel_rfl) ?_
   refine MV.lift0 (i := 0) rfl (V.fa h15 rfl Rnf.fo139_1) rfl rfl rfl fun x32_12 h16 => ?_
   refine MV.lift1 (i := 1) rfl (fun _ z => z) (V.ld hS h16 rfl Rnf.one9) rfl rfl rfl [] (by kernel_rfl) fun x33_13 h17 => ?_
   refine MV.lift0 (i := 2) rfl (V.fa h17 rfl Rnf.fo139_2) rfl rfl rfl fun x34_14 h18 => ?_
   refine MV.lift1 (i := 3) rfl (fun _ z => z) (V.ld hS h18 rfl Rnf.one3) rfl rfl rfl [1] (by kernel_rfl) fun x35_15 h19 => ?_
   refine MV.step1 (i := 4) rfl (fun _ z => z) (VAL.assign rfl) rfl rfl rfl [3] (by kernel_rfl) ?_
   refine MV.step1 (i := 5) rfl (fun _ z => z) (VAL.assign rfl) rfl rfl rfl [] (by kernel_rfl) ?_
   refine mdn ?_
   refine CV.ret ?_
   cases h19
   exact PV.ret (by simp) Tryz.results51 hS (RS.tmp rfl (RS.tmp rfl RS.nil)) rfl
noncomputable def g147_b1 (ro : List HT) (lp1 : AV → AV → AV → AV → AV → HT → Nat → R) (y0 y1 y4 y7 y8 : AV) (T1 : HT) (n1 : Nat) : R :=
 ltK Tryz.prog 3 (.tmp 8) (.tmp 7) 1470006 y8 y7 fun x9_2 =>
 condK 1470007 x9_2
 (
  iaK 1470013 y0 y8 1 fun x14_3 =>
  ldK 1470014 T1 ro x14_3 fun x15_4 =>
  eqSK Tryz.prog 9 (.tmp 11) (.tmp 15) 1470015 y1 x15_4 fun x16_5 =>
  condK 1470016 x16_5
  (
   .ok (.val y8) T1 n1
  )
  (
   addK Tryz.prog 3 (.tmp 8) (.const (.int .i64 (.ofNat 1))) 1470019 y8 (.lit (.int .i64 (.ofNat 1))) fun x18_6 =>
   lp1 y0 y1 y4 y7 x18_6 T1 n1
  )
 )
 (
  .ok (.val (.lit (.int .i64 (.negSucc 0)))) T1 n1
 )
noncomputable def g147 (ro : List HT) (a0 a1 : AV) (T : HT) (nx : Nat) : R :=
 lenSK 1470003 a0 fun x7_1 =>
 lpf5 1470005 (g147_b1 ro) 100000 a0 a1 (.lit (.int .i64 (.ofNat 0))) x7_1 (.lit (.int .i64 (.ofNat 0))) T nx
theorem g147_ok (ro : List HT) (a0 a1 : AV) (T : HT) (nx : Nat) : GOk Tryz.prog envE 147 [a0, a1] ro T nx (g147 ro a0 a1 T nx) := by
 refine GOk.of_body Tryz.func147 rfl Tryz.ntmps147 (by kernel_rfl) rfl fun r T' n' h1 w0 base ρ0 its hS hP => ?_
 have X : CtxW envE ρ0 ro r T' n' := trivial
 unfold g147 at h1
 refine sr ?_
 refine as_ ?_
 refine dn ?_
 refine CV.seq ?_
 refine sr ?_
 refine mv ?_
 refine vy (V.lenS h1 rfl Rnf.ls46) fun x7_1 h2 => ?_
 refine mv ?_
 refine dn ?_
 refine CV.block ?_
 refine cl5 X 0 1 4 7 8 [] hS h2 ⟨rfl, rfl, rfl, rfl, rfl, trivial⟩ ?_
 intro f1 y0 y1 y4 y7 y8 T1 n1 ρ its hS h3
 unfold g147_b1 at h3
 clear h1 h2
 refine sr ?_
 refine vy (V.lt h3 rfl rfl) fun x9_2 h4 => ?_
 refine dn ?_
 refine CV.seq ?_
 refine CV.cond h4 rfl (fun e h5 => ?_) (fun e h5 => ?_)
 ·
  clear h3 h4
  subst e
  refine CV.skip ?_
  refine PV.thenN ?_
  refine CV.seq ?_
  refine CV.block ?_
  refine sr ?_
  refine mv ?_
  refine as_ ?_
  refine dn ?_
  refine sr ?_
  refine mv ?_
  refine mv ?_
  refine mv ?_
  refine vy (V.ia h5 rfl rfl Rnf.el46) fun x14_3 h6 => ?_
  refine vy (V.ld hS h6 rfl Rnf.one9) fun x15_4 h7 => ?_
  refine vy (V.eqS h7 rfl rfl) fun x16_5 h8 => ?_
  refine dn ?_
  refine CV.cond h8 rfl (fun e h9 => ?_) (fun e h9 => ?_)
  ·
   clear h5 h6 h7 h8
   subst e
   refine sr ?_
   refine mv ?_
   refine as_ ?_
   refine dn ?_
   refine CV.ret ?_
   refine PV.blockR ?_
   refine PV.thenR ?_
   refine PV.thenR ?_
   refine PV.blockR ?_
   refine PV.thenR ?_
   cases h9
   exact PV.ret (by simp) Tryz.results147 hS (RS.tmp rfl RS.nil) rfl
  ·
   clear h5 h6 h7 h8
   subst e
   refine CV.skip ?_
   refine PV.blockN ?_
   refine PV.thenN ?_
   refine CV.region ?_
   refine vy (V.add h9 rfl rfl) fun x18_6 h10 => ?_
   refine mv ?_
   refine LV.done ?_
   exact pb5 hS h10 ⟨rfl, rfl, rfl, rfl, rfl, trivial⟩
 ·
  clear h3 h4
  subst e
  refine CV.exit ?_
  refine PV.thenE ?_
  refine PV.thenE ?_
  refine PV.blockE ?_
  refine PV.thenN ?_
  refine sr ?_
  refine as_ ?_
  refine dn ?_
  refine CV.ret ?_
  cases h5
  exact PV.ret (by simp) Tryz.results147 hS (RS.tmp rfl RS.nil) rfl
noncomputable def g87 (ro : List HT) (a0 a1 : AV) (T : HT) (nx : Nat) : R :=
 callK (g147 ro a0 a1 T nx) fun x7_1 T1 n1 =>
 geK Tryz.prog 3 (.tmp 7) (.const (.int .i64 (.ofNat 0))) 870005 x7_1 (.lit (.int .i64 (.ofNat 0))) fun x8_2 =>
 .ok (.val x8_2) T1 n1
theorem g87_ok (ro : List HT) (a0 a1 : AV) (T : HT) (nx : Nat) : GOk Tryz.prog envE 87 [a0, a1] ro T nx (g87 ro a0 a1 T nx) := by
 refine GOk.of_body Tryz.func87 rfl Tryz.ntmps87 (by kernel_rfl) rfl fun r T' n' h1 w0 base ρ0 its hS hP => ?_
 have X : CtxW envE ρ0 ro r T' n' := trivial
 unfold g87 at h1
 refine sr ?_
 refine as_ ?_
 refine dn ?_
 refine sr ?_
 refine mv ?_
 refine mv ?_
 refine LV.call hS h1 (g147_ok _ _ _ _ _ ) hP rfl rfl rfl rfl fun x7_1 T1 n1 h2 ρ its hS => ?_
 refine vy (V.ge h2 rfl rfl) fun x8_2 h3 => ?_
 refine as_ ?_
 refine dn ?_
 refine CV.ret ?_
 cases h3
 exact PV.ret (by simp) Tryz.results87 hS (RS.tmp rfl RS.nil) rfl
noncomputable def g99 (ro : List HT) (a0 a1 : AV) (T : HT) (nx : Nat) : R :=
 callQ 990003 (g50 (T :: ro) a0 .nil nx) fun x6_1 =>
 eqK Tryz.prog 3 (.tmp 6) (.const (.int .i64 (.ofNat 4))) 990004 x6_1 (.lit (.int .i64 (.ofNat 4))) fun x7_2 =>
 condK 990006 x7_2
 (
  ncK 990009 a0 fun x11_3 =>
  faK 990010 x11_3 0 fun x12_4 =>
  ldK 990011 T ro x12_4 fun x13_5 =>
  ncK 990013 a0 fun x15_6 =>
  faK 990014 x15_6 1 fun x16_7 =>
  ldK 990015 T ro x16_7 fun x17_8 =>
  iaK 990016 x13_5 x17_8 3 fun x18_9 =>
  faK 990017 x18_9 1 fun x19_10 =>
  ldK 990018 T ro x19_10 fun x20_11 =>
  callQ 990019 (g87 (T :: ro) a1 x20_11 .nil nx) fun x21_12 =>
  .ok (.val x21_12) T nx
 )
 (
  .ok (.val (.lit (.bool false))) T nx
 )
theorem g99_ok (ro : List HT) (a0 a1 : AV) (T : HT) (nx : Nat) : GOk Tryz.prog envE 99 [a0, a1] ro T nx (g99 ro a0 a1 T nx) := by
 refine GOk.of_body Tryz.func99 rfl Tryz.ntmps99 (by kernel_rfl) rfl fun r T' n' h1 w0 base ρ0 its hS hP => ?_
 have X : CtxW envE ρ0 ro r T' n' := trivial
 unfold g99 at h1
 refine sr ?_
 refine as_ ?_
 refine dn ?_
 refine CV.seq ?_
 refine CV.regionM [(0, .anywhere), (1, .alone), (2, .anywhere), (3, .anywhere), (4, .anywhere), (5, .anywhere), (6, .anywhere), (7, .anywhere), (8, .held), (9, .anywhere), (10, .anywhere), (11, .anywhere), (12, .held), (13, .held), (14, .held), (15, .held), (16, .alone), (17, .anywhere), (18, .anywhere)] rfl (fun c a a' w hd hq => PanicOk.root (P := Tryz.prog) (fn := Tryz.f99) (w0 := w0) (base := base) (E := envE) (ro := ro) (r := r) (T' := T') (n' := n') (ρ0 := ρ0) c a a' w hd hq) (by kernel_rfl) ?_
 refine MV.step0 (i := 0) rfl (VAL.move rfl) rfl rfl rfl ?_
 refine MV.force (i := 1) rfl ?_
 refine LV.callQ hS h1 (g50_ok _ _ _ _ ) rfl rfl rfl rfl fun x6_1 h2 => ?_
 refine LV.nextM [] (by kernel_rfl) (fun z => absurd rfl z) ?_
 refine MV.lift0 (i := 2) rfl (V.eq h2 rfl rfl) rfl rfl rfl fun x7_2 h3 => ?_
 refine MV.step0 (i := 3) rfl (VAL.move rfl) rfl rfl rfl ?_
 rcases condK_inv h3 with ⟨e, h4⟩ | ⟨e, h4⟩
 ·
  clear h1 h2 h3
  subst e
  refine MV.step0 (i := 4) rfl (VAL.move rfl) rfl rfl rfl ?_
  refine MV.step0 (i := 5) rfl (VAL.move rfl) rfl rfl rfl ?_
  refine MV.lift0 (i := 6) rfl (V.nc h4 rfl) rfl rfl rfl fun x11_3 h5 => ?_
  refine MV.lift0 (i := 7) rfl (V.fa h5 rfl Rnf.fo98_0) rfl rfl rfl fun x12_4 h6 => ?_
  refine MV.lift1 (i := 8) rfl (fun _ z => z) (V.ld hS h6 rfl Rnf.one96) rfl rfl rfl [] (by kernel_rfl) fun x13_5 h7 => ?_
  refine MV.step0 (i := 9) rfl (VAL.move rfl) rfl rfl rfl ?_
  refine MV.lift0 (i := 10) rfl (V.nc h7 rfl) rfl rfl rfl fun x15_6 h8 => ?_
  refine MV.lift0 (i := 11) rfl (V.fa h8 rfl Rnf.fo98_1) rfl rfl rfl fun x16_7 h9 => ?_
  refine MV.lift1 (i := 12) rfl (fun _ z => z) (V.ld hS h9 rfl Rnf.one3) rfl rfl rfl [8] (by kernel_rfl) fun x17_8 h10 => ?_
  refine MV.lift1 (i := 13) rfl (fun _ z => z) (V.ia h10 rfl rfl Rnf.el96) rfl rfl rfl [] (by kernel_rfl) fun x18_9 h11 => ?_
  refine MV.lift1 (i := 14) rfl (fun _ z => z) (V.fa h11 rfl Rnf.fo139_1) rfl rfl rfl [] (by kernel_rfl) fun x19_10 h12 => ?_
  refine MV.lift1 (i := 15) rfl (fun _ z => z) (V.ld hS h12 rfl Rnf.one9) rfl rfl rfl [] (by kernel_rfl) fun x20_11 h13 => ?_
  refine MV.force (i := 16) rfl ?_
  refine LV.callQ hS h13 (g87_ok _ _ _ _ _ ) rfl rfl rfl rfl fun x21_12 h14 => ?_
  refine LV.nextM [] (by kernel_rfl) (fun z => absurd rfl z) ?_
  refine MV.step0 (i := 17) rfl (VAL.pure rfl) rfl rfl rfl ?_
  refine MV.step0 (i := 18) rfl (VAL.assign rfl) rfl rfl rfl ?_
  refine mdn ?_
  refine CV.ret ?_
  cases h14
  exact PV.ret (by simp) Tryz.results99 hS (RS.tmp rfl RS.nil) rfl
 ·
  clear h1 h2 h3
  subst e
  refine MV.skip0 (i := 4) rfl rfl rfl rfl ?_
  refine MV.skip0 (i := 5) rfl rfl rfl rfl ?_
  refine MV.skip0 (i := 6) rfl rfl rfl rfl ?_
  refine MV.skip0 (i := 7) rfl rfl rfl rfl ?_
  refine MV.skip1 (i := 8) rfl (fun _ z => z) rfl rfl rfl [] (by kernel_rfl) ?_
  refine MV.skip0 (i := 9) rfl rfl rfl rfl ?_
  refine MV.skip0 (i := 10) rfl rfl rfl rfl ?_
  refine MV.skip0 (i := 11) rfl rfl rfl rfl ?_
  refine MV.skip1 (i := 12) rfl (fun _ z => z) rfl rfl rfl [8] (by kernel_rfl) ?_
  refine MV.skip1 (i := 13) rfl (fun _ z => z) rfl rfl rfl [] (by kernel_rfl) ?_
  refine MV.skip1 (i := 14) rfl (fun _ z => z) rfl rfl rfl [] (by kernel_rfl) ?_
  refine MV.skip1 (i := 15) rfl (fun _ z => z) rfl rfl rfl [] (by kernel_rfl) ?_
  refine MV.force (i := 16) rfl ?_
  refine sk ?_
  refine LV.nextM [] (by kernel_rfl) (fun z => absurd rfl z) ?_
  refine MV.step0 (i := 17) rfl (VAL.pure rfl) rfl rfl rfl ?_
  refine MV.step0 (i := 18) rfl (VAL.assign rfl) rfl rfl rfl ?_
  refine mdn ?_
  refine CV.ret ?_
  cases h4
  exact PV.ret (by simp) Tryz.results99 hS (RS.tmp rfl RS.nil) rfl
noncomputable def g65 (ro : List HT) (a0 a1 a2 a3 a4 : AV) (T : HT) (nx : Nat) : R :=
 fldK 650004 T ro a0 2 fun x15_1 =>
 optK 650009 (bld32 [(0, a1), (2, a2), (3, a3), (4, a4)]) fun x20_2 =>
 bsK 650010 T nx 1 32 5 [(0, x20_2)] fun x21_3 T1 n1 =>
 shrK 650012 T1 x15_1 fun T2 =>
 appK 650011 T2 ro n1 32 5 64 x15_1 x21_3 fun x22_4 T3 n3 =>
 faK 650013 a0 2 fun x24_5 =>
 stK 650014 T3 x24_5 x22_4 fun T4 =>
 fldK 650016 T4 ro a0 2 fun x28_6 =>
 lenSK 650017 x28_6 fun x29_7 =>
 subK Tryz.prog 3 (.tmp 29) (.const (.int .i64 (.ofNat 1))) 650018 x29_7 (.lit (.int .i64 (.ofNat 1))) fun x30_8 =>
 .ok (.val x30_8) T4 n3
theorem g65_ok (ro : List HT) (a0 a1 a2 a3 a4 : AV) (T : HT) (nx : Nat) : GOk Tryz.prog envE 65 [a0, a1, a2, a3, a4] ro T nx (g65 ro a0 a1 a2 a3 a4 T nx) := by
 refine GOk.of_body Tryz.func65 rfl Tryz.ntmps65 (by kernel_rfl) rfl fun r T' n' h1 w0 base ρ0 its hS hP => ?_
 have X : CtxW envE ρ0 ro r T' n' := trivial
 unfold g65 at h1
 refine sr ?_
 refine as_ ?_
 refine dn ?_
 refine sr ?_
 refine mv ?_
 refine mv ?_
 refine fl hS h1 Rnf.fo98_2 Rnf.one23 fun x15_1 h2 => ?_
 refine mv ?_
 refine mv ?_
 refine mv ?_
 refine mv ?_
 refine vy (V.bld h2 rfl) fun x20_2 h3 => ?_
 refine LV.bslice hS h3 rfl rfl Rnf.el23 rfl rfl rfl rfl fun x21_3 T1 n1 h4 ρ its hS hdr => ?_
 obtain ⟨T2, its1, h5, hS, hW⟩ := shrK_inv hS h4
 refine LV.world hW ?_
 refine LV.app hS h5 rfl rfl rfl rfl Rnf.el23 rfl rfl rfl fun x22_4 T3 n3 h6 ρ its hS => ?_
 refine fa2 h6 Rnf.fo98_2 fun x24_5 h7 => ?_
 refine LV.st hS h7 rfl rfl rfl Rnf.siz23 rfl rfl fun T4 its h8 hS => ?_
 refine dn ?_
 refine sr ?_
 refine mv ?_
 refine fl hS h8 Rnf.fo98_2 Rnf.one23 fun x28_6 h9 => ?_
 refine vy (V.lenS h9 rfl Rnf.ls23) fun x29_7 h10 => ?_
 refine vy (V.sub h10 rfl rfl) fun x30_8 h11 => ?_
 refine as_ ?_
 refine dn ?_
 refine CV.ret ?_
 cases h11
 exact PV.ret (by simp) Tryz.results65 hS (RS.tmp rfl RS.nil) rfl
noncomputable def g131 (ro : List HT) (a0 a1 : AV) (T : HT) (nx : Nat) : R :=
 bsK 1310004 T nx 1 9 1 [(0, a1)] fun x7_1 T1 n1 =>
 callK (g99 ro a0 x7_1 T1 n1) fun x8_2 T2 n2 =>
 notK 1310006 x8_2 fun x9_3 =>
 condK 1310007 x9_3
 (
  .ok (.val (.lit (.bool false))) T2 n2
 )
 (
  fldK 1310010 T2 ro a0 1 fun x13_4 =>
  addK Tryz.prog 3 (.tmp 13) (.const (.int .i64 (.ofNat 1))) 1310011 x13_4 (.lit (.int .i64 (.ofNat 1))) fun x14_5 =>
  faK 1310012 a0 1 fun x16_6 =>
  stK 1310013 T2 x16_6 x14_5 fun T3 =>
  .ok (.val (.lit (.bool true))) T3 n2
 )
theorem g131_ok (ro : List HT) (a0 a1 : AV) (T : HT) (nx : Nat) : GOk Tryz.prog envE 131 [a0, a1] ro T nx (g131 ro a0 a1 T nx) := by
 refine GOk.of_body Tryz.func131 rfl Tryz.ntmps131 (by kernel_rfl) rfl fun r T' n' h1 w0 base ρ0 its hS hP => ?_
 have X : CtxW envE ρ0 ro r T' n' := trivial
 unfold g131 at h1
 refine sr ?_
 refine as_ ?_
 refine dn ?_
 refine CV.seq ?_
 refine sr ?_
 refine mv ?_
 refine mv ?_
 refine LV.bslice hS h1 rfl rfl Rnf.el46 rfl rfl rfl rfl fun x7_1 T1 n1 h2 ρ its hS hdr => ?_
 refine LV.call hS h2 (g99_ok _ _ _ _ _ ) hP rfl rfl rfl rfl fun x8_2 T2 n2 h3 ρ its hS => ?_
 refine vy (V.not h3 rfl) fun x9_3 h4 => ?_
 refine dn ?_
 refine CV.cond h4 rfl (fun e h5 => ?_) (fun e h5 => ?_)
 ·
  clear h1 h2 h3 h4
  subst e
  refine sr ?_
  refine as_ ?_
  refine dn ?_
  refine CV.ret ?_
  refine PV.thenR ?_
  cases h5
  exact PV.ret (by simp) Tryz.results131 hS (RS.tmp rfl RS.nil) rfl
 ·
  clear h1 h2 h3 h4
  subst e
  refine CV.skip ?_
  refine PV.thenN ?_
  refine sr ?_
  refine mv ?_
  refine fl hS h5 Rnf.fo98_1 Rnf.one3 fun x13_4 h6 => ?_
  refine vy (V.add h6 rfl rfl) fun x14_5 h7 => ?_
  refine fa2 h7 Rnf.fo98_1 fun x16_6 h8 => ?_
  refine LV.st hS h8 rfl rfl rfl Rnf.siz3 rfl rfl fun T3 its h9 hS => ?_
  refine dn ?_
  refine sr ?_
  refine as_ ?_
  refine dn ?_
  refine CV.ret ?_
  cases h9
  exact PV.ret (by simp) Tryz.results131 hS (RS.tmp rfl RS.nil) rfl
noncomputable def g129 (ro : List HT) (a0 : AV) (T : HT) (nx : Nat) : R :=
 ncK 1290003 a0 fun x4_1 =>
 faK 1290004 x4_1 0 fun x5_2 =>
 ldK 1290005 T ro x5_2 fun x6_3 =>
 ncK 1290007 a0 fun x8_4 =>
 faK 1290008 x8_4 1 fun x9_5 =>
 ldK 1290009 T ro x9_5 fun x10_6 =>
 iaK 1290010 x6_3 x10_6 3 fun x11_7 =>
 faK 1290011 x11_7 2 fun x12_8 =>
 ldK 1290012 T ro x12_8 fun x13_9 =>
 .ok (.val x13_9) T nx
theorem g129_ok (ro : List HT) (a0 : AV) (T : HT) (nx : Nat) : GOk Tryz.prog envE 129 [a0] ro T nx (g129 ro a0 T nx) := by
 refine GOk.of_body Tryz.func129 rfl Tryz.ntmps129 (by kernel_rfl) rfl fun r T' n' h1 w0 base ρ0 its hS hP => ?_
 have X : CtxW envE ρ0 ro r T' n' := trivial
 unfold g129 at h1
 refine sr ?_
 refine as_ ?_
 refine dn ?_
 refine CV.seq ?_
 refine CV.regionM [(0, .anywhere), (1, .anywhere), (2, .anywhere), (3, .held), (4, .anywhere), (5, .anywhere), (6, .anywhere), (7, .held), (8, .held), (9, .held), (10, .held), (11, .held)] rfl (fun c a a' w hd hq => PanicOk.root (P := Tryz.prog) (fn := Tryz.f129) (w0 := w0) (base := base) (E := envE) (ro := ro) (r := r) (T' := T') (n' := n') (ρ0 := ρ0) c a a' w hd hq) (by kernel_rfl) ?_
 refine MV.step0 (i := 0) rfl (VAL.move rfl) rfl rfl rfl ?_
 refine MV.lift0 (i := 1) rfl (V.nc h1 rfl) rfl rfl rfl fun x4_1 h2 => ?_
 refine MV.lift0 (i := 2) rfl (V.fa h2 rfl Rnf.fo98_0) rfl rfl rfl fun x5_2 h3 => ?_
 refine MV.lift1 (i := 3) rfl (fun _ z => z) (V.ld hS h3 rfl Rnf.one96) rfl rfl rfl [] (by kernel_rfl) fun x6_3 h4 => ?_
 refine MV.step0 (i := 4) rfl (VAL.move rfl) rfl rfl rfl ?_
 refine MV.lift0 (i := 5) rfl (V.nc h4 rfl) rfl rfl rfl fun x8_4 h5 => ?_
 refine MV.lift0 (i := 6) rfl (V.fa h5 rfl Rnf.fo98_1) rfl rfl rfl fun x9_5 h6 => ?_
 refine MV.lift1 (i := 7) rfl (fun _ z => z) (V.ld hS h6 rfl Rnf.one3) rfl rfl rfl [3] (by kernel_rfl) fun x10_6 h7 => ?_
 refine MV.lift1 (i := 8) rfl (fun _ z => z) (V.ia h7 rfl rfl Rnf.el96) rfl rfl rfl [] (by kernel_rfl) fun x11_7 h8 => ?_
 refine MV.lift1 (i := 9) rfl (fun _ z => z) (V.fa h8 rfl Rnf.fo139_2) rfl rfl rfl [] (by kernel_rfl) fun x12_8 h9 => ?_
 refine MV.lift1 (i := 10) rfl (fun _ z => z) (V.ld hS h9 rfl Rnf.one3) rfl rfl rfl [] (by kernel_rfl) fun x13_9 h10 => ?_
 refine MV.step1 (i := 11) rfl (fun _ z => z) (VAL.assign rfl) rfl rfl rfl [] (by kernel_rfl) ?_
 refine mdn ?_
 refine CV.ret ?_
 cases h10
 exact PV.ret (by simp) Tryz.results129 hS (RS.tmp rfl RS.nil) rfl
noncomputable def g176 (ro : List HT) (a0 a1 : AV) (T : HT) (nx : Nat) : R :=
 fldK 1760002 T ro a0 3 fun x7_1 =>
 geK Tryz.prog 3 (.tmp 7) (.const (.int .i64 (.ofNat 60))) 1760003 x7_1 (.lit (.int .i64 (.ofNat 60))) fun x8_2 =>
 condK 1760004 x8_2
 (
  .bad 1760005
 )
 (
  fldK 1760007 T ro a0 3 fun x15_3 =>
  addK Tryz.prog 3 (.tmp 15) (.const (.int .i64 (.ofNat 1))) 1760008 x15_3 (.lit (.int .i64 (.ofNat 1))) fun x16_4 =>
  faK 1760009 a0 3 fun x18_5 =>
  stK 1760010 T x18_5 x16_4 fun T1 =>
  .ok (.val (.tup [])) T1 nx
 )
theorem g176_ok (ro : List HT) (a0 a1 : AV) (T : HT) (nx : Nat) : GOk Tryz.prog envE 176 [a0, a1] ro T nx (g176 ro a0 a1 T nx) := by
 refine GOk.of_body Tryz.func176 rfl Tryz.ntmps176 (by kernel_rfl) rfl fun r T' n' h1 w0 base ρ0 its hS hP => ?_
 have X : CtxW envE ρ0 ro r T' n' := trivial
 unfold g176 at h1
 refine CV.seq ?_
 refine sr ?_
 refine mv ?_
 refine fl hS h1 Rnf.fo98_3 Rnf.one3 fun x7_1 h2 => ?_
 refine vy (V.ge h2 rfl rfl) fun x8_2 h3 => ?_
 refine dn ?_
 refine CV.cond h3 rfl (fun e h4 => ?_) (fun e h4 => ?_)
 ·
  clear h1 h2 h3
  subst e
  cases h4
 ·
  clear h1 h2 h3
  subst e
  refine CV.skip ?_
  refine PV.thenN ?_
  refine CV.region ?_
  refine mv ?_
  refine fl hS h4 Rnf.fo98_3 Rnf.one3 fun x15_3 h5 => ?_
  refine vy (V.add h5 rfl rfl) fun x16_4 h6 => ?_
  refine fa2 h6 Rnf.fo98_3 fun x18_5 h7 => ?_
  refine LV.st hS h7 rfl rfl rfl Rnf.siz3 rfl rfl fun T1 its h8 hS => ?_
  refine LV.done ?_
  cases h8
  exact PV.ret (by simp) Tryz.results176 hS RS.nil rfl
noncomputable def g177 (ro : List HT) (a0 a1 : AV) (T : HT) (nx : Nat) : R :=
 callK (g129 ro a0 T nx) fun x7_1 T1 n1 =>
 callK (g131 ro a0 a1 T1 n1) fun x10_2 T2 n2 =>
 notK 1770008 x10_2 fun x11_3 =>
 condK 1770009 x11_3
 (
  .bad 1770010
 )
 (
  .ok (.val x7_1) T2 n2
 )
theorem g177_ok (ro : List HT) (a0 a1 : AV) (T : HT) (nx : Nat) : GOk Tryz.prog envE 177 [a0, a1] ro T nx (g177 ro a0 a1 T nx) := by
 refine GOk.of_body Tryz.func177 rfl Tryz.ntmps177 (by kernel_rfl) rfl fun r T' n' h1 w0 base ρ0 its hS hP => ?_
 have X : CtxW envE ρ0 ro r T' n' := trivial
 unfold g177 at h1
 refine sr ?_
 refine as_ ?_
 refine dn ?_
 refine sr ?_
 refine mv ?_
 refine LV.call hS h1 (g129_ok _ _ _ _ ) hP rfl rfl rfl rfl fun x7_1 T1 n1 h2 ρ its hS => ?_
 refine as_ ?_
 refine dn ?_
 refine CV.seq ?_
 refine sr ?_
 refine mv ?_
 refine mv ?_
 refine LV.call hS h2 (g131_ok _ _ _ _ _ ) hP rfl rfl rfl rfl fun x10_2 T2 n2 h3 ρ its hS => ?_
 refine vy (V.not h3 rfl) fun x11_3 h4 => ?_
 refine dn ?_
 refine CV.cond h4 rfl (fun e h5 => ?_) (fun e h5 => ?_)
 ·
  clear h1 h2 h3 h4
  subst e
  cases h5
 ·
  clear h1 h2 h3 h4
  subst e
  refine CV.skip ?_
  refine PV.thenN ?_
  refine sr ?_
  refine mv ?_
  refine as_ ?_
  refine dn ?_
  refine CV.ret ?_
  cases h5
  exact PV.ret (by simp) Tryz.results177 hS (RS.tmp rfl RS.nil) rfl
noncomputable def g236 (ro : List HT) (T : HT) (nx : Nat) : R :=
 bsK 2360003 T nx 14 9 1 [(0, (.lit (.string ⟨⟨[111, 114]⟩⟩))), (1, (.lit (.string ⟨⟨[97, 110, 100]⟩⟩))), (2, (.lit (.string ⟨⟨[61, 61]⟩⟩))), (3, (.lit (.string ⟨⟨[33, 61]⟩⟩))), (4, (.lit (.string ⟨⟨[60]⟩⟩))), (5, (.lit (.string ⟨⟨[60, 61]⟩⟩))), (6, (.lit (.string ⟨⟨[62]⟩⟩))), (7, (.lit (.string ⟨⟨[62, 61]⟩⟩))), (8, (.lit (.string ⟨⟨[105, 110]⟩⟩))), (9, (.lit (.string ⟨⟨[43]⟩⟩))), (10, (.lit (.string ⟨⟨[45]⟩⟩))), (11, (.lit (.string ⟨⟨[42]⟩⟩))), (12, (.lit (.string ⟨⟨[47, 47]⟩⟩))), (13, (.lit (.string ⟨⟨[37]⟩⟩)))] fun x2_1 T1 n1 =>
 bsK 2360004 T1 n1 14 3 1 [(0, (.lit (.int .i64 (.ofNat 19)))), (1, (.lit (.int .i64 (.ofNat 18)))), (2, (.lit (.int .i64 (.ofNat 26)))), (3, (.lit (.int .i64 (.ofNat 27)))), (4, (.lit (.int .i64 (.ofNat 28)))), (5, (.lit (.int .i64 (.ofNat 29)))), (6, (.lit (.int .i64 (.ofNat 30)))), (7, (.lit (.int .i64 (.ofNat 31)))), (8, (.lit (.int .i64 (.ofNat 32)))), (9, (.lit (.int .i64 (.ofNat 21)))), (10, (.lit (.int .i64 (.ofNat 22)))), (11, (.lit (.int .i64 (.ofNat 23)))), (12, (.lit (.int .i64 (.ofNat 24)))), (13, (.lit (.int .i64 (.ofNat 25))))] fun x3_2 T2 n2 =>
 .ok (.val (.tup [x2_1, x3_2])) T2 n2
theorem g236_ok (ro : List HT) (T : HT) (nx : Nat) : GOk Tryz.prog envE 236 [] ro T nx (g236 ro T nx) := by
 refine GOk.of_body Tryz.func236 rfl Tryz.ntmps236 (by kernel_rfl) rfl fun r T' n' h1 w0 base ρ0 its hS hP => ?_
 have X : CtxW envE ρ0 ro r T' n' := trivial
 unfold g236 at h1
 refine sr ?_
 refine as_ ?_
 refine as_ ?_
 refine dn ?_
 refine sr ?_
 refine LV.bslice hS h1 rfl rfl Rnf.el46 rfl rfl rfl rfl fun x2_1 T1 n1 h2 ρ its hS hdr => ?_
 refine LV.bslice hS h2 rfl rfl Rnf.el30 rfl rfl rfl rfl fun x3_2 T2 n2 h3 ρ its hS hdr => ?_
 refine as_ ?_
 refine as_ ?_
 refine dn ?_
 refine CV.ret ?_
 cases h3
 exact PV.ret (by simp) Tryz.results236 hS (RS.tmp rfl (RS.tmp rfl RS.nil)) rfl
noncomputable def g231 (ro : List HT) (a0 : AV) (T : HT) (nx : Nat) : R :=
 callK (g236 ro T nx) fun x6_1 T1 n1 =>
 exK 2310004 x6_1 0 fun x7_2 =>
 exK 2310005 x6_1 1 fun x8_3 =>
 callK (g147 ro x7_2 a0 T1 n1) fun x12_4 T2 n2 =>
 iaK 2310012 x8_3 x12_4 1 fun x13_5 =>
 ldK 2310013 T2 ro x13_5 fun x14_6 =>
 .ok (.val x14_6) T2 n2
theorem g231_ok (ro : List HT) (a0 : AV) (T : HT) (nx : Nat) : GOk Tryz.prog envE 231 [a0] ro T nx (g231 ro a0 T nx) := by
 refine GOk.of_body Tryz.func231 rfl Tryz.ntmps231 (by kernel_rfl) rfl fun r T' n' h1 w0 base ρ0 its hS hP => ?_
 have X : CtxW envE ρ0 ro r T' n' := trivial
 unfold g231 at h1
 refine sr ?_
 refine as_ ?_
 refine dn ?_
 refine sr ?_
 refine LV.call hS h1 (g236_ok _ _ _ ) hP rfl rfl rfl rfl fun x6_1 T1 n1 h2 ρ its hS => ?_
 refine mv ?_
 refine vy (V.ex h2 rfl) fun x7_2 h3 => ?_
 refine vy (V.ex h3 rfl) fun x8_3 h4 => ?_
 refine as_ ?_
 refine as_ ?_
 refine dn ?_
 refine sr ?_
 refine mv ?_
 refine mv ?_
 refine mv ?_
 refine LV.call hS h4 (g147_ok _ _ _ _ _ ) hP rfl rfl rfl rfl fun x12_4 T2 n2 h5 ρ its hS => ?_
 refine vy (V.ia h5 rfl rfl Rnf.el30) fun x13_5 h6 => ?_
 refine vy (V.ld hS h6 rfl Rnf.one3) fun x14_6 h7 => ?_
 refine as_ ?_
 refine dn ?_
 refine CV.ret ?_
 cases h7
 exact PV.ret (by simp) Tryz.results231 hS (RS.tmp rfl RS.nil) rfl
noncomputable def g132_k2 (ro : List HT) (y15 : AV) (T3 : HT) (n3 : Nat) : R :=
 .ok (.val y15) T3 n3
noncomputable def g132_k1 (ro : List HT) (y0 y10 : AV) (T2 : HT) (n2 : Nat) : R :=
 condK 1320008 y10
 (
  g132_k2 ro (.lit (.bool true)) T2 n2
 )
 (
  bsK 1320011 T2 n2 6 9 1 [(0, (.lit (.string ⟨⟨[41]⟩⟩))), (1, (.lit (.string ⟨⟨[93]⟩⟩))), (2, (.lit (.string ⟨⟨[125]⟩⟩))), (3, (.lit (.string ⟨⟨[61]⟩⟩))), (4, (.lit (.string ⟨⟨[43, 61]⟩⟩))), (5, (.lit (.string ⟨⟨[58]⟩⟩)))] fun x13_3 T4 n4 =>
  callK (g99 ro y0 x13_3 T4 n4) fun x14_4 T5 n5 =>
  g132_k2 ro x14_4 T5 n5
 )
noncomputable def g132 (ro : List HT) (a0 : AV) (T : HT) (nx : Nat) : R :=
 callK (g50 ro a0 T nx) fun x4_1 T1 n1 =>
 eqK Tryz.prog 3 (.tmp 4) (.const (.int .i64 (.ofNat 5))) 1320004 x4_1 (.lit (.int .i64 (.ofNat 5))) fun x5_2 =>
 condK 1320014 x5_2
 (
  g132_k1 ro a0 (.lit (.bool true)) T1 n1
 )
 (
  callK (g50 ro a0 T1 n1) fun x8_5 T6 n6 =>
  eqK Tryz.prog 3 (.tmp 8) (.const (.int .i64 (.ofNat 8))) 1320018 x8_5 (.lit (.int .i64 (.ofNat 8))) fun x9_6 =>
  g132_k1 ro a0 x9_6 T6 n6
 )
theorem g132_ok (ro : List HT) (a0 : AV) (T : HT) (nx : Nat) : GOk Tryz.prog envE 132 [a0] ro T nx (g132 ro a0 T nx) := by
 refine GOk.of_body Tryz.func132 rfl Tryz.ntmps132 (by kernel_rfl) rfl fun r T' n' h1 w0 base ρ0 its hS hP => ?_
 have X : CtxW envE ρ0 ro r T' n' := trivial
 unfold g132 at h1
 refine sr ?_
 refine as_ ?_
 refine dn ?_
 refine sr ?_
 refine mv ?_
 refine LV.call hS h1 (g50_ok _ _ _ _ ) hP rfl rfl rfl rfl fun x4_1 T1 n1 h2 ρ its hS => ?_
 refine vy (V.eq h2 rfl rfl) fun x5_2 h3 => ?_
 refine mv ?_
 refine ls2 X 0 10 [(2, (.lit (.bool false)))] (g132_k1 ro) 4 ?_ ?_
 ·
  rcases condK_inv h3 with ⟨e, h9⟩ | ⟨e, h9⟩
  ·
   clear h1 h2 h3
   subst e
   refine sk ?_
   refine sk ?_
   refine sk ?_
   refine pu ?_
   exact la2 hS h9 ⟨rfl, rfl, rfl, trivial⟩
  ·
   clear h1 h2 h3
   subst e
   refine mv ?_
   refine LV.call hS h9 (g50_ok _ _ _ _ ) hP rfl rfl rfl rfl fun x8_5 T6 n6 h10 ρ its hS => ?_
   refine vy (V.eq h10 rfl rfl) fun x9_6 h11 => ?_
   refine pu ?_
   exact la2 hS h11 ⟨rfl, rfl, rfl, trivial⟩
 ·
  intro y0 y10 T2 n2 ρ its hS h4
  unfold g132_k1 at h4
  clear h1 h2 h3
  refine mv ?_
  refine ls1 X 15 [(2, (.lit (.bool false)))] (g132_k2 ro) 4 ?_ ?_
  ·
   rcases condK_inv h4 with ⟨e, h6⟩ | ⟨e, h6⟩
   ·
    clear h4
    subst e
    refine sk ?_
    refine sk ?_
    refine sk ?_
    refine pu ?_
    exact la1 hS h6 ⟨rfl, rfl, trivial⟩
   ·
    clear h4
    subst e
    refine mv ?_
    refine LV.bslice hS h6 rfl rfl Rnf.el46 rfl rfl rfl rfl fun x13_3 T4 n4 h7 ρ its hS hdr => ?_
    refine LV.call hS h7 (g99_ok _ _ _ _ _ ) hP rfl rfl rfl rfl fun x14_4 T5 n5 h8 ρ its hS => ?_
    refine pu ?_
    exact la1 hS h8 ⟨rfl, rfl, trivial⟩
  ·
   intro y15 T3 n3 ρ its hS h5
   unfold g132_k2 at h5
   clear h4
   refine as_ ?_
   refine dn ?_
   refine CV.ret ?_
   cases h5
   exact PV.ret (by simp) Tryz.results132 hS (RS.tmp rfl RS.nil) rfl
noncomputable def g182_k1 (ih : FuncId → List HT → List AV → HT → Nat → R) (ro : List HT) (y0 y5 y25 : AV) (T3 : HT) (n3 : Nat) : R :=
 .ok (.val y25) T3 n3
noncomputable def g182_b2 (ih : FuncId → List HT → List AV → HT → Nat → R) (ro : List HT) (lp2 : AV → AV → AV → AV → AV → AV → HT → Nat → R) (y0 y4 y5 y27 y28 y29 : AV) (T4 : HT) (n4 : Nat) : R :=
 ltK Tryz.prog 3 (.tmp 29) (.tmp 28) 1820029 y29 y28 fun x30_17 =>
 condK 1820030 x30_17
 (
  iaK 1820031 y27 y29 1 fun x31_18 =>
  ldK 1820032 T4 ro x31_18 fun x32_19 =>
  callK (ih 182 ro [y0, x32_19] T4 n4) fun x35_20 T5 n5 =>
  notK 1820037 x35_20 fun x36_21 =>
  condK 1820038 x36_21
  (
   .bad 1820039
  )
  (
   addK Tryz.prog 3 (.tmp 29) (.const (.int .i64 (.ofNat 1))) 1820040 y29 (.lit (.int .i64 (.ofNat 1))) fun x37_22 =>
   lp2 y0 y4 y5 y27 y28 x37_22 T5 n5
  )
 )
 (
  faK 1820042 y5 4 fun x38_23 =>
  ldK 1820043 T4 ro x38_23 fun x39_24 =>
  lenSK 1820044 x39_24 fun x40_25 =>
  gtK Tryz.prog 3 (.tmp 40) (.const (.int .i64 (.ofNat 0))) 1820045 x40_25 (.lit (.int .i64 (.ofNat 0))) fun x41_26 =>
  .ok (.val x41_26) T4 n4
 )
noncomputable def g182 (ih : FuncId → List HT → List AV → HT → Nat → R) (ro : List HT) (a0 a1 : AV) (T : HT) (nx : Nat) : R :=
 fldK 1820003 T ro a0 2 fun x11_1 =>
 iaK 1820005 x11_1 a1 5 fun x13_2 =>
 ldAK 1820006 T ro x13_2 5 fun x14_3 =>
 newK T nx (.obj [.lit (.int .i64 0), .lit (.int .i64 0), .lit (.int .i64 0), .lit (.string ⟨#[]⟩), .lit (.slice none 0 0)] 32) fun x5_4 T1 n1 =>
 stAK 1820008 T1 x5_4 x14_3 5 fun T2 =>
 faK 1820009 x5_4 0 fun x15_5 =>
 ldK 1820010 T2 ro x15_5 fun x16_6 =>
 neK Tryz.prog 3 (.tmp 16) (.const (.int .i64 (.ofNat 8))) 1820011 x16_6 (.lit (.int .i64 (.ofNat 8))) fun x17_7 =>
 condK 1820012 x17_7
 (
  faK 1820013 x5_4 0 fun x18_8 =>
  ldK 1820014 T2 ro x18_8 fun x19_9 =>
  eqK Tryz.prog 3 (.tmp 19) (.const (.int .i64 (.ofNat 6))) 1820015 x19_9 (.lit (.int .i64 (.ofNat 6))) fun x20_10 =>
  condK 1820018 x20_10
  (
   g182_k1 ih ro a0 x5_4 (.lit (.bool true)) T2 n1
  )
  (
   faK 1820020 x5_4 0 fun x22_11 =>
   ldK 1820021 T2 ro x22_11 fun x23_12 =>
   eqK Tryz.prog 3 (.tmp 23) (.const (.int .i64 (.ofNat 13))) 1820022 x23_12 (.lit (.int .i64 (.ofNat 13))) fun x24_13 =>
   g182_k1 ih ro a0 x5_4 x24_13 T2 n1
  )
 )
 (
  faK 1820024 x5_4 4 fun x26_14 =>
  ldK 1820025 T2 ro x26_14 fun x27_15 =>
  lenSK 1820026 x27_15 fun x28_16 =>
  lpf6 1820028 (g182_b2 ih ro) 100000 a0 (.lit (.bool false)) x5_4 x27_15 x28_16 (.lit (.int .i64 (.ofNat 0))) T2 n1
 )
theorem g182_ok (ih : FuncId → List HT → List AV → HT → Nat → R) (hI : ∀ f ro args T nx, GOk Tryz.prog envE f args ro T nx (ih f ro args T nx)) (ro : List HT) (a0 a1 : AV) (T : HT) (nx : Nat) : GOk Tryz.prog envE 182 [a0, a1] ro T nx (g182 ih ro a0 a1 T nx) := by
 refine GOk.of_body Tryz.func182 rfl Tryz.ntmps182 (by kernel_rfl) rfl fun r T' n' h1 w0 base ρ0 its hS hP => ?_
 have X : CtxW envE ρ0 ro r T' n' := trivial
 unfold g182 at h1
 refine sr ?_
 refine as_ ?_
 refine dn ?_
 refine sr ?_
 refine mv ?_
 refine fl hS h1 Rnf.fo98_2 Rnf.one23 fun x11_1 h2 => ?_
 refine mv ?_
 refine vy (V.ia h2 rfl rfl Rnf.el23) fun x13_2 h3 => ?_
 refine vy (V.ldA hS h3 rfl Rnf.agg32) fun x14_3 h4 => ?_
 refine LV.alloc hS h4 rfl Rnf.zr32 rfl rfl rfl fun x5_4 T1 n1 h5 ρ its hS hdr => ?_
 refine LV.stA hS h5 rfl rfl rfl Rnf.agg32 rfl rfl rfl fun T2 its h6 hS => ?_
 refine dn ?_
 refine CV.seq ?_
 refine sr ?_
 refine vy (V.fa h6 rfl Rnf.fo32_0) fun x15_5 h7 => ?_
 refine vy (V.ld hS h7 rfl Rnf.one3) fun x16_6 h8 => ?_
 refine vy (V.ne h8 rfl rfl) fun x17_7 h9 => ?_
 refine dn ?_
 refine CV.cond h9 rfl (fun e h10 => ?_) (fun e h10 => ?_)
 ·
  clear h1 h2 h3 h4 h5 h6 h7 h8 h9
  subst e
  refine sr ?_
  refine vy (V.fa h10 rfl Rnf.fo32_0) fun x18_8 h11 => ?_
  refine vy (V.ld hS h11 rfl Rnf.one3) fun x19_9 h12 => ?_
  refine vy (V.eq h12 rfl rfl) fun x20_10 h13 => ?_
  refine mv ?_
  refine ls3 X 0 5 25 [(4, (.lit (.bool false)))] (g182_k1 ih ro) 4 ?_ ?_
  ·
   rcases condK_inv h13 with ⟨e, h15⟩ | ⟨e, h15⟩
   ·
    clear h10 h11 h12 h13
    subst e
    refine sk ?_
    refine sk ?_
    refine sk ?_
    refine pu ?_
    exact la3 hS h15 ⟨rfl, rfl, rfl, rfl, trivial⟩
   ·
    clear h10 h11 h12 h13
    subst e
    refine vy (V.fa h15 rfl Rnf.fo32_0) fun x22_11 h16 => ?_
    refine vy (V.ld hS h16 rfl Rnf.one3) fun x23_12 h17 => ?_
    refine vy (V.eq h17 rfl rfl) fun x24_13 h18 => ?_
    refine pu ?_
    exact la3 hS h18 ⟨rfl, rfl, rfl, rfl, trivial⟩
  ·
   intro y0 y5 y25 T3 n3 ρ its hS h14
   unfold g182_k1 at h14
   clear h10 h11 h12 h13
   refine as_ ?_
   refine dn ?_
   refine CV.ret ?_
   refine PV.thenR ?_
   cases h14
   exact PV.ret (by simp) Tryz.results182 hS (RS.tmp rfl RS.nil) rfl
 ·
  clear h1 h2 h3 h4 h5 h6 h7 h8 h9
  subst e
  refine CV.skip ?_
  refine PV.thenN ?_
  refine CV.seq ?_
  refine sr ?_
  refine vy (V.fa h10 rfl Rnf.fo32_4) fun x26_14 h19 => ?_
  refine vy (V.ld hS h19 rfl Rnf.one30) fun x27_15 h20 => ?_
  refine vy (V.lenS h20 rfl Rnf.ls30) fun x28_16 h21 => ?_
  refine mv ?_
  refine dn ?_
  refine CV.block ?_
  refine cl6 X 0 4 5 27 28 29 [] hS h21 ⟨rfl, rfl, rfl, rfl, rfl, rfl, trivial⟩ ?_
  intro f2 y0 y4 y5 y27 y28 y29 T4 n4 ρ its hS h22
  unfold g182_b2 at h22
  clear h10 h19 h20 h21
  refine sr ?_
  refine vy (V.lt h22 rfl rfl) fun x30_17 h23 => ?_
  refine dn ?_
  refine CV.seq ?_
  refine CV.cond h23 rfl (fun e h24 => ?_) (fun e h24 => ?_)
  ·
   clear h22 h23
   subst e
   refine CV.skip ?_
   refine PV.thenN ?_
   refine CV.seq ?_
   refine CV.block ?_
   refine sr ?_
   refine vy (V.ia h24 rfl rfl Rnf.el30) fun x31_18 h25 => ?_
   refine vy (V.ld hS h25 rfl Rnf.one3) fun x32_19 h26 => ?_
   refine as_ ?_
   refine dn ?_
   refine sr ?_
   refine mv ?_
   refine mv ?_
   refine LV.call hS h26 (hI _ _ _ _ _) hP rfl rfl rfl rfl fun x35_20 T5 n5 h27 ρ its hS => ?_
   refine vy (V.not h27 rfl) fun x36_21 h28 => ?_
   refine dn ?_
   refine CV.cond h28 rfl (fun e h29 => ?_) (fun e h29 => ?_)
   ·
    clear h24 h25 h26 h27 h28
    subst e
    cases h29
   ·
    clear h24 h25 h26 h27 h28
    subst e
    refine CV.skip ?_
    refine PV.blockN ?_
    refine PV.thenN ?_
    refine CV.region ?_
    refine vy (V.add h29 rfl rfl) fun x37_22 h30 => ?_
    refine mv ?_
    refine LV.done ?_
    exact pb6 hS h30 ⟨rfl, rfl, rfl, rfl, rfl, rfl, trivial⟩
  ·
   clear h22 h23
   subst e
   refine CV.exit ?_
   refine PV.thenE ?_
   refine PV.thenE ?_
   refine PV.blockE ?_
   refine PV.thenN ?_
   refine sr ?_
   refine vy (V.fa h24 rfl Rnf.fo32_4) fun x38_23 h31 => ?_
   refine vy (V.ld hS h31 rfl Rnf.one30) fun x39_24 h32 => ?_
   refine vy (V.lenS h32 rfl Rnf.ls30) fun x40_25 h33 => ?_
   refine vy (V.gt h33 rfl rfl) fun x41_26 h34 => ?_
   refine as_ ?_
   refine dn ?_
   refine CV.ret ?_
   cases h34
   exact PV.ret (by simp) Tryz.results182 hS (RS.tmp rfl RS.nil) rfl
noncomputable def ap1 (ih : FuncId → List HT → List AV → HT → Nat → R) (f : FuncId) (ro : List HT) (args : List AV) (T : HT) (nx : Nat) : R :=
  Bool.rec (motive := fun _ => R) (.bad 2) (List.rec (motive := fun _ => R) (.bad 1) (fun a0 l0 _ => List.rec (motive := fun _ => R) (.bad 1) (fun a1 l1 _ => List.rec (motive := fun _ => R) (g182 ih ro a0 a1 T nx) (fun _ _ _ => .bad 1) l1) l0) args) (Nat.beq f 182)
noncomputable def scc1 (fuel : Nat) : FuncId → List HT → List AV → HT → Nat → R :=
  Nat.rec (motive := fun _ => FuncId → List HT → List AV → HT → Nat → R) (fun _ _ _ _ _ => .bad 3) (fun _ ih => ap1 ih) fuel
theorem ap1_ok (ih : FuncId → List HT → List AV → HT → Nat → R) (hI : ∀ f ro args T nx, GOk Tryz.prog envE f args ro T nx (ih f ro args T nx)) (f : FuncId) (ro : List HT) (args : List AV) (T : HT) (nx : Nat) : GOk Tryz.prog envE f args ro T nx (ap1 ih f ro args T nx) := by
  unfold ap1
  refine recb_go (fun hb => ?_) (fun _ => ?_)
  · obtain rfl := beqT hb
    rcases args with _ | ⟨a0, l0⟩
    · exact GOk.bad
    rcases l0 with _ | ⟨a1, l1⟩
    · exact GOk.bad
    rcases l1 with _ | ⟨_, _⟩
    · exact g182_ok _ hI _ _ _ _ _ 
    · exact GOk.bad
  · exact GOk.bad
theorem scc1_ok : ∀ (fuel : Nat) (f : FuncId) (ro : List HT) (args : List AV) (T : HT) (nx : Nat), GOk Tryz.prog envE f args ro T nx (scc1 fuel f ro args T nx)
  | 0, _, _, _, _, _ => GOk.bad
  | fuel + 1, f, ro, args, T, nx => ap1_ok (scc1 fuel) (scc1_ok fuel) f ro args T nx
noncomputable def g179 (ro : List HT) (a0 a1 : AV) (T : HT) (nx : Nat) : R :=
 ncK 1790003 a0 fun x6_1 =>
 faK 1790004 x6_1 1 fun x7_2 =>
 ldK 1790005 T ro x7_2 fun x8_3 =>
 addK Tryz.prog 3 (.tmp 8) (.const (.int .i64 (.ofNat 1))) 1790006 x8_3 (.lit (.int .i64 (.ofNat 1))) fun x9_4 =>
 ncK 1790008 a0 fun x11_5 =>
 faK 1790009 x11_5 0 fun x12_6 =>
 ldK 1790010 T ro x12_6 fun x13_7 =>
 lenSK 1790011 x13_7 fun x14_8 =>
 ltK Tryz.prog 3 (.tmp 9) (.tmp 14) 1790012 x9_4 x14_8 fun x15_9 =>
 condK 1790014 x15_9
 (
  ncK 1790016 a0 fun x18_10 =>
  faK 1790017 x18_10 0 fun x19_11 =>
  ldK 1790018 T ro x19_11 fun x20_12 =>
  ncK 1790020 a0 fun x22_13 =>
  faK 1790021 x22_13 1 fun x23_14 =>
  ldK 1790022 T ro x23_14 fun x24_15 =>
  addK Tryz.prog 3 (.tmp 24) (.const (.int .i64 (.ofNat 1))) 1790023 x24_15 (.lit (.int .i64 (.ofNat 1))) fun x25_16 =>
  iaK 1790024 x20_12 x25_16 3 fun x26_17 =>
  faK 1790025 x26_17 0 fun x27_18 =>
  ldK 1790026 T ro x27_18 fun x28_19 =>
  eqK Tryz.prog 3 (.tmp 28) (.const (.int .i64 (.ofNat 4))) 1790027 x28_19 (.lit (.int .i64 (.ofNat 4))) fun x29_20 =>
  condK 1790030 x29_20
  (
   ncK 1790032 a0 fun x33_21 =>
   faK 1790033 x33_21 0 fun x34_22 =>
   ldK 1790034 T ro x34_22 fun x35_23 =>
   ncK 1790036 a0 fun x37_24 =>
   faK 1790037 x37_24 1 fun x38_25 =>
   ldK 1790038 T ro x38_25 fun x39_26 =>
   addK Tryz.prog 3 (.tmp 39) (.const (.int .i64 (.ofNat 1))) 1790039 x39_26 (.lit (.int .i64 (.ofNat 1))) fun x40_27 =>
   iaK 1790040 x35_23 x40_27 3 fun x41_28 =>
   faK 1790041 x41_28 1 fun x42_29 =>
   ldK 1790042 T ro x42_29 fun x43_30 =>
   eqSK Tryz.prog 9 (.tmp 43) (.tmp 44) 1790044 x43_30 a1 fun x45_31 =>
   .ok (.val x45_31) T nx
  )
  (
   .ok (.val (.lit (.bool false))) T nx
  )
 )
 (
  condK 1790051 (.lit (.bool false))
  (
   .bad 0
  )
  (
   .ok (.val (.lit (.bool false))) T nx
  )
 )
theorem g179_ok (ro : List HT) (a0 a1 : AV) (T : HT) (nx : Nat) : GOk Tryz.prog envE 179 [a0, a1] ro T nx (g179 ro a0 a1 T nx) := by
 refine GOk.of_body Tryz.func179 rfl Tryz.ntmps179 (by kernel_rfl) rfl fun r T' n' h1 w0 base ρ0 its hS hP => ?_
 have X : CtxW envE ρ0 ro r T' n' := trivial
 unfold g179 at h1
 refine sr ?_
 refine as_ ?_
 refine dn ?_
 refine CV.seq ?_
 refine CV.regionM [(0, .anywhere), (1, .anywhere), (2, .anywhere), (3, .held), (4, .held), (5, .anywhere), (6, .anywhere), (7, .anywhere), (8, .held), (9, .held), (10, .held), (11, .held), (12, .held), (13, .held), (14, .held), (15, .held), (16, .anywhere), (17, .anywhere), (18, .anywhere), (19, .held), (20, .held), (21, .held), (22, .held), (23, .held), (24, .held), (25, .held), (26, .held), (27, .held), (28, .held), (29, .held), (30, .held), (31, .anywhere), (32, .anywhere), (33, .anywhere), (34, .held), (35, .held), (36, .held), (37, .held), (38, .held), (39, .anywhere), (40, .held), (41, .held), (42, .held)] rfl (fun c a a' w hd hq => PanicOk.root (P := Tryz.prog) (fn := Tryz.f179) (w0 := w0) (base := base) (E := envE) (ro := ro) (r := r) (T' := T') (n' := n') (ρ0 := ρ0) c a a' w hd hq) (by kernel_rfl) ?_
 refine MV.step0 (i := 0) rfl (VAL.move rfl) rfl rfl rfl ?_
 refine MV.lift0 (i := 1) rfl (V.nc h1 rfl) rfl rfl rfl fun x6_1 h2 => ?_
 refine MV.lift0 (i := 2) rfl (V.fa h2 rfl Rnf.fo98_1) rfl rfl rfl fun x7_2 h3 => ?_
 refine MV.lift1 (i := 3) rfl (fun _ z => z) (V.ld hS h3 rfl Rnf.one3) rfl rfl rfl [] (by kernel_rfl) fun x8_3 h4 => ?_
 refine MV.lift1 (i := 4) rfl (fun _ z => z) (V.add h4 rfl rfl) rfl rfl rfl [] (by kernel_rfl) fun x9_4 h5 => ?_
 refine MV.step0 (i := 5) rfl (VAL.move rfl) rfl rfl rfl ?_
 refine MV.lift0 (i := 6) rfl (V.nc h5 rfl) rfl rfl rfl fun x11_5 h6 => ?_
 refine MV.lift0 (i := 7) rfl (V.fa h6 rfl Rnf.fo98_0) rfl rfl rfl fun x12_6 h7 => ?_
 refine MV.lift1 (i := 8) rfl (fun _ z => z) (V.ld hS h7 rfl Rnf.one96) rfl rfl rfl [4] (by kernel_rfl) fun x13_7 h8 => ?_
 refine MV.lift1 (i := 9) rfl (fun _ z => z) (V.lenS h8 rfl Rnf.ls96) rfl rfl rfl [4] (by kernel_rfl) fun x14_8 h9 => ?_
 refine MV.lift1 (i := 10) rfl (fun _ z => z) (V.lt h9 rfl rfl) rfl rfl rfl [] (by kernel_rfl) fun x15_9 h10 => ?_
 refine MV.step1 (i := 11) rfl (fun _ z => z) (VAL.move rfl) rfl rfl rfl [] (by kernel_rfl) ?_
 rcases condK_inv h10 with ⟨e, h11⟩ | ⟨e, h11⟩
 ·
  clear h1 h2 h3 h4 h5 h6 h7 h8 h9 h10
  subst e
  refine MV.step1 (i := 12) rfl (fun _ z => z) (VAL.move rfl) rfl rfl rfl [] (by kernel_rfl) ?_
  refine MV.lift1 (i := 13) rfl (fun _ z => z) (V.nc h11 rfl) rfl rfl rfl [] (by kernel_rfl) fun x18_10 h12 => ?_
  refine MV.lift1 (i := 14) rfl (fun _ z => z) (V.fa h12 rfl Rnf.fo98_0) rfl rfl rfl [] (by kernel_rfl) fun x19_11 h13 => ?_
  refine MV.lift1 (i := 15) rfl (fun _ z => z) (V.ld hS h13 rfl Rnf.one96) rfl rfl rfl [] (by kernel_rfl) fun x20_12 h14 => ?_
  refine MV.step0 (i := 16) rfl (VAL.move rfl) rfl rfl rfl ?_
  refine MV.lift0 (i := 17) rfl (V.nc h14 rfl) rfl rfl rfl fun x22_13 h15 => ?_
  refine MV.lift0 (i := 18) rfl (V.fa h15 rfl Rnf.fo98_1) rfl rfl rfl fun x23_14 h16 => ?_
  refine MV.lift1 (i := 19) rfl (fun _ z => z) (V.ld hS h16 rfl Rnf.one3) rfl rfl rfl [15] (by kernel_rfl) fun x24_15 h17 => ?_
  refine MV.lift1 (i := 20) rfl (fun _ z => z) (V.add h17 rfl rfl) rfl rfl rfl [15] (by kernel_rfl) fun x25_16 h18 => ?_
  refine MV.lift1 (i := 21) rfl (fun _ z => z) (V.ia h18 rfl rfl Rnf.el96) rfl rfl rfl [] (by kernel_rfl) fun x26_17 h19 => ?_
  refine MV.lift1 (i := 22) rfl (fun _ z => z) (V.fa h19 rfl Rnf.fo139_0) rfl rfl rfl [] (by kernel_rfl) fun x27_18 h20 => ?_
  refine MV.lift1 (i := 23) rfl (fun _ z => z) (V.ld hS h20 rfl Rnf.one3) rfl rfl rfl [] (by kernel_rfl) fun x28_19 h21 => ?_
  refine MV.lift1 (i := 24) rfl (fun _ z => z) (V.eq h21 rfl rfl) rfl rfl rfl [] (by kernel_rfl) fun x29_20 h22 => ?_
  refine MV.step1 (i := 25) rfl (fun _ z => z) (VAL.pure rfl) rfl rfl rfl [] (by kernel_rfl) ?_
  refine MV.step1 (i := 26) rfl (fun _ z => z) (VAL.move rfl) rfl rfl rfl [] (by kernel_rfl) ?_
  rcases condK_inv h22 with ⟨e, h23⟩ | ⟨e, h23⟩
  ·
   clear h11 h12 h13 h14 h15 h16 h17 h18 h19 h20 h21 h22
   subst e
   refine MV.step1 (i := 27) rfl (fun _ z => z) (VAL.move rfl) rfl rfl rfl [] (by kernel_rfl) ?_
   refine MV.lift1 (i := 28) rfl (fun _ z => z) (V.nc h23 rfl) rfl rfl rfl [] (by kernel_rfl) fun x33_21 h24 => ?_
   refine MV.lift1 (i := 29) rfl (fun _ z => z) (V.fa h24 rfl Rnf.fo98_0) rfl rfl rfl [] (by kernel_rfl) fun x34_22 h25 => ?_
   refine MV.lift1 (i := 30) rfl (fun _ z => z) (V.ld hS h25 rfl Rnf.one96) rfl rfl rfl [] (by kernel_rfl) fun x35_23 h26 => ?_
   refine MV.step0 (i := 31) rfl (VAL.move rfl) rfl rfl rfl ?_
   refine MV.lift0 (i := 32) rfl (V.nc h26 rfl) rfl rfl rfl fun x37_24 h27 => ?_
   refine MV.lift0 (i := 33) rfl (V.fa h27 rfl Rnf.fo98_1) rfl rfl rfl fun x38_25 h28 => ?_
   refine MV.lift1 (i := 34) rfl (fun _ z => z) (V.ld hS h28 rfl Rnf.one3) rfl rfl rfl [30] (by kernel_rfl) fun x39_26 h29 => ?_
   refine MV.lift1 (i := 35) rfl (fun _ z => z) (V.add h29 rfl rfl) rfl rfl rfl [30] (by kernel_rfl) fun x40_27 h30 => ?_
   refine MV.lift1 (i := 36) rfl (fun _ z => z) (V.ia h30 rfl rfl Rnf.el96) rfl rfl rfl [] (by kernel_rfl) fun x41_28 h31 => ?_
   refine MV.lift1 (i := 37) rfl (fun _ z => z) (V.fa h31 rfl Rnf.fo139_1) rfl rfl rfl [] (by kernel_rfl) fun x42_29 h32 => ?_
   refine MV.lift1 (i := 38) rfl (fun _ z => z) (V.ld hS h32 rfl Rnf.one9) rfl rfl rfl [] (by kernel_rfl) fun x43_30 h33 => ?_
   refine MV.step0 (i := 39) rfl (VAL.move rfl) rfl rfl rfl ?_
   refine MV.lift1 (i := 40) rfl (fun _ z => z) (V.eqS h33 rfl rfl) rfl rfl rfl [] (by kernel_rfl) fun x45_31 h34 => ?_
   refine MV.step1 (i := 41) rfl (fun _ z => z) (VAL.pure rfl) rfl rfl rfl [] (by kernel_rfl) ?_
   refine MV.step1 (i := 42) rfl (fun _ z => z) (VAL.assign rfl) rfl rfl rfl [] (by kernel_rfl) ?_
   refine mdn ?_
   refine CV.ret ?_
   cases h34
   exact PV.ret (by simp) Tryz.results179 hS (RS.tmp rfl RS.nil) rfl
  ·
   clear h11 h12 h13 h14 h15 h16 h17 h18 h19 h20 h21 h22
   subst e
   refine MV.skip1 (i := 27) rfl (fun _ z => z) rfl rfl rfl [] (by kernel_rfl) ?_
   refine MV.skip1 (i := 28) rfl (fun _ z => z) rfl rfl rfl [] (by kernel_rfl) ?_
   refine MV.skip1 (i := 29) rfl (fun _ z => z) rfl rfl rfl [] (by kernel_rfl) ?_
   refine MV.skip1 (i := 30) rfl (fun _ z => z) rfl rfl rfl [] (by kernel_rfl) ?_
   refine MV.skip0 (i := 31) rfl rfl rfl rfl ?_
   refine MV.skip0 (i := 32) rfl rfl rfl rfl ?_
   refine MV.skip0 (i := 33) rfl rfl rfl rfl ?_
   refine MV.skip1 (i := 34) rfl (fun _ z => z) rfl rfl rfl [30] (by kernel_rfl) ?_
   refine MV.skip1 (i := 35) rfl (fun _ z => z) rfl rfl rfl [30] (by kernel_rfl) ?_
   refine MV.skip1 (i := 36) rfl (fun _ z => z) rfl rfl rfl [] (by kernel_rfl) ?_
   refine MV.skip1 (i := 37) rfl (fun _ z => z) rfl rfl rfl [] (by kernel_rfl) ?_
   refine MV.skip1 (i := 38) rfl (fun _ z => z) rfl rfl rfl [] (by kernel_rfl) ?_
   refine MV.skip0 (i := 39) rfl rfl rfl rfl ?_
   refine MV.skip1 (i := 40) rfl (fun _ z => z) rfl rfl rfl [] (by kernel_rfl) ?_
   refine MV.step1 (i := 41) rfl (fun _ z => z) (VAL.pure rfl) rfl rfl rfl [] (by kernel_rfl) ?_
   refine MV.step1 (i := 42) rfl (fun _ z => z) (VAL.assign rfl) rfl rfl rfl [] (by kernel_rfl) ?_
   refine mdn ?_
   refine CV.ret ?_
   cases h23
   exact PV.ret (by simp) Tryz.results179 hS (RS.tmp rfl RS.nil) rfl
 ·
  clear h1 h2 h3 h4 h5 h6 h7 h8 h9 h10
  subst e
  refine MV.skip1 (i := 12) rfl (fun _ z => z) rfl rfl rfl [] (by kernel_rfl) ?_
  refine MV.skip1 (i := 13) rfl (fun _ z => z) rfl rfl rfl [] (by kernel_rfl) ?_
  refine MV.skip1 (i := 14) rfl (fun _ z => z) rfl rfl rfl [] (by kernel_rfl) ?_
  refine MV.skip1 (i := 15) rfl (fun _ z => z) rfl rfl rfl [] (by kernel_rfl) ?_
  refine MV.skip0 (i := 16) rfl rfl rfl rfl ?_
  refine MV.skip0 (i := 17) rfl rfl rfl rfl ?_
  refine MV.skip0 (i := 18) rfl rfl rfl rfl ?_
  refine MV.skip1 (i := 19) rfl (fun _ z => z) rfl rfl rfl [15] (by kernel_rfl) ?_
  refine MV.skip1 (i := 20) rfl (fun _ z => z) rfl rfl rfl [15] (by kernel_rfl) ?_
  refine MV.skip1 (i := 21) rfl (fun _ z => z) rfl rfl rfl [] (by kernel_rfl) ?_
  refine MV.skip1 (i := 22) rfl (fun _ z => z) rfl rfl rfl [] (by kernel_rfl) ?_
  refine MV.skip1 (i := 23) rfl (fun _ z => z) rfl rfl rfl [] (by kernel_rfl) ?_
  refine MV.skip1 (i := 24) rfl (fun _ z => z) rfl rfl rfl [] (by kernel_rfl) ?_
  refine MV.step1 (i := 25) rfl (fun _ z => z) (VAL.pure rfl) rfl rfl rfl [] (by kernel_rfl) ?_
  refine MV.step1 (i := 26) rfl (fun _ z => z) (VAL.move rfl) rfl rfl rfl [] (by kernel_rfl) ?_
  rcases condK_inv h11 with ⟨e, h35⟩ | ⟨e, h35⟩
  ·
   clear h11
   cases e
  ·
   clear h11
   refine MV.skip1 (i := 27) rfl (fun _ z => z) rfl rfl rfl [] (by kernel_rfl) ?_
   refine MV.skip1 (i := 28) rfl (fun _ z => z) rfl rfl rfl [] (by kernel_rfl) ?_
   refine MV.skip1 (i := 29) rfl (fun _ z => z) rfl rfl rfl [] (by kernel_rfl) ?_
   refine MV.skip1 (i := 30) rfl (fun _ z => z) rfl rfl rfl [] (by kernel_rfl) ?_
   refine MV.skip0 (i := 31) rfl rfl rfl rfl ?_
   refine MV.skip0 (i := 32) rfl rfl rfl rfl ?_
   refine MV.skip0 (i := 33) rfl rfl rfl rfl ?_
   refine MV.skip1 (i := 34) rfl (fun _ z => z) rfl rfl rfl [30] (by kernel_rfl) ?_
   refine MV.skip1 (i := 35) rfl (fun _ z => z) rfl rfl rfl [30] (by kernel_rfl) ?_
   refine MV.skip1 (i := 36) rfl (fun _ z => z) rfl rfl rfl [] (by kernel_rfl) ?_
   refine MV.skip1 (i := 37) rfl (fun _ z => z) rfl rfl rfl [] (by kernel_rfl) ?_
   refine MV.skip1 (i := 38) rfl (fun _ z => z) rfl rfl rfl [] (by kernel_rfl) ?_
   refine MV.skip0 (i := 39) rfl rfl rfl rfl ?_
   refine MV.skip1 (i := 40) rfl (fun _ z => z) rfl rfl rfl [] (by kernel_rfl) ?_
   refine MV.step1 (i := 41) rfl (fun _ z => z) (VAL.pure rfl) rfl rfl rfl [] (by kernel_rfl) ?_
   refine MV.step1 (i := 42) rfl (fun _ z => z) (VAL.assign rfl) rfl rfl rfl [] (by kernel_rfl) ?_
   refine mdn ?_
   refine CV.ret ?_
   cases h35
   exact PV.ret (by simp) Tryz.results179 hS (RS.tmp rfl RS.nil) rfl
noncomputable def g60 (ro : List HT) (a0 a1 : AV) (T : HT) (nx : Nat) : R :=
 boxK 600001 T nx a0 58 fun x2_1 T1 n1 =>
 boxK 600002 T1 n1 a1 58 fun x3_2 T2 n2 =>
 faK 600004 x2_1 0 fun x5_3 =>
 ldK 600005 T2 ro x5_3 fun x6_4 =>
 faK 600006 x3_2 0 fun x7_5 =>
 ldK 600007 T2 ro x7_5 fun x8_6 =>
 subK Tryz.prog 3 (.tmp 6) (.tmp 8) 600008 x6_4 x8_6 fun x9_7 =>
 .ok (.val x9_7) T2 n2
theorem g60_ok (ro : List HT) (a0 a1 : AV) (T : HT) (nx : Nat) : GOk Tryz.prog envE 60 [a0, a1] ro T nx (g60 ro a0 a1 T nx) := by
 refine GOk.of_body Tryz.func60 rfl Tryz.ntmps60 (by kernel_rfl) rfl fun r T' n' h1 w0 base ρ0 its hS hP => ?_
 have X : CtxW envE ρ0 ro r T' n' := trivial
 unfold g60 at h1
 refine sr ?_
 refine LV.box hS h1 rfl rfl rfl rfl rfl fun x2_1 T1 n1 h2 ρ its hS hdr => ?_
 refine LV.box hS h2 rfl rfl rfl rfl rfl fun x3_2 T2 n2 h3 ρ its hS hdr => ?_
 refine as_ ?_
 refine dn ?_
 refine sr ?_
 refine vy (V.fa h3 rfl Rnf.fo58_0) fun x5_3 h4 => ?_
 refine vy (V.ld hS h4 rfl Rnf.one3) fun x6_4 h5 => ?_
 refine vy (V.fa h5 rfl Rnf.fo58_0) fun x7_5 h6 => ?_
 refine vy (V.ld hS h6 rfl Rnf.one3) fun x8_6 h7 => ?_
 refine vy (V.sub h7 rfl rfl) fun x9_7 h8 => ?_
 refine as_ ?_
 refine dn ?_
 refine CV.ret ?_
 cases h8
 exact PV.ret (by simp) Tryz.results60 hS (RS.tmp rfl RS.nil) rfl
noncomputable def g86 (ro : List HT) (a0 a1 : AV) (T : HT) (nx : Nat) : R :=
 boxK 860001 T nx a0 155 fun x2_1 T1 n1 =>
 boxK 860002 T1 n1 a1 155 fun x3_2 T2 n2 =>
 faK 860004 x2_1 0 fun x5_3 =>
 ldK 860005 T2 ro x5_3 fun x6_4 =>
 faK 860006 x3_2 0 fun x7_5 =>
 ldK 860007 T2 ro x7_5 fun x8_6 =>
 subK Tryz.prog 3 (.tmp 6) (.tmp 8) 860008 x6_4 x8_6 fun x9_7 =>
 .ok (.val x9_7) T2 n2
theorem g86_ok (ro : List HT) (a0 a1 : AV) (T : HT) (nx : Nat) : GOk Tryz.prog envE 86 [a0, a1] ro T nx (g86 ro a0 a1 T nx) := by
 refine GOk.of_body Tryz.func86 rfl Tryz.ntmps86 (by kernel_rfl) rfl fun r T' n' h1 w0 base ρ0 its hS hP => ?_
 have X : CtxW envE ρ0 ro r T' n' := trivial
 unfold g86 at h1
 refine sr ?_
 refine LV.box hS h1 rfl rfl rfl rfl rfl fun x2_1 T1 n1 h2 ρ its hS hdr => ?_
 refine LV.box hS h2 rfl rfl rfl rfl rfl fun x3_2 T2 n2 h3 ρ its hS hdr => ?_
 refine as_ ?_
 refine dn ?_
 refine sr ?_
 refine vy (V.fa h3 rfl Rnf.fo155_0) fun x5_3 h4 => ?_
 refine vy (V.ld hS h4 rfl Rnf.one3) fun x6_4 h5 => ?_
 refine vy (V.fa h5 rfl Rnf.fo155_0) fun x7_5 h6 => ?_
 refine vy (V.ld hS h6 rfl Rnf.one3) fun x8_6 h7 => ?_
 refine vy (V.sub h7 rfl rfl) fun x9_7 h8 => ?_
 refine as_ ?_
 refine dn ?_
 refine CV.ret ?_
 cases h8
 exact PV.ret (by simp) Tryz.results86 hS (RS.tmp rfl RS.nil) rfl
noncomputable def g114 (ro : List HT) (a0 : AV) (T : HT) (nx : Nat) : R :=
 boxK 1140001 T nx a0 32 fun x1_1 T1 n1 =>
 faK 1140003 x1_1 0 fun x3_2 =>
 ldK 1140004 T1 ro x3_2 fun x4_3 =>
 eqK Tryz.prog 3 (.tmp 4) (.const (.int .i64 (.ofNat 46))) 1140005 x4_3 (.lit (.int .i64 (.ofNat 46))) fun x5_4 =>
 .ok (.val x5_4) T1 n1
theorem g114_ok (ro : List HT) (a0 : AV) (T : HT) (nx : Nat) : GOk Tryz.prog envE 114 [a0] ro T nx (g114 ro a0 T nx) := by
 refine GOk.of_body Tryz.func114 rfl Tryz.ntmps114 (by kernel_rfl) rfl fun r T' n' h1 w0 base ρ0 its hS hP => ?_
 have X : CtxW envE ρ0 ro r T' n' := trivial
 unfold g114 at h1
 refine sr ?_
 refine LV.box hS h1 rfl rfl rfl rfl rfl fun x1_1 T1 n1 h2 ρ its hS hdr => ?_
 refine as_ ?_
 refine dn ?_
 refine sr ?_
 refine vy (V.fa h2 rfl Rnf.fo32_0) fun x3_2 h3 => ?_
 refine vy (V.ld hS h3 rfl Rnf.one3) fun x4_3 h4 => ?_
 refine vy (V.eq h4 rfl rfl) fun x5_4 h5 => ?_
 refine as_ ?_
 refine dn ?_
 refine CV.ret ?_
 cases h5
 exact PV.ret (by simp) Tryz.results114 hS (RS.tmp rfl RS.nil) rfl
noncomputable def g117_k1 (ro : List HT) (y8 : AV) (T1 : HT) (n1 : Nat) : R :=
 .ok (.val y8) T1 n1
noncomputable def g117 (ro : List HT) (a0 : AV) (T : HT) (nx : Nat) : R :=
 geK Tryz.prog 3 (.tmp 3) (.const (.int .i64 (.ofNat 35))) 1170003 a0 (.lit (.int .i64 (.ofNat 35))) fun x4_1 =>
 condK 1170006 x4_1
 (
  leK Tryz.prog 3 (.tmp 6) (.const (.int .i64 (.ofNat 45))) 1170008 a0 (.lit (.int .i64 (.ofNat 45))) fun x7_2 =>
  g117_k1 ro x7_2 T nx
 )
 (
  g117_k1 ro (.lit (.bool false)) T nx
 )
theorem g117_ok (ro : List HT) (a0 : AV) (T : HT) (nx : Nat) : GOk Tryz.prog envE 117 [a0] ro T nx (g117 ro a0 T nx) := by
 refine GOk.of_body Tryz.func117 rfl Tryz.ntmps117 (by kernel_rfl) rfl fun r T' n' h1 w0 base ρ0 its hS hP => ?_
 have X : CtxW envE ρ0 ro r T' n' := trivial
 unfold g117 at h1
 refine sr ?_
 refine as_ ?_
 refine dn ?_
 refine sr ?_
 refine mv ?_
 refine vy (V.ge h1 rfl rfl) fun x4_1 h2 => ?_
 refine mv ?_
 refine ls1 X 8 [(2, (.lit (.bool false)))] (g117_k1 ro) 3 ?_ ?_
 ·
  rcases condK_inv h2 with ⟨e, h4⟩ | ⟨e, h4⟩
  ·
   clear h1 h2
   subst e
   refine mv ?_
   refine vy (V.le h4 rfl rfl) fun x7_2 h5 => ?_
   refine pu ?_
   exact la1 hS h5 ⟨rfl, rfl, trivial⟩
  ·
   clear h1 h2
   subst e
   refine sk ?_
   refine sk ?_
   refine pu ?_
   exact la1 hS h4 ⟨rfl, rfl, trivial⟩
 ·
  intro y8 T1 n1 ρ its hS h3
  unfold g117_k1 at h3
  clear h1 h2
  refine as_ ?_
  refine dn ?_
  refine CV.ret ?_
  cases h3
  exact PV.ret (by simp) Tryz.results117 hS (RS.tmp rfl RS.nil) rfl
noncomputable def g116 (ro : List HT) (a0 : AV) (T : HT) (nx : Nat) : R :=
 boxK 1160001 T nx a0 32 fun x1_1 T1 n1 =>
 faK 1160003 x1_1 0 fun x3_2 =>
 ldK 1160004 T1 ro x3_2 fun x4_3 =>
 callK (g117 ro x4_3 T1 n1) fun x5_4 T2 n2 =>
 .ok (.val x5_4) T2 n2
theorem g116_ok (ro : List HT) (a0 : AV) (T : HT) (nx : Nat) : GOk Tryz.prog envE 116 [a0] ro T nx (g116 ro a0 T nx) := by
 refine GOk.of_body Tryz.func116 rfl Tryz.ntmps116 (by kernel_rfl) rfl fun r T' n' h1 w0 base ρ0 its hS hP => ?_
 have X : CtxW envE ρ0 ro r T' n' := trivial
 unfold g116 at h1
 refine sr ?_
 refine LV.box hS h1 rfl rfl rfl rfl rfl fun x1_1 T1 n1 h2 ρ its hS hdr => ?_
 refine as_ ?_
 refine dn ?_
 refine sr ?_
 refine vy (V.fa h2 rfl Rnf.fo32_0) fun x3_2 h3 => ?_
 refine vy (V.ld hS h3 rfl Rnf.one3) fun x4_3 h4 => ?_
 refine LV.call hS h4 (g117_ok _ _ _ _ ) hP rfl rfl rfl rfl fun x5_4 T2 n2 h5 ρ its hS => ?_
 refine as_ ?_
 refine dn ?_
 refine CV.ret ?_
 cases h5
 exact PV.ret (by simp) Tryz.results116 hS (RS.tmp rfl RS.nil) rfl
noncomputable def g152 (ro : List HT) (a0 a1 : AV) (T : HT) (nx : Nat) : R :=
 boxK 1520001 T nx a0 56 fun x2_1 T1 n1 =>
 faK 1520003 x2_1 0 fun x4_2 =>
 ldK 1520004 T1 ro x4_2 fun x5_3 =>
 ldK 1520005 T1 ro a1 fun x6_4 =>
 eqK Tryz.prog 3 (.tmp 5) (.tmp 6) 1520006 x5_3 x6_4 fun x7_5 =>
 .ok (.val x7_5) T1 n1
theorem g152_ok (ro : List HT) (a0 a1 : AV) (T : HT) (nx : Nat) : GOk Tryz.prog envE 152 [a0, a1] ro T nx (g152 ro a0 a1 T nx) := by
 refine GOk.of_body Tryz.func152 rfl Tryz.ntmps152 (by kernel_rfl) rfl fun r T' n' h1 w0 base ρ0 its hS hP => ?_
 have X : CtxW envE ρ0 ro r T' n' := trivial
 unfold g152 at h1
 refine sr ?_
 refine LV.box hS h1 rfl rfl rfl rfl rfl fun x2_1 T1 n1 h2 ρ its hS hdr => ?_
 refine as_ ?_
 refine dn ?_
 refine sr ?_
 refine vy (V.fa h2 rfl Rnf.fo56_0) fun x4_2 h3 => ?_
 refine vy (V.ld hS h3 rfl Rnf.one3) fun x5_3 h4 => ?_
 refine vy (V.ld hS h4 rfl Rnf.one3) fun x6_4 h5 => ?_
 refine vy (V.eq h5 rfl rfl) fun x7_5 h6 => ?_
 refine as_ ?_
 refine dn ?_
 refine CV.ret ?_
 cases h6
 exact PV.ret (by simp) Tryz.results152 hS (RS.tmp rfl RS.nil) rfl
noncomputable def g111_k3 (ro : List HT) (y16 : AV) (T3 : HT) (n3 : Nat) : R :=
 .ok (.val y16) T3 n3
noncomputable def g111_k2 (ro : List HT) (y0 y12 : AV) (T2 : HT) (n2 : Nat) : R :=
 condK 1110008 y12
 (
  neK Tryz.prog 3 (.tmp 14) (.const (.int .i64 (.ofNat 15))) 1110010 y0 (.lit (.int .i64 (.ofNat 15))) fun x15_2 =>
  g111_k3 ro x15_2 T2 n2
 )
 (
  g111_k3 ro (.lit (.bool false)) T2 n2
 )
noncomputable def g111_k1 (ro : List HT) (y0 y8 : AV) (T1 : HT) (n1 : Nat) : R :=
 condK 1110013 y8
 (
  neK Tryz.prog 3 (.tmp 10) (.const (.int .i64 (.ofNat 11))) 1110015 y0 (.lit (.int .i64 (.ofNat 11))) fun x11_3 =>
  g111_k2 ro y0 x11_3 T1 n1
 )
 (
  g111_k2 ro y0 (.lit (.bool false)) T1 n1
 )
noncomputable def g111 (ro : List HT) (a0 : AV) (T : HT) (nx : Nat) : R :=
 geK Tryz.prog 3 (.tmp 3) (.const (.int .i64 (.ofNat 1))) 1110003 a0 (.lit (.int .i64 (.ofNat 1))) fun x4_1 =>
 condK 1110018 x4_1
 (
  leK Tryz.prog 3 (.tmp 6) (.const (.int .i64 (.ofNat 34))) 1110020 a0 (.lit (.int .i64 (.ofNat 34))) fun x7_4 =>
  g111_k1 ro a0 x7_4 T nx
 )
 (
  g111_k1 ro a0 (.lit (.bool false)) T nx
 )
theorem g111_ok (ro : List HT) (a0 : AV) (T : HT) (nx : Nat) : GOk Tryz.prog envE 111 [a0] ro T nx (g111 ro a0 T nx) := by
 refine GOk.of_body Tryz.func111 rfl Tryz.ntmps111 (by kernel_rfl) rfl fun r T' n' h1 w0 base ρ0 its hS hP => ?_
 have X : CtxW envE ρ0 ro r T' n' := trivial
 unfold g111 at h1
 refine sr ?_
 refine as_ ?_
 refine dn ?_
 refine sr ?_
 refine mv ?_
 refine vy (V.ge h1 rfl rfl) fun x4_1 h2 => ?_
 refine mv ?_
 refine ls2 X 0 8 [(2, (.lit (.bool false)))] (g111_k1 ro) 3 ?_ ?_
 ·
  rcases condK_inv h2 with ⟨e, h10⟩ | ⟨e, h10⟩
  ·
   clear h1 h2
   subst e
   refine mv ?_
   refine vy (V.le h10 rfl rfl) fun x7_4 h11 => ?_
   refine pu ?_
   exact la2 hS h11 ⟨rfl, rfl, rfl, trivial⟩
  ·
   clear h1 h2
   subst e
   refine sk ?_
   refine sk ?_
   refine pu ?_
   exact la2 hS h10 ⟨rfl, rfl, rfl, trivial⟩
 ·
  intro y0 y8 T1 n1 ρ its hS h3
  unfold g111_k1 at h3
  clear h1 h2
  refine mv ?_
  refine ls2 X 0 12 [(2, (.lit (.bool false)))] (g111_k2 ro) 3 ?_ ?_
  ·
   rcases condK_inv h3 with ⟨e, h8⟩ | ⟨e, h8⟩
   ·
    clear h3
    subst e
    refine mv ?_
    refine vy (V.ne h8 rfl rfl) fun x11_3 h9 => ?_
    refine pu ?_
    exact la2 hS h9 ⟨rfl, rfl, rfl, trivial⟩
   ·
    clear h3
    subst e
    refine sk ?_
    refine sk ?_
    refine pu ?_
    exact la2 hS h8 ⟨rfl, rfl, rfl, trivial⟩
  ·
   intro y0 y12 T2 n2 ρ its hS h4
   unfold g111_k2 at h4
   clear h3
   refine mv ?_
   refine ls1 X 16 [(2, (.lit (.bool false)))] (g111_k3 ro) 3 ?_ ?_
   ·
    rcases condK_inv h4 with ⟨e, h6⟩ | ⟨e, h6⟩
    ·
     clear h4
     subst e
     refine mv ?_
     refine vy (V.ne h6 rfl rfl) fun x15_2 h7 => ?_
     refine pu ?_
     exact la1 hS h7 ⟨rfl, rfl, trivial⟩
    ·
     clear h4
     subst e
     refine sk ?_
     refine sk ?_
     refine pu ?_
     exact la1 hS h6 ⟨rfl, rfl, trivial⟩
   ·
    intro y16 T3 n3 ρ its hS h5
    unfold g111_k3 at h5
    clear h4
    refine as_ ?_
    refine dn ?_
    refine CV.ret ?_
    cases h5
    exact PV.ret (by simp) Tryz.results111 hS (RS.tmp rfl RS.nil) rfl
noncomputable def g183 (ro : List HT) (a0 : AV) (T : HT) (nx : Nat) : R :=
 boxK 1830001 T nx a0 32 fun x1_1 T1 n1 =>
 faK 1830003 x1_1 0 fun x3_2 =>
 ldK 1830004 T1 ro x3_2 fun x4_3 =>
 callK (g111 ro x4_3 T1 n1) fun x5_4 T2 n2 =>
 .ok (.val x5_4) T2 n2
theorem g183_ok (ro : List HT) (a0 : AV) (T : HT) (nx : Nat) : GOk Tryz.prog envE 183 [a0] ro T nx (g183 ro a0 T nx) := by
 refine GOk.of_body Tryz.func183 rfl Tryz.ntmps183 (by kernel_rfl) rfl fun r T' n' h1 w0 base ρ0 its hS hP => ?_
 have X : CtxW envE ρ0 ro r T' n' := trivial
 unfold g183 at h1
 refine sr ?_
 refine LV.box hS h1 rfl rfl rfl rfl rfl fun x1_1 T1 n1 h2 ρ its hS hdr => ?_
 refine as_ ?_
 refine dn ?_
 refine sr ?_
 refine vy (V.fa h2 rfl Rnf.fo32_0) fun x3_2 h3 => ?_
 refine vy (V.ld hS h3 rfl Rnf.one3) fun x4_3 h4 => ?_
 refine LV.call hS h4 (g111_ok _ _ _ _ ) hP rfl rfl rfl rfl fun x5_4 T2 n2 h5 ρ its hS => ?_
 refine as_ ?_
 refine dn ?_
 refine CV.ret ?_
 cases h5
 exact PV.ret (by simp) Tryz.results183 hS (RS.tmp rfl RS.nil) rfl
noncomputable def g133 (ro : List HT) (a0 a1 : AV) (T : HT) (nx : Nat) : R :=
 optK 1330003 (bld74 [(0, a0), (1, a1)]) fun x6_1 =>
 boxK 1330004 T nx x6_1 74 fun x7_2 T1 n1 =>
 optK 1330005 (bld123 [(0, x7_2)]) fun x8_3 =>
 panK 1330007 (.iface 123 x8_3) T1 n1
theorem g133_ok (ro : List HT) (a0 a1 : AV) (T : HT) (nx : Nat) : GOk Tryz.prog envE 133 [a0, a1] ro T nx (g133 ro a0 a1 T nx) := by
 refine GOk.of_body Tryz.func133 rfl Tryz.ntmps133 (by kernel_rfl) rfl fun r T' n' h1 w0 base ρ0 its hS hP => ?_
 have X : CtxW envE ρ0 ro r T' n' := trivial
 unfold g133 at h1
 refine CV.region ?_
 refine mv ?_
 refine mv ?_
 refine vy (V.bld h1 rfl) fun x6_1 h2 => ?_
 refine LV.box hS h2 rfl rfl rfl rfl rfl fun x7_2 T1 n1 h3 ρ its hS hdr => ?_
 refine vy (V.bld h3 rfl) fun x8_3 h4 => ?_
 refine sv (VAL.mkI rfl Rnf.ni123) ?_
 exact LV.panic hS h4 hP rfl rfl rfl
noncomputable def g78 (ro : List HT) (a0 : AV) (T : HT) (nx : Nat) : R :=
 callK (g129 ro a0 T nx) fun x3_1 T1 n1 =>
 keepK 780004 T T1 [] <|
 callK (g133 ro x3_1 (.iface 253 (.opq 1)) T1 n1) fun x5_2 T2 n2 =>
 .ok (.val (.tup [])) T2 n2
theorem g78_ok (ro : List HT) (a0 : AV) (T : HT) (nx : Nat) : GOk Tryz.prog envE 78 [a0] ro T nx (g78 ro a0 T nx) := by
 refine GOk.of_body Tryz.func78 rfl Tryz.ntmps78 (by kernel_rfl) rfl fun r T' n' h1 w0 base ρ0 its hS hP => ?_
 have X : CtxW envE ρ0 ro r T' n' := trivial
 unfold g78 at h1
 refine CV.regionMS hS [] [(0, .anywhere), (2, .held), (1, .alone), (3, .alone)] rfl (fun c a a' w hd hq => PanicOk.root (P := Tryz.prog) (fn := Tryz.f78) (w0 := w0) (base := base) (E := envE) (ro := ro) (r := r) (T' := T') (n' := n') (ρ0 := ρ0) c a a' w hd hq) (by kernel_rfl) ?_
 have hK := KeepS.start [] hS
 have hR := hS
 have hP0 := hP
 replace hP := PK.up hR hP
 replace hS := hR.root
 refine MV.step0 (i := 0) rfl (VAL.move rfl) rfl rfl rfl ?_
 refine MV.step1 (i := 2) rfl hK (VAL.ldGQ hS (by rfl) Rnf.one25) rfl rfl rfl [] (by kernel_rfl) ?_
 refine MV.force (i := 1) rfl ?_
 refine LV.call hS h1 (g129_ok _ _ _ _ ) hP rfl rfl rfl rfl fun x3_1 T1 n1 h2 ρ its hS => ?_
 obtain ⟨hK, h3⟩ := KeepS.step hR hS h2
 refine LV.nextM [2] (by kernel_rfl) (fun _ => hK) ?_
 refine MV.force (i := 3) rfl ?_
 refine LV.call hS h3 (g133_ok _ _ _ _ _ ) hP rfl rfl rfl rfl fun x5_2 T2 n2 h4 ρ its hS => ?_
 refine LV.nextM [] (by kernel_rfl) (fun z => absurd rfl z) ?_
 replace hS := hR.up hS
 replace hP := hP0
 refine MV.done ?_
 cases h4
 exact PV.ret (by simp) Tryz.results78 hS RS.nil rfl
noncomputable def g238 (ro : List HT) (a0 : AV) (T : HT) (nx : Nat) : R :=
 ncK 2380003 a0 fun x6_1 =>
 faK 2380004 x6_1 0 fun x7_2 =>
 ldK 2380005 T ro x7_2 fun x8_3 =>
 ncK 2380007 a0 fun x10_4 =>
 faK 2380008 x10_4 1 fun x11_5 =>
 ldK 2380009 T ro x11_5 fun x12_6 =>
 iaK 2380010 x8_3 x12_6 3 fun x13_7 =>
 ldAK 2380011 T ro x13_7 3 fun x14_8 =>
 newK T nx (.obj [.lit (.int .i64 0), .lit (.string ⟨#[]⟩), .lit (.int .i64 0)] 139) fun x3_9 T1 n1 =>
 stAK 2380013 T1 x3_9 x14_8 3 fun T2 =>
 faK 2380014 x3_9 0 fun x16_10 =>
 ldK 2380015 T2 ro x16_10 fun x17_11 =>
 eqK Tryz.prog 3 (.tmp 17) (.const (.int .i64 (.ofNat 1))) 2380016 x17_11 (.lit (.int .i64 (.ofNat 1))) fun x18_12 =>
 condK 2380018 x18_12
 (
  fldK 2380020 T2 ro a0 1 fun x22_13 =>
  addK Tryz.prog 3 (.tmp 22) (.const (.int .i64 (.ofNat 1))) 2380021 x22_13 (.lit (.int .i64 (.ofNat 1))) fun x23_14 =>
  faK 2380022 a0 1 fun x25_15 =>
  stK 2380023 T2 x25_15 x23_14 fun T3 =>
  faK 2380025 x3_9 2 fun x27_16 =>
  ldK 2380026 T3 ro x27_16 fun x28_17 =>
  faK 2380027 x3_9 1 fun x29_18 =>
  ldK 2380028 T3 ro x29_18 fun x30_19 =>
  callK (g65 ro a0 (.lit (.int .i64 (.ofNat 6))) x28_17 x30_19 (.lit (.slice none 0 0)) T3 n1) fun x31_20 T4 n4 =>
  .ok (.val x31_20) T4 n4
 )
 (
  faK 2380031 x3_9 0 fun x33_21 =>
  ldK 2380032 T2 ro x33_21 fun x34_22 =>
  eqK Tryz.prog 3 (.tmp 34) (.const (.int .i64 (.ofNat 2))) 2380033 x34_22 (.lit (.int .i64 (.ofNat 2))) fun x35_23 =>
  condK 2380035 x35_23
  (
   fldK 2380037 T2 ro a0 1 fun x39_24 =>
   addK Tryz.prog 3 (.tmp 39) (.const (.int .i64 (.ofNat 1))) 2380038 x39_24 (.lit (.int .i64 (.ofNat 1))) fun x40_25 =>
   faK 2380039 a0 1 fun x42_26 =>
   stK 2380040 T2 x42_26 x40_25 fun T5 =>
   faK 2380042 x3_9 2 fun x44_27 =>
   ldK 2380043 T5 ro x44_27 fun x45_28 =>
   faK 2380044 x3_9 1 fun x46_29 =>
   ldK 2380045 T5 ro x46_29 fun x47_30 =>
   callK (g65 ro a0 (.lit (.int .i64 (.ofNat 4))) x45_28 x47_30 (.lit (.slice none 0 0)) T5 n1) fun x48_31 T6 n6 =>
   .ok (.val x48_31) T6 n6
  )
  (
   faK 2380048 x3_9 0 fun x50_32 =>
   ldK 2380049 T2 ro x50_32 fun x51_33 =>
   eqK Tryz.prog 3 (.tmp 51) (.const (.int .i64 (.ofNat 3))) 2380050 x51_33 (.lit (.int .i64 (.ofNat 3))) fun x52_34 =>
   condK 2380052 x52_34
   (
    .bad 2380053
   )
   (
    callK (g131 ro a0 (.lit (.string ⟨⟨[78, 111, 110, 101]⟩⟩)) T2 n1) fun x83_35 T7 n7 =>
    condK 2380057 x83_35
    (
     .bad 2380058
    )
    (
     callK (g131 ro a0 (.lit (.string ⟨⟨[84, 114, 117, 101]⟩⟩)) T7 n7) fun x90_36 T8 n8 =>
     condK 2380062 x90_36
     (
      .bad 2380063
     )
     (
      callK (g131 ro a0 (.lit (.string ⟨⟨[70, 97, 108, 115, 101]⟩⟩)) T8 n8) fun x97_37 T9 n9 =>
      condK 2380067 x97_37
      (
       .bad 2380068
      )
      (
       bsK 2380070 T9 n9 1 9 1 [(0, (.lit (.string ⟨⟨[40]⟩⟩)))] fun x104_38 T10 n10 =>
       callK (g99 ro a0 x104_38 T10 n10) fun x105_39 T11 n11 =>
       condK 2380073 x105_39
       (
        .bad 2380074
       )
       (
        bsK 2380076 T11 n11 1 9 1 [(0, (.lit (.string ⟨⟨[91]⟩⟩)))] fun x110_40 T12 n12 =>
        callK (g99 ro a0 x110_40 T12 n12) fun x111_41 T13 n13 =>
        condK 2380079 x111_41
        (
         .bad 2380080
        )
        (
         bsK 2380082 T13 n13 1 9 1 [(0, (.lit (.string ⟨⟨[123]⟩⟩)))] fun x116_42 T14 n14 =>
         callK (g99 ro a0 x116_42 T14 n14) fun x117_43 T15 n15 =>
         condK 2380085 x117_43
         (
          .bad 2380086
         )
         (
          callK (g78 ro a0 T15 n15) fun x121_44 T16 n16 =>
          .ok (.val (.lit (.int .i64 (.ofNat 0)))) T16 n16
         )
        )
       )
      )
     )
    )
   )
  )
 )
theorem g238_ok (ro : List HT) (a0 : AV) (T : HT) (nx : Nat) : GOk Tryz.prog envE 238 [a0] ro T nx (g238 ro a0 T nx) := by
 refine GOk.of_body Tryz.func238 rfl Tryz.ntmps238 (by kernel_rfl) rfl fun r T' n' h1 w0 base ρ0 its hS hP => ?_
 have X : CtxW envE ρ0 ro r T' n' := trivial
 unfold g238 at h1
 refine sr ?_
 refine as_ ?_
 refine dn ?_
 refine CV.seq ?_
 refine CV.regionM [(0, .anywhere), (1, .anywhere), (2, .anywhere), (3, .held), (4, .anywhere), (5, .anywhere), (6, .anywhere), (7, .held), (8, .held), (9, .held), (10, .alone), (11, .alone)] rfl (fun c a a' w hd hq => PanicOk.root (P := Tryz.prog) (fn := Tryz.f238) (w0 := w0) (base := base) (E := envE) (ro := ro) (r := r) (T' := T') (n' := n') (ρ0 := ρ0) c a a' w hd hq) (by kernel_rfl) ?_
 refine MV.step0 (i := 0) rfl (VAL.move rfl) rfl rfl rfl ?_
 refine MV.lift0 (i := 1) rfl (V.nc h1 rfl) rfl rfl rfl fun x6_1 h2 => ?_
 refine MV.lift0 (i := 2) rfl (V.fa h2 rfl Rnf.fo98_0) rfl rfl rfl fun x7_2 h3 => ?_
 refine MV.lift1 (i := 3) rfl (fun _ z => z) (V.ld hS h3 rfl Rnf.one96) rfl rfl rfl [] (by kernel_rfl) fun x8_3 h4 => ?_
 refine MV.step0 (i := 4) rfl (VAL.move rfl) rfl rfl rfl ?_
 refine MV.lift0 (i := 5) rfl (V.nc h4 rfl) rfl rfl rfl fun x10_4 h5 => ?_
 refine MV.lift0 (i := 6) rfl (V.fa h5 rfl Rnf.fo98_1) rfl rfl rfl fun x11_5 h6 => ?_
 refine MV.lift1 (i := 7) rfl (fun _ z => z) (V.ld hS h6 rfl Rnf.one3) rfl rfl rfl [3] (by kernel_rfl) fun x12_6 h7 => ?_
 refine MV.lift1 (i := 8) rfl (fun _ z => z) (V.ia h7 rfl rfl Rnf.el96) rfl rfl rfl [] (by kernel_rfl) fun x13_7 h8 => ?_
 refine MV.lift1 (i := 9) rfl (fun _ z => z) (V.ldA hS h8 rfl Rnf.agg139) rfl rfl rfl [] (by kernel_rfl) fun x14_8 h9 => ?_
 refine MV.force (i := 10) rfl ?_
 refine LV.alloc hS h9 rfl Rnf.zr139 rfl rfl rfl fun x3_9 T1 n1 h10 ρ its hS hdr => ?_
 refine LV.nextM [9] (by kernel_rfl) (fun _ => hdr) ?_
 refine MV.force (i := 11) rfl ?_
 refine LV.stA hS h10 rfl rfl rfl Rnf.agg139 rfl rfl rfl fun T2 its h11 hS => ?_
 refine LV.nextM [] (by kernel_rfl) (fun z => absurd rfl z) ?_
 refine mdn ?_
 refine CV.seq ?_
 refine CV.block ?_
 refine sr ?_
 refine vy (V.fa h11 rfl Rnf.fo139_0) fun x16_10 h12 => ?_
 refine vy (V.ld hS h12 rfl Rnf.one3) fun x17_11 h13 => ?_
 refine vy (V.eq h13 rfl rfl) fun x18_12 h14 => ?_
 refine as_ ?_
 refine dn ?_
 refine CV.cond h14 rfl (fun e h15 => ?_) (fun e h15 => ?_)
 ·
  clear h1 h2 h3 h4 h5 h6 h7 h8 h9 h10 h11 h12 h13 h14
  subst e
  refine sr ?_
  refine mv ?_
  refine fl hS h15 Rnf.fo98_1 Rnf.one3 fun x22_13 h16 => ?_
  refine vy (V.add h16 rfl rfl) fun x23_14 h17 => ?_
  refine fa2 h17 Rnf.fo98_1 fun x25_15 h18 => ?_
  refine LV.st hS h18 rfl rfl rfl Rnf.siz3 rfl rfl fun T3 its h19 hS => ?_
  refine dn ?_
  refine sr ?_
  refine mv ?_
  refine vy (V.fa h19 rfl Rnf.fo139_2) fun x27_16 h20 => ?_
  refine vy (V.ld hS h20 rfl Rnf.one3) fun x28_17 h21 => ?_
  refine vy (V.fa h21 rfl Rnf.fo139_1) fun x29_18 h22 => ?_
  refine vy (V.ld hS h22 rfl Rnf.one9) fun x30_19 h23 => ?_
  refine LV.call hS h23 (g65_ok _ _ _ _ _ _ _ _ ) hP rfl rfl rfl rfl fun x31_20 T4 n4 h24 ρ its hS => ?_
  refine as_ ?_
  refine dn ?_
  refine CV.ret ?_
  refine PV.blockR ?_
  refine PV.thenR ?_
  cases h24
  exact PV.ret (by simp) Tryz.results238 hS (RS.tmp rfl RS.nil) rfl
 ·
  clear h1 h2 h3 h4 h5 h6 h7 h8 h9 h10 h11 h12 h13 h14
  subst e
  refine sr ?_
  refine vy (V.fa h15 rfl Rnf.fo139_0) fun x33_21 h25 => ?_
  refine vy (V.ld hS h25 rfl Rnf.one3) fun x34_22 h26 => ?_
  refine vy (V.eq h26 rfl rfl) fun x35_23 h27 => ?_
  refine as_ ?_
  refine dn ?_
  refine CV.cond h27 rfl (fun e h28 => ?_) (fun e h28 => ?_)
  ·
   clear h15 h25 h26 h27
   subst e
   refine sr ?_
   refine mv ?_
   refine fl hS h28 Rnf.fo98_1 Rnf.one3 fun x39_24 h29 => ?_
   refine vy (V.add h29 rfl rfl) fun x40_25 h30 => ?_
   refine fa2 h30 Rnf.fo98_1 fun x42_26 h31 => ?_
   refine LV.st hS h31 rfl rfl rfl Rnf.siz3 rfl rfl fun T5 its h32 hS => ?_
   refine dn ?_
   refine sr ?_
   refine mv ?_
   refine vy (V.fa h32 rfl Rnf.fo139_2) fun x44_27 h33 => ?_
   refine vy (V.ld hS h33 rfl Rnf.one3) fun x45_28 h34 => ?_
   refine vy (V.fa h34 rfl Rnf.fo139_1) fun x46_29 h35 => ?_
   refine vy (V.ld hS h35 rfl Rnf.one9) fun x47_30 h36 => ?_
   refine LV.call hS h36 (g65_ok _ _ _ _ _ _ _ _ ) hP rfl rfl rfl rfl fun x48_31 T6 n6 h37 ρ its hS => ?_
   refine as_ ?_
   refine dn ?_
   refine CV.ret ?_
   refine PV.blockR ?_
   refine PV.thenR ?_
   cases h37
   exact PV.ret (by simp) Tryz.results238 hS (RS.tmp rfl RS.nil) rfl
  ·
   clear h15 h25 h26 h27
   subst e
   refine sr ?_
   refine vy (V.fa h28 rfl Rnf.fo139_0) fun x50_32 h38 => ?_
   refine vy (V.ld hS h38 rfl Rnf.one3) fun x51_33 h39 => ?_
   refine vy (V.eq h39 rfl rfl) fun x52_34 h40 => ?_
   refine as_ ?_
   refine dn ?_
   refine CV.cond h40 rfl (fun e h41 => ?_) (fun e h41 => ?_)
   ·
    clear h28 h38 h39 h40
    subst e
    cases h41
   ·
    clear h28 h38 h39 h40
    subst e
    refine sr ?_
    refine mv ?_
    refine LV.call hS h41 (g131_ok _ _ _ _ _ ) hP rfl rfl rfl rfl fun x83_35 T7 n7 h42 ρ its hS => ?_
    refine as_ ?_
    refine dn ?_
    refine CV.cond h42 rfl (fun e h43 => ?_) (fun e h43 => ?_)
    ·
     clear h41 h42
     subst e
     cases h43
    ·
     clear h41 h42
     subst e
     refine sr ?_
     refine mv ?_
     refine LV.call hS h43 (g131_ok _ _ _ _ _ ) hP rfl rfl rfl rfl fun x90_36 T8 n8 h44 ρ its hS => ?_
     refine as_ ?_
     refine dn ?_
     refine CV.cond h44 rfl (fun e h45 => ?_) (fun e h45 => ?_)
     ·
      clear h43 h44
      subst e
      cases h45
     ·
      clear h43 h44
      subst e
      refine sr ?_
      refine mv ?_
      refine LV.call hS h45 (g131_ok _ _ _ _ _ ) hP rfl rfl rfl rfl fun x97_37 T9 n9 h46 ρ its hS => ?_
      refine as_ ?_
      refine dn ?_
      refine CV.cond h46 rfl (fun e h47 => ?_) (fun e h47 => ?_)
      ·
       clear h45 h46
       subst e
       cases h47
      ·
       clear h45 h46
       subst e
       refine sr ?_
       refine mv ?_
       refine LV.bslice hS h47 rfl rfl Rnf.el46 rfl rfl rfl rfl fun x104_38 T10 n10 h48 ρ its hS hdr => ?_
       refine LV.call hS h48 (g99_ok _ _ _ _ _ ) hP rfl rfl rfl rfl fun x105_39 T11 n11 h49 ρ its hS => ?_
       refine as_ ?_
       refine dn ?_
       refine CV.cond h49 rfl (fun e h50 => ?_) (fun e h50 => ?_)
       ·
        clear h47 h48 h49
        subst e
        cases h50
       ·
        clear h47 h48 h49
        subst e
        refine sr ?_
        refine mv ?_
        refine LV.bslice hS h50 rfl rfl Rnf.el46 rfl rfl rfl rfl fun x110_40 T12 n12 h51 ρ its hS hdr => ?_
        refine LV.call hS h51 (g99_ok _ _ _ _ _ ) hP rfl rfl rfl rfl fun x111_41 T13 n13 h52 ρ its hS => ?_
        refine as_ ?_
        refine dn ?_
        refine CV.cond h52 rfl (fun e h53 => ?_) (fun e h53 => ?_)
        ·
         clear h50 h51 h52
         subst e
         cases h53
        ·
         clear h50 h51 h52
         subst e
         refine sr ?_
         refine mv ?_
         refine LV.bslice hS h53 rfl rfl Rnf.el46 rfl rfl rfl rfl fun x116_42 T14 n14 h54 ρ its hS hdr => ?_
         refine LV.call hS h54 (g99_ok _ _ _ _ _ ) hP rfl rfl rfl rfl fun x117_43 T15 n15 h55 ρ its hS => ?_
         refine as_ ?_
         refine dn ?_
         refine CV.cond h55 rfl (fun e h56 => ?_) (fun e h56 => ?_)
         ·
          clear h53 h54 h55
          subst e
          cases h56
         ·
          clear h53 h54 h55
          subst e
          refine CV.skip ?_
          refine PV.blockN ?_
          refine PV.thenN ?_
          refine sr ?_
          refine mv ?_
          refine LV.call hS h56 (g78_ok _ _ _ _ ) hP rfl rfl rfl rfl fun x121_44 T16 n16 h57 ρ its hS => ?_
          refine dn ?_
          refine sr ?_
          refine as_ ?_
          refine dn ?_
          refine CV.ret ?_
          cases h57
          exact PV.ret (by simp) Tryz.results238 hS (RS.tmp rfl RS.nil) rfl
noncomputable def g235_b1 (ro : List HT) (lp1 : AV → AV → AV → HT → Nat → R) (y0 y2 y3 : AV) (T2 : HT) (n2 : Nat) : R :=
 callK (g129 ro y0 T2 n2) fun x10_2 T3 n3 =>
 callK (g131 ro y0 (.lit (.string ⟨⟨[46]⟩⟩)) T3 n3) fun x14_3 T4 n4 =>
 condK 2350012 x14_3
 (
  .bad 2350013
 )
 (
  bsK 2350015 T4 n4 1 9 1 [(0, (.lit (.string ⟨⟨[40]⟩⟩)))] fun x28_4 T5 n5 =>
  callK (g99 ro y0 x28_4 T5 n5) fun x29_5 T6 n6 =>
  condK 2350018 x29_5
  (
   .bad 2350019
  )
  (
   bsK 2350021 T6 n6 1 9 1 [(0, (.lit (.string ⟨⟨[91]⟩⟩)))] fun x35_6 T7 n7 =>
   callK (g99 ro y0 x35_6 T7 n7) fun x36_7 T8 n8 =>
   condK 2350024 x36_7
   (
    .bad 2350025
   )
   (
    .ok (.val y3) T8 n8
   )
  )
 )
noncomputable def g235 (ro : List HT) (a0 : AV) (T : HT) (nx : Nat) : R :=
 callK (g238 ro a0 T nx) fun x8_1 T1 n1 =>
 lpf3 2350005 (g235_b1 ro) 100000 a0 (.lit (.int .i64 (.ofNat 0))) x8_1 T1 n1
theorem g235_ok (ro : List HT) (a0 : AV) (T : HT) (nx : Nat) : GOk Tryz.prog envE 235 [a0] ro T nx (g235 ro a0 T nx) := by
 refine GOk.of_body Tryz.func235 rfl Tryz.ntmps235 (by kernel_rfl) rfl fun r T' n' h1 w0 base ρ0 its hS hP => ?_
 have X : CtxW envE ρ0 ro r T' n' := trivial
 unfold g235 at h1
 refine sr ?_
 refine as_ ?_
 refine dn ?_
 refine sr ?_
 refine mv ?_
 refine LV.call hS h1 (g238_ok _ _ _ _ ) hP rfl rfl rfl rfl fun x8_1 T1 n1 h2 ρ its hS => ?_
 refine as_ ?_
 refine dn ?_
 refine CV.block ?_
 refine cl3 X 0 2 3 [] hS h2 ⟨rfl, rfl, rfl, trivial⟩ ?_
 intro f1 y0 y2 y3 T2 n2 ρ its hS h3
 unfold g235_b1 at h3
 clear h1 h2
 refine CV.block ?_
 refine sr ?_
 refine mv ?_
 refine LV.call hS h3 (g129_ok _ _ _ _ ) hP rfl rfl rfl rfl fun x10_2 T3 n3 h4 ρ its hS => ?_
 refine as_ ?_
 refine dn ?_
 refine CV.block ?_
 refine sr ?_
 refine mv ?_
 refine LV.call hS h4 (g131_ok _ _ _ _ _ ) hP rfl rfl rfl rfl fun x14_3 T4 n4 h5 ρ its hS => ?_
 refine as_ ?_
 refine dn ?_
 refine CV.cond h5 rfl (fun e h6 => ?_) (fun e h6 => ?_)
 ·
  clear h3 h4 h5
  subst e
  cases h6
 ·
  clear h3 h4 h5
  subst e
  refine sr ?_
  refine mv ?_
  refine LV.bslice hS h6 rfl rfl Rnf.el46 rfl rfl rfl rfl fun x28_4 T5 n5 h7 ρ its hS hdr => ?_
  refine LV.call hS h7 (g99_ok _ _ _ _ _ ) hP rfl rfl rfl rfl fun x29_5 T6 n6 h8 ρ its hS => ?_
  refine as_ ?_
  refine dn ?_
  refine CV.cond h8 rfl (fun e h9 => ?_) (fun e h9 => ?_)
  ·
   clear h6 h7 h8
   subst e
   cases h9
  ·
   clear h6 h7 h8
   subst e
   refine sr ?_
   refine mv ?_
   refine LV.bslice hS h9 rfl rfl Rnf.el46 rfl rfl rfl rfl fun x35_6 T7 n7 h10 ρ its hS hdr => ?_
   refine LV.call hS h10 (g99_ok _ _ _ _ _ ) hP rfl rfl rfl rfl fun x36_7 T8 n8 h11 ρ its hS => ?_
   refine as_ ?_
   refine dn ?_
   refine CV.cond h11 rfl (fun e h12 => ?_) (fun e h12 => ?_)
   ·
    clear h9 h10 h11
    subst e
    cases h12
   ·
    clear h9 h10 h11
    subst e
    refine sr ?_
    refine mv ?_
    refine as_ ?_
    refine dn ?_
    refine CV.ret ?_
    refine PV.blockR ?_
    refine PV.blockR ?_
    refine PV.thenR ?_
    refine PV.blockR ?_
    cases h12
    exact PV.ret (by simp) Tryz.results235 hS (RS.tmp rfl RS.nil) rfl
noncomputable def g247 (ih : FuncId → List HT → List AV → HT → Nat → R) (ro : List HT) (a0 : AV) (T : HT) (nx : Nat) : R :=
 bsK 2470003 T nx 1 9 1 [(0, (.lit (.string ⟨⟨[45]⟩⟩)))] fun x6_1 T1 n1 =>
 callK (g99 ro a0 x6_1 T1 n1) fun x7_2 T2 n2 =>
 notK 2470005 x7_2 fun x8_3 =>
 condK 2470006 x8_3
 (
  callK (g235 ro a0 T2 n2) fun x10_4 T3 n3 =>
  .ok (.val x10_4) T3 n3
 )
 (
  callK (g177 ro a0 (.lit (.string ⟨⟨[45]⟩⟩)) T2 n2) fun x12_5 T4 n4 =>
  callK (g176 ro a0 x12_5 T4 n4) fun x15_6 T5 n5 =>
  callK (ih 247 ro [a0] T5 n5) fun x17_7 T6 n6 =>
  fldK 2470020 T6 ro a0 3 fun x21_8 =>
  subK Tryz.prog 3 (.tmp 21) (.const (.int .i64 (.ofNat 1))) 2470021 x21_8 (.lit (.int .i64 (.ofNat 1))) fun x22_9 =>
  faK 2470022 a0 3 fun x24_10 =>
  stK 2470023 T6 x24_10 x22_9 fun T7 =>
  bsK 2470027 T7 n6 1 3 1 [(0, x17_7)] fun x28_11 T8 n8 =>
  callK (g65 ro a0 (.lit (.int .i64 (.ofNat 16))) x12_5 (.lit (.string ⟨⟨[]⟩⟩)) x28_11 T8 n8) fun x29_12 T9 n9 =>
  .ok (.val x29_12) T9 n9
 )
theorem g247_ok (ih : FuncId → List HT → List AV → HT → Nat → R) (hI : ∀ f ro args T nx, GOk Tryz.prog envE f args ro T nx (ih f ro args T nx)) (ro : List HT) (a0 : AV) (T : HT) (nx : Nat) : GOk Tryz.prog envE 247 [a0] ro T nx (g247 ih ro a0 T nx) := by
 refine GOk.of_body Tryz.func247 rfl Tryz.ntmps247 (by kernel_rfl) rfl fun r T' n' h1 w0 base ρ0 its hS hP => ?_
 have X : CtxW envE ρ0 ro r T' n' := trivial
 unfold g247 at h1
 refine sr ?_
 refine as_ ?_
 refine dn ?_
 refine CV.seq ?_
 refine sr ?_
 refine mv ?_
 refine LV.bslice hS h1 rfl rfl Rnf.el46 rfl rfl rfl rfl fun x6_1 T1 n1 h2 ρ its hS hdr => ?_
 refine LV.call hS h2 (g99_ok _ _ _ _ _ ) hP rfl rfl rfl rfl fun x7_2 T2 n2 h3 ρ its hS => ?_
 refine vy (V.not h3 rfl) fun x8_3 h4 => ?_
 refine dn ?_
 refine CV.cond h4 rfl (fun e h5 => ?_) (fun e h5 => ?_)
 ·
  clear h1 h2 h3 h4
  subst e
  refine sr ?_
  refine mv ?_
  refine LV.call hS h5 (g235_ok _ _ _ _ ) hP rfl rfl rfl rfl fun x10_4 T3 n3 h6 ρ its hS => ?_
  refine as_ ?_
  refine dn ?_
  refine CV.ret ?_
  refine PV.thenR ?_
  cases h6
  exact PV.ret (by simp) Tryz.results247 hS (RS.tmp rfl RS.nil) rfl
 ·
  clear h1 h2 h3 h4
  subst e
  refine CV.skip ?_
  refine PV.thenN ?_
  refine sr ?_
  refine mv ?_
  refine LV.call hS h5 (g177_ok _ _ _ _ _ ) hP rfl rfl rfl rfl fun x12_5 T4 n4 h7 ρ its hS => ?_
  refine as_ ?_
  refine dn ?_
  refine sr ?_
  refine mv ?_
  refine mv ?_
  refine LV.call hS h7 (g176_ok _ _ _ _ _ ) hP rfl rfl rfl rfl fun x15_6 T5 n5 h8 ρ its hS => ?_
  refine dn ?_
  refine sr ?_
  refine mv ?_
  refine LV.call hS h8 (hI _ _ _ _ _) hP rfl rfl rfl rfl fun x17_7 T6 n6 h9 ρ its hS => ?_
  refine as_ ?_
  refine dn ?_
  refine sr ?_
  refine mv ?_
  refine fl hS h9 Rnf.fo98_3 Rnf.one3 fun x21_8 h10 => ?_
  refine vy (V.sub h10 rfl rfl) fun x22_9 h11 => ?_
  refine fa2 h11 Rnf.fo98_3 fun x24_10 h12 => ?_
  refine LV.st hS h12 rfl rfl rfl Rnf.siz3 rfl rfl fun T7 its h13 hS => ?_
  refine dn ?_
  refine sr ?_
  refine mv ?_
  refine mv ?_
  refine mv ?_
  refine LV.bslice hS h13 rfl rfl Rnf.el30 rfl rfl rfl rfl fun x28_11 T8 n8 h14 ρ its hS hdr => ?_
  refine LV.call hS h14 (g65_ok _ _ _ _ _ _ _ _ ) hP rfl rfl rfl rfl fun x29_12 T9 n9 h15 ρ its hS => ?_
  refine as_ ?_
  refine dn ?_
  refine CV.ret ?_
  cases h15
  exact PV.ret (by simp) Tryz.results247 hS (RS.tmp rfl RS.nil) rfl
noncomputable def ap2 (ih : FuncId → List HT → List AV → HT → Nat → R) (f : FuncId) (ro : List HT) (args : List AV) (T : HT) (nx : Nat) : R :=
  Bool.rec (motive := fun _ => R) (.bad 2) (List.rec (motive := fun _ => R) (.bad 1) (fun a0 l0 _ => List.rec (motive := fun _ => R) (g247 ih ro a0 T nx) (fun _ _ _ => .bad 1) l0) args) (Nat.beq f 247)
noncomputable def scc2 (fuel : Nat) : FuncId → List HT → List AV → HT → Nat → R :=
  Nat.rec (motive := fun _ => FuncId → List HT → List AV → HT → Nat → R) (fun _ _ _ _ _ => .bad 3) (fun _ ih => ap2 ih) fuel
theorem ap2_ok (ih : FuncId → List HT → List AV → HT → Nat → R) (hI : ∀ f ro args T nx, GOk Tryz.prog envE f args ro T nx (ih f ro args T nx)) (f : FuncId) (ro : List HT) (args : List AV) (T : HT) (nx : Nat) : GOk Tryz.prog envE f args ro T nx (ap2 ih f ro args T nx) := by
  unfold ap2
  refine recb_go (fun hb => ?_) (fun _ => ?_)
  · obtain rfl := beqT hb
    rcases args with _ | ⟨a0, l0⟩
    · exact GOk.bad
    rcases l0 with _ | ⟨_, _⟩
    · exact g247_ok _ hI _ _ _ _ 
    · exact GOk.bad
  · exact GOk.bad
theorem scc2_ok : ∀ (fuel : Nat) (f : FuncId) (ro : List HT) (args : List AV) (T : HT) (nx : Nat), GOk Tryz.prog envE f args ro T nx (scc2 fuel f ro args T nx)
  | 0, _, _, _, _, _ => GOk.bad
  | fuel + 1, f, ro, args, T, nx => ap2_ok (scc2 fuel) (scc2_ok fuel) f ro args T nx
noncomputable def g34 (ih : FuncId → List HT → List AV → HT → Nat → R) (ro : List HT) (a0 : AV) (T : HT) (nx : Nat) : R :=
 callK (ih 35 ro [a0] T nx) fun x3_1 T1 n1 =>
 .ok (.val (.tup [])) T1 n1
theorem g34_ok (ih : FuncId → List HT → List AV → HT → Nat → R) (hI : ∀ f ro args T nx, GOk Tryz.prog envE f args ro T nx (ih f ro args T nx)) (ro : List HT) (a0 : AV) (T : HT) (nx : Nat) : GOk Tryz.prog envE 34 [a0] ro T nx (g34 ih ro a0 T nx) := by
 refine GOk.of_body Tryz.func34 rfl Tryz.ntmps34 (by kernel_rfl) rfl fun r T' n' h1 w0 base ρ0 its hS hP => ?_
 have X : CtxW envE ρ0 ro r T' n' := trivial
 unfold g34 at h1
 refine CV.region ?_
 refine mv ?_
 refine LV.call hS h1 (hI _ _ _ _ _) hP rfl rfl rfl rfl fun x3_1 T1 n1 h2 ρ its hS => ?_
 refine LV.done ?_
 cases h2
 exact PV.ret (by simp) Tryz.results34 hS RS.nil rfl
noncomputable def g35_b1 (ih : FuncId → List HT → List AV → HT → Nat → R) (ro : List HT) (lp1 : AV → AV → HT → Nat → R) (y0 y2 : AV) (T1 : HT) (n1 : Nat) : R :=
 callK (g50 ro y0 T1 n1) fun x4_1 T2 n2 =>
 neK Tryz.prog 3 (.tmp 4) (.const (.int .i64 (.ofNat 8))) 350005 x4_1 (.lit (.int .i64 (.ofNat 8))) fun x5_2 =>
 condK 350006 x5_2
 (
  callK (ih 64 ro [y0, (.lit (.bool true))] T2 n2) fun x8_3 T3 n3 =>
  bsK 350010 T3 n3 1 3 1 [(0, x8_3)] fun x9_4 T4 n4 =>
  shrK 350012 T4 y2 fun T5 =>
  appK 350011 T5 ro n4 3 1 8 y2 x9_4 fun x10_5 T6 n6 =>
  lp1 y0 x10_5 T6 n6
 )
 (
  lenSK 350015 y2 fun x12_6 =>
  eqK Tryz.prog 3 (.tmp 12) (.const (.int .i64 (.ofNat 0))) 350016 x12_6 (.lit (.int .i64 (.ofNat 0))) fun x13_7 =>
  condK 350017 x13_7
  (
   .bad 350018
  )
  (
   ncK 350021 y0 fun x19_8 =>
   faK 350022 x19_8 2 fun x20_9 =>
   ldK 350023 T2 ro x20_9 fun x21_10 =>
   iaK 350025 y2 (.lit (.int .i64 (.ofNat 0))) 1 fun x23_11 =>
   ldK 350026 T2 ro x23_11 fun x24_12 =>
   iaK 350027 x21_10 x24_12 5 fun x25_13 =>
   faK 350028 x25_13 2 fun x26_14 =>
   ldK 350029 T2 ro x26_14 fun x27_15 =>
   callK (g65 ro y0 (.lit (.int .i64 (.ofNat 47))) x27_15 (.lit (.string ⟨⟨[]⟩⟩)) y2 T2 n2) fun x29_16 T7 n7 =>
   .ok (.val (.tup [])) T7 n7
  )
 )
noncomputable def g35 (ih : FuncId → List HT → List AV → HT → Nat → R) (ro : List HT) (a0 : AV) (T : HT) (nx : Nat) : R :=
 lpf2 350002 (g35_b1 ih ro) 100000 a0 (.lit (.slice none 0 0)) T nx
theorem g35_ok (ih : FuncId → List HT → List AV → HT → Nat → R) (hI : ∀ f ro args T nx, GOk Tryz.prog envE f args ro T nx (ih f ro args T nx)) (ro : List HT) (a0 : AV) (T : HT) (nx : Nat) : GOk Tryz.prog envE 35 [a0] ro T nx (g35 ih ro a0 T nx) := by
 refine GOk.of_body Tryz.func35 rfl Tryz.ntmps35 (by kernel_rfl) rfl fun r T' n' h1 w0 base ρ0 its hS hP => ?_
 have X : CtxW envE ρ0 ro r T' n' := trivial
 unfold g35 at h1
 refine sr ?_
 refine as_ ?_
 refine dn ?_
 refine CV.seq ?_
 refine CV.block ?_
 refine cl2 X 0 2 [] hS h1 ⟨rfl, rfl, trivial⟩ ?_
 intro f1 y0 y2 T1 n1 ρ its hS h2
 unfold g35_b1 at h2
 clear h1
 refine CV.seq ?_
 refine sr ?_
 refine mv ?_
 refine LV.call hS h2 (g50_ok _ _ _ _ ) hP rfl rfl rfl rfl fun x4_1 T2 n2 h3 ρ its hS => ?_
 refine vy (V.ne h3 rfl rfl) fun x5_2 h4 => ?_
 refine dn ?_
 refine CV.cond h4 rfl (fun e h5 => ?_) (fun e h5 => ?_)
 ·
  clear h2 h3 h4
  subst e
  refine CV.skip ?_
  refine PV.thenN ?_
  refine CV.block ?_
  refine CV.region ?_
  refine mv ?_
  refine mv ?_
  refine LV.call hS h5 (hI _ _ _ _ _) hP rfl rfl rfl rfl fun x8_3 T3 n3 h6 ρ its hS => ?_
  refine LV.bslice hS h6 rfl rfl Rnf.el30 rfl rfl rfl rfl fun x9_4 T4 n4 h7 ρ its hS hdr => ?_
  obtain ⟨T5, its1, h8, hS, hW⟩ := shrK_inv hS h7
  refine LV.world hW ?_
  refine LV.app hS h8 rfl rfl rfl rfl Rnf.el30 rfl rfl rfl fun x10_5 T6 n6 h9 ρ its hS => ?_
  refine as_ ?_
  refine LV.done ?_
  refine PV.blockN ?_
  exact pb2 hS h9 ⟨rfl, rfl, trivial⟩
 ·
  clear h2 h3 h4
  subst e
  refine CV.exit ?_
  refine PV.thenE ?_
  refine PV.thenE ?_
  refine PV.blockE ?_
  refine PV.thenN ?_
  refine CV.seq ?_
  refine sr ?_
  refine mv ?_
  refine vy (V.lenS h5 rfl Rnf.ls30) fun x12_6 h10 => ?_
  refine vy (V.eq h10 rfl rfl) fun x13_7 h11 => ?_
  refine dn ?_
  refine CV.cond h11 rfl (fun e h12 => ?_) (fun e h12 => ?_)
  ·
   clear h5 h10 h11
   subst e
   cases h12
  ·
   clear h5 h10 h11
   subst e
   refine CV.skip ?_
   refine PV.thenN ?_
   refine CV.regionM [(0, .anywhere), (1, .anywhere), (2, .anywhere), (3, .anywhere), (4, .held), (5, .anywhere), (6, .anywhere), (7, .held), (8, .held), (9, .held), (10, .held), (11, .anywhere), (12, .alone)] rfl (fun c a a' w hd hq => PanicOk.root (P := Tryz.prog) (fn := Tryz.f35) (w0 := w0) (base := base) (E := envE) (ro := ro) (r := r) (T' := T') (n' := n') (ρ0 := ρ0) c a a' w hd hq) (by kernel_rfl) ?_
   refine MV.step0 (i := 0) rfl (VAL.move rfl) rfl rfl rfl ?_
   refine MV.step0 (i := 1) rfl (VAL.move rfl) rfl rfl rfl ?_
   refine MV.lift0 (i := 2) rfl (V.nc h12 rfl) rfl rfl rfl fun x19_8 h13 => ?_
   refine MV.lift0 (i := 3) rfl (V.fa h13 rfl Rnf.fo98_2) rfl rfl rfl fun x20_9 h14 => ?_
   refine MV.lift1 (i := 4) rfl (fun _ z => z) (V.ld hS h14 rfl Rnf.one23) rfl rfl rfl [] (by kernel_rfl) fun x21_10 h15 => ?_
   refine MV.step0 (i := 5) rfl (VAL.move rfl) rfl rfl rfl ?_
   refine MV.lift0 (i := 6) rfl (V.ia h15 rfl rfl Rnf.el30) rfl rfl rfl fun x23_11 h16 => ?_
   refine MV.lift1 (i := 7) rfl (fun _ z => z) (V.ld hS h16 rfl Rnf.one3) rfl rfl rfl [4] (by kernel_rfl) fun x24_12 h17 => ?_
   refine MV.lift1 (i := 8) rfl (fun _ z => z) (V.ia h17 rfl rfl Rnf.el23) rfl rfl rfl [] (by kernel_rfl) fun x25_13 h18 => ?_
   refine MV.lift1 (i := 9) rfl (fun _ z => z) (V.fa h18 rfl Rnf.fo32_2) rfl rfl rfl [] (by kernel_rfl) fun x26_14 h19 => ?_
   refine MV.lift1 (i := 10) rfl (fun _ z => z) (V.ld hS h19 rfl Rnf.one3) rfl rfl rfl [] (by kernel_rfl) fun x27_15 h20 => ?_
   refine MV.step0 (i := 11) rfl (VAL.move rfl) rfl rfl rfl ?_
   refine MV.force (i := 12) rfl ?_
   refine LV.call hS h20 (g65_ok _ _ _ _ _ _ _ _ ) hP rfl rfl rfl rfl fun x29_16 T7 n7 h21 ρ its hS => ?_
   refine LV.nextM [] (by kernel_rfl) (fun z => absurd rfl z) ?_
   refine MV.done ?_
   cases h21
   exact PV.ret (by simp) Tryz.results35 hS RS.nil rfl
noncomputable def g49 (ih : FuncId → List HT → List AV → HT → Nat → R) (ro : List HT) (a0 : AV) (T : HT) (nx : Nat) : R :=
 callK (ih 77 ro [a0] T nx) fun x7_1 T1 n1 =>
 exK 490005 x7_1 0 fun x8_2 =>
 exK 490006 x7_1 1 fun x9_3 =>
 .ok (.val x8_2) T1 n1
theorem g49_ok (ih : FuncId → List HT → List AV → HT → Nat → R) (hI : ∀ f ro args T nx, GOk Tryz.prog envE f args ro T nx (ih f ro args T nx)) (ro : List HT) (a0 : AV) (T : HT) (nx : Nat) : GOk Tryz.prog envE 49 [a0] ro T nx (g49 ih ro a0 T nx) := by
 refine GOk.of_body Tryz.func49 rfl Tryz.ntmps49 (by kernel_rfl) rfl fun r T' n' h1 w0 base ρ0 its hS hP => ?_
 have X : CtxW envE ρ0 ro r T' n' := trivial
 unfold g49 at h1
 refine sr ?_
 refine as_ ?_
 refine dn ?_
 refine sr ?_
 refine mv ?_
 refine LV.call hS h1 (hI _ _ _ _ _) hP rfl rfl rfl rfl fun x7_1 T1 n1 h2 ρ its hS => ?_
 refine mv ?_
 refine vy (V.ex h2 rfl) fun x8_2 h3 => ?_
 refine vy (V.ex h3 rfl) fun x9_3 h4 => ?_
 refine as_ ?_
 refine as_ ?_
 refine dn ?_
 refine sr ?_
 refine mv ?_
 refine as_ ?_
 refine dn ?_
 refine CV.ret ?_
 cases h4
 exact PV.ret (by simp) Tryz.results49 hS (RS.tmp rfl RS.nil) rfl
noncomputable def g64 (ih : FuncId → List HT → List AV → HT → Nat → R) (ro : List HT) (a0 a1 : AV) (T : HT) (nx : Nat) : R :=
 bsK 640003 T nx 1 9 1 [(0, (.lit (.string ⟨⟨[105, 102]⟩⟩)))] fun x8_1 T1 n1 =>
 callK (g99 ro a0 x8_1 T1 n1) fun x9_2 T2 n2 =>
 condK 640006 x9_2
 (
  .bad 640007
 )
 (
  bsK 640009 T2 n2 1 9 1 [(0, (.lit (.string ⟨⟨[102, 111, 114]⟩⟩)))] fun x14_3 T3 n3 =>
  callK (g99 ro a0 x14_3 T3 n3) fun x15_4 T4 n4 =>
  condK 640012 x15_4
  (
   .bad 640013
  )
  (
   bsK 640015 T4 n4 1 9 1 [(0, (.lit (.string ⟨⟨[100, 101, 102]⟩⟩)))] fun x20_5 T5 n5 =>
   callK (g99 ro a0 x20_5 T5 n5) fun x21_6 T6 n6 =>
   condK 640018 x21_6
   (
    notK 640020 a1 fun x23_7 =>
    condK 640021 x23_7
    (
     .bad 640022
    )
    (
     callK (ih 102 ro [a0] T6 n6) fun x27_8 T7 n7 =>
     .ok (.val x27_8) T7 n7
    )
   )
   (
    callK (ih 103 ro [a0, a1] T6 n6) fun x30_9 T8 n8 =>
    callK (g51 ro a0 (.lit (.int .i64 (.ofNat 5))) T8 n8) fun x32_10 T9 n9 =>
    .ok (.val x30_9) T9 n9
   )
  )
 )
theorem g64_ok (ih : FuncId → List HT → List AV → HT → Nat → R) (hI : ∀ f ro args T nx, GOk Tryz.prog envE f args ro T nx (ih f ro args T nx)) (ro : List HT) (a0 a1 : AV) (T : HT) (nx : Nat) : GOk Tryz.prog envE 64 [a0, a1] ro T nx (g64 ih ro a0 a1 T nx) := by
 refine GOk.of_body Tryz.func64 rfl Tryz.ntmps64 (by kernel_rfl) rfl fun r T' n' h1 w0 base ρ0 its hS hP => ?_
 have X : CtxW envE ρ0 ro r T' n' := trivial
 unfold g64 at h1
 refine sr ?_
 refine as_ ?_
 refine dn ?_
 refine CV.seq ?_
 refine CV.block ?_
 refine sr ?_
 refine mv ?_
 refine LV.bslice hS h1 rfl rfl Rnf.el46 rfl rfl rfl rfl fun x8_1 T1 n1 h2 ρ its hS hdr => ?_
 refine LV.call hS h2 (g99_ok _ _ _ _ _ ) hP rfl rfl rfl rfl fun x9_2 T2 n2 h3 ρ its hS => ?_
 refine as_ ?_
 refine dn ?_
 refine CV.cond h3 rfl (fun e h4 => ?_) (fun e h4 => ?_)
 ·
  clear h1 h2 h3
  subst e
  cases h4
 ·
  clear h1 h2 h3
  subst e
  refine sr ?_
  refine mv ?_
  refine LV.bslice hS h4 rfl rfl Rnf.el46 rfl rfl rfl rfl fun x14_3 T3 n3 h5 ρ its hS hdr => ?_
  refine LV.call hS h5 (g99_ok _ _ _ _ _ ) hP rfl rfl rfl rfl fun x15_4 T4 n4 h6 ρ its hS => ?_
  refine as_ ?_
  refine dn ?_
  refine CV.cond h6 rfl (fun e h7 => ?_) (fun e h7 => ?_)
  ·
   clear h4 h5 h6
   subst e
   cases h7
  ·
   clear h4 h5 h6
   subst e
   refine sr ?_
   refine mv ?_
   refine LV.bslice hS h7 rfl rfl Rnf.el46 rfl rfl rfl rfl fun x20_5 T5 n5 h8 ρ its hS hdr => ?_
   refine LV.call hS h8 (g99_ok _ _ _ _ _ ) hP rfl rfl rfl rfl fun x21_6 T6 n6 h9 ρ its hS => ?_
   refine as_ ?_
   refine dn ?_
   refine CV.cond h9 rfl (fun e h10 => ?_) (fun e h10 => ?_)
   ·
    clear h7 h8 h9
    subst e
    refine CV.seq ?_
    refine sr ?_
    refine mv ?_
    refine vy (V.not h10 rfl) fun x23_7 h11 => ?_
    refine dn ?_
    refine CV.cond h11 rfl (fun e h12 => ?_) (fun e h12 => ?_)
    ·
     clear h10 h11
     subst e
     cases h12
    ·
     clear h10 h11
     subst e
     refine CV.skip ?_
     refine PV.thenN ?_
     refine sr ?_
     refine mv ?_
     refine LV.call hS h12 (hI _ _ _ _ _) hP rfl rfl rfl rfl fun x27_8 T7 n7 h13 ρ its hS => ?_
     refine as_ ?_
     refine dn ?_
     refine CV.ret ?_
     refine PV.blockR ?_
     refine PV.thenR ?_
     cases h13
     exact PV.ret (by simp) Tryz.results64 hS (RS.tmp rfl RS.nil) rfl
   ·
    clear h7 h8 h9
    subst e
    refine CV.skip ?_
    refine PV.blockN ?_
    refine PV.thenN ?_
    refine sr ?_
    refine mv ?_
    refine mv ?_
    refine LV.call hS h10 (hI _ _ _ _ _) hP rfl rfl rfl rfl fun x30_9 T8 n8 h14 ρ its hS => ?_
    refine as_ ?_
    refine dn ?_
    refine sr ?_
    refine mv ?_
    refine LV.call hS h14 (g51_ok _ _ _ _ _ ) hP rfl rfl rfl rfl fun x32_10 T9 n9 h15 ρ its hS => ?_
    refine dn ?_
    refine sr ?_
    refine mv ?_
    refine as_ ?_
    refine dn ?_
    refine CV.ret ?_
    cases h15
    exact PV.ret (by simp) Tryz.results64 hS (RS.tmp rfl RS.nil) rfl
noncomputable def g77_k1 (ih : FuncId → List HT → List AV → HT → Nat → R) (ro : List HT) (y0 y2 y3 y4 y5 y6 : AV) (T4 : HT) (n4 : Nat) : R :=
 notK 770012 y6 fun x22_4 =>
 condK 770013 x22_4
 (
  iaK 770015 y5 (.lit (.int .i64 (.ofNat 0))) 1 fun x24_5 =>
  ldK 770016 T4 ro x24_5 fun x25_6 =>
  .ok (.val (.tup [x25_6, (.lit (.bool false))])) T4 n4
 )
 (
  callK (g65 ro y0 (.lit (.int .i64 (.ofNat 8))) y4 (.lit (.string ⟨⟨[]⟩⟩)) y5 T4 n4) fun x29_7 T5 n5 =>
  .ok (.val (.tup [x29_7, (.lit (.bool true))])) T5 n5
 )
noncomputable def g77_b2 (ih : FuncId → List HT → List AV → HT → Nat → R) (ro : List HT) (lp2 : AV → AV → AV → AV → AV → AV → HT → Nat → R) (y0 y2 y3 y4 y5 y6 : AV) (T6 : HT) (n6 : Nat) : R :=
 callK (g131 ro y0 (.lit (.string ⟨⟨[44]⟩⟩)) T6 n6) fun x13_8 T7 n7 =>
 condK 770028 x13_8
 (
  callK (g132 ro y0 T7 n7) fun x15_9 T8 n8 =>
  condK 770032 x15_9
  (
   g77_k1 ih ro y0 y2 y3 y4 y5 (.lit (.bool true)) T8 n8
  )
  (
   callK (ih 130 ro [y0] T8 n8) fun x18_10 T9 n9 =>
   bsK 770036 T9 n9 1 3 1 [(0, x18_10)] fun x19_11 T10 n10 =>
   shrK 770038 T10 y5 fun T11 =>
   appK 770037 T11 ro n10 3 1 8 y5 x19_11 fun x20_12 T12 n12 =>
   lp2 y0 y2 y3 y4 x20_12 (.lit (.bool true)) T12 n12
  )
 )
 (
  g77_k1 ih ro y0 y2 y3 y4 y5 y6 T7 n7
 )
noncomputable def g77 (ih : FuncId → List HT → List AV → HT → Nat → R) (ro : List HT) (a0 : AV) (T : HT) (nx : Nat) : R :=
 callK (g129 ro a0 T nx) fun x8_1 T1 n1 =>
 callK (ih 130 ro [a0] T1 n1) fun x10_2 T2 n2 =>
 bsK 770008 T2 n2 1 3 1 [(0, x10_2)] fun x11_3 T3 n3 =>
 lpf6 770025 (g77_b2 ih ro) 100000 a0 (.lit (.int .i64 (.ofNat 0))) (.lit (.bool false)) x8_1 x11_3 (.lit (.bool false)) T3 n3
theorem g77_ok (ih : FuncId → List HT → List AV → HT → Nat → R) (hI : ∀ f ro args T nx, GOk Tryz.prog envE f args ro T nx (ih f ro args T nx)) (ro : List HT) (a0 : AV) (T : HT) (nx : Nat) : GOk Tryz.prog envE 77 [a0] ro T nx (g77 ih ro a0 T nx) := by
 refine GOk.of_body Tryz.func77 rfl Tryz.ntmps77 (by kernel_rfl) rfl fun r T' n' h1 w0 base ρ0 its hS hP => ?_
 have X : CtxW envE ρ0 ro r T' n' := trivial
 unfold g77 at h1
 refine sr ?_
 refine as_ ?_
 refine as_ ?_
 refine dn ?_
 refine sr ?_
 refine mv ?_
 refine LV.call hS h1 (g129_ok _ _ _ _ ) hP rfl rfl rfl rfl fun x8_1 T1 n1 h2 ρ its hS => ?_
 refine as_ ?_
 refine dn ?_
 refine sr ?_
 refine mv ?_
 refine LV.call hS h2 (hI _ _ _ _ _) hP rfl rfl rfl rfl fun x10_2 T2 n2 h3 ρ its hS => ?_
 refine LV.bslice hS h3 rfl rfl Rnf.el30 rfl rfl rfl rfl fun x11_3 T3 n3 h4 ρ its hS hdr => ?_
 refine as_ ?_
 refine dn ?_
 refine sr ?_
 refine as_ ?_
 refine dn ?_
 refine cs6 X 0 2 3 4 5 6 [] (g77_k1 ih ro) ?_ ?_
 ·
  refine CV.block ?_
  refine cl6 X 0 2 3 4 5 6 [] hS h4 ⟨rfl, rfl, rfl, rfl, rfl, rfl, trivial⟩ ?_
  intro f2 y0 y2 y3 y4 y5 y6 T6 n6 ρ its hS h11
  unfold g77_b2 at h11
  clear h1 h2 h3 h4
  refine CV.seq ?_
  refine sr ?_
  refine mv ?_
  refine LV.call hS h11 (g131_ok _ _ _ _ _ ) hP rfl rfl rfl rfl fun x13_8 T7 n7 h12 ρ its hS => ?_
  refine dn ?_
  refine CV.cond h12 rfl (fun e h13 => ?_) (fun e h13 => ?_)
  ·
   clear h11 h12
   subst e
   refine CV.skip ?_
   refine PV.thenN ?_
   refine CV.block ?_
   refine sr ?_
   refine as_ ?_
   refine dn ?_
   refine CV.seq ?_
   refine sr ?_
   refine mv ?_
   refine LV.call hS h13 (g132_ok _ _ _ _ ) hP rfl rfl rfl rfl fun x15_9 T8 n8 h14 ρ its hS => ?_
   refine dn ?_
   refine CV.cond h14 rfl (fun e h15 => ?_) (fun e h15 => ?_)
   ·
    clear h13 h14
    subst e
    refine CV.exit ?_
    refine PV.thenE ?_
    refine PV.blockO rfl ?_
    refine PV.thenE ?_
    refine PV.blockE ?_
    exact pa6 hS h15 ⟨rfl, rfl, rfl, rfl, rfl, rfl, trivial⟩
   ·
    clear h13 h14
    subst e
    refine CV.skip ?_
    refine PV.thenN ?_
    refine CV.region ?_
    refine mv ?_
    refine mv ?_
    refine LV.call hS h15 (hI _ _ _ _ _) hP rfl rfl rfl rfl fun x18_10 T9 n9 h16 ρ its hS => ?_
    refine LV.bslice hS h16 rfl rfl Rnf.el30 rfl rfl rfl rfl fun x19_11 T10 n10 h17 ρ its hS hdr => ?_
    obtain ⟨T11, its1, h18, hS, hW⟩ := shrK_inv hS h17
    refine LV.world hW ?_
    refine LV.app hS h18 rfl rfl rfl rfl Rnf.el30 rfl rfl rfl fun x20_12 T12 n12 h19 ρ its hS => ?_
    refine as_ ?_
    refine LV.done ?_
    refine PV.blockN ?_
    exact pb6 hS h19 ⟨rfl, rfl, rfl, rfl, rfl, rfl, trivial⟩
  ·
   clear h11 h12
   subst e
   refine CV.exit ?_
   refine PV.thenE ?_
   refine PV.thenE ?_
   refine PV.blockE ?_
   exact pa6 hS h13 ⟨rfl, rfl, rfl, rfl, rfl, rfl, trivial⟩
 ·
  intro y0 y2 y3 y4 y5 y6 T4 n4 ρ its hS h5
  unfold g77_k1 at h5
  clear h1 h2 h3 h4
  refine CV.seq ?_
  refine sr ?_
  refine mv ?_
  refine vy (V.not h5 rfl) fun x22_4 h6 => ?_
  refine dn ?_
  refine CV.cond h6 rfl (fun e h7 => ?_) (fun e h7 => ?_)
  ·
   clear h5 h6
   subst e
   refine sr ?_
   refine mv ?_
   refine vy (V.ia h7 rfl rfl Rnf.el30) fun x24_5 h8 => ?_
   refine vy (V.ld hS h8 rfl Rnf.one3) fun x25_6 h9 => ?_
   refine as_ ?_
   refine as_ ?_
   refine dn ?_
   refine CV.ret ?_
   refine PV.thenR ?_
   cases h9
   exact PV.ret (by simp) Tryz.results77 hS (RS.tmp rfl (RS.tmp rfl RS.nil)) rfl
  ·
   clear h5 h6
   subst e
   refine CV.skip ?_
   refine PV.thenN ?_
   refine sr ?_
   refine mv ?_
   refine mv ?_
   refine mv ?_
   refine LV.call hS h7 (g65_ok _ _ _ _ _ _ _ _ ) hP rfl rfl rfl rfl fun x29_7 T5 n5 h10 ρ its hS => ?_
   refine as_ ?_
   refine as_ ?_
   refine dn ?_
   refine CV.ret ?_
   cases h10
   exact PV.ret (by simp) Tryz.results77 hS (RS.tmp rfl (RS.tmp rfl RS.nil)) rfl

end Go.Proofs.YtdepmlcnllofiaaGreatDoor.Rn
