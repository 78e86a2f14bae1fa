/-
  Proved here: plain functions that do what the program's functions do, each with its proof.
-/
import Derived.Test.YtlljgagoboapaaaGreatDoorCnf
namespace Go.Proofs.YtlljgagoboapaaaGreatDoor.Cn
open Go.EY Go.EX Go.SX Go.RowKit
def envE : List (Nat × AV) := [(6, (.iface 347 (.opq 0))), (5, (.iface 347 (.opq 1))), (3, (.iface 347 (.opq 2))), (1, (.iface 347 (.opq 3))), (4, (.iface 347 (.opq 4))), (2, (.iface 347 (.opq 5)))]
noncomputable def bld60 (ps : List (Nat × AV)) : Option AV := (placesA Tryz.prog 60).bind fun q => (fillA q.2 (q.1.map .lit) ps).map .agg
noncomputable def bld164 (ps : List (Nat × AV)) : Option AV := (placesA Tryz.prog 164).bind fun q => (fillA q.2 (q.1.map .lit) ps).map .agg
noncomputable def bld166 (ps : List (Nat × AV)) : Option AV := (placesA Tryz.prog 166).bind fun q => (fillA q.2 (q.1.map .lit) ps).map .agg
noncomputable def bld169 (ps : List (Nat × AV)) : Option AV := (placesA Tryz.prog 169).bind fun q => (fillA q.2 (q.1.map .lit) ps).map .agg
noncomputable def bld172 (ps : List (Nat × AV)) : Option AV := (placesA Tryz.prog 172).bind fun q => (fillA q.2 (q.1.map .lit) ps).map .agg
noncomputable def bld175 (ps : List (Nat × AV)) : Option AV := (placesA Tryz.prog 175).bind fun q => (fillA q.2 (q.1.map .lit) ps).map .agg
noncomputable def bld179 (ps : List (Nat × AV)) : Option AV := (placesA Tryz.prog 179).bind fun q => (fillA q.2 (q.1.map .lit) ps).map .agg
noncomputable def bld185 (ps : List (Nat × AV)) : Option AV := (placesA Tryz.prog 185).bind fun q => (fillA q.2 (q.1.map .lit) ps).map .agg
noncomputable def bld207 (ps : List (Nat × AV)) : Option AV := (placesA Tryz.prog 207).bind fun q => (fillA q.2 (q.1.map .lit) ps).map .agg
noncomputable def bld213 (ps : List (Nat × AV)) : Option AV := (placesA Tryz.prog 213).bind fun q => (fillA q.2 (q.1.map .lit) ps).map .agg
noncomputable def bld217 (ps : List (Nat × AV)) : Option AV := (placesA Tryz.prog 217).bind fun q => (fillA q.2 (q.1.map .lit) ps).map .agg
noncomputable def bld226 (ps : List (Nat × AV)) : Option AV := (placesA Tryz.prog 226).bind fun q => (fillA q.2 (q.1.map .lit) ps).map .agg
noncomputable def bld233 (ps : List (Nat × AV)) : Option AV := (placesA Tryz.prog 233).bind fun q => (fillA q.2 (q.1.map .lit) ps).map .agg
noncomputable def bld237 (ps : List (Nat × AV)) : Option AV := (placesA Tryz.prog 237).bind fun q => (fillA q.2 (q.1.map .lit) ps).map .agg
noncomputable def bld255 (ps : List (Nat × AV)) : Option AV := (placesA Tryz.prog 255).bind fun q => (fillA q.2 (q.1.map .lit) ps).map .agg
noncomputable def bld264 (ps : List (Nat × AV)) : Option AV := (placesA Tryz.prog 264).bind fun q => (fillA q.2 (q.1.map .lit) ps).map .agg
noncomputable def g86 (ro : List HT) (a0 : AV) (T : HT) (nx : Nat) : R :=
 ncK 860003 a0 fun x4_1 =>
 faK 860004 x4_1 0 fun x5_2 =>
 ldK 860005 T ro x5_2 fun x6_3 =>
 ncK 860007 a0 fun x8_4 =>
 faK 860008 x8_4 1 fun x9_5 =>
 ldK 860009 T ro x9_5 fun x10_6 =>
 iaK 860010 x6_3 x10_6 3 fun x11_7 =>
 faK 860011 x11_7 0 fun x12_8 =>
 ldK 860012 T ro x12_8 fun x13_9 =>
 .ok (.val x13_9) T nx
theorem g86_ok (ro : List HT) (a0 : AV) (T : HT) (nx : Nat) : GOk Tryz.prog envE 86 [a0] ro T nx (g86 ro a0 T nx) := by
 refine GOk.of_body Tryz.func86 rfl Tryz.ntmps86 (by kernel_rfl) rfl fun r T' n' h1 w0 base ρ0 its hS hP => ?_
 have X : CtxW envE ρ0 ro r T' n' := trivial
 unfold g86 at h1
 refine sr ?_
 refine as_ ?_
 refine dn ?_
 refine CV.seq ?_
 refine CV.regionM [(0, .anywhere), (1, .anywhere), (2, .anywhere), (3, .held), (4, .anywhere), (5, .anywhere), (6, .anywhere), (7, .held), (8, .held), (9, .held), (10, .held), (11, .held)] rfl (fun c a a' w hd hq => PanicOk.root (P := Tryz.prog) (fn := Tryz.f86) (w0 := w0) (base := base) (E := envE) (ro := ro) (r := r) (T' := T') (n' := n') (ρ0 := ρ0) c a a' w hd hq) (by kernel_rfl) ?_
 refine MV.step0 (i := 0) rfl (VAL.move rfl) rfl rfl rfl ?_
 refine MV.lift0 (i := 1) rfl (V.nc h1 rfl) rfl rfl rfl fun x4_1 h2 => ?_
 refine MV.lift0 (i := 2) rfl (V.fa h2 rfl Cnf.fo185_0) rfl rfl rfl fun x5_2 h3 => ?_
 refine MV.lift1 (i := 3) rfl (fun _ z => z) (V.ld hS h3 rfl Cnf.one183) rfl rfl rfl [] (by kernel_rfl) fun x6_3 h4 => ?_
 refine MV.step0 (i := 4) rfl (VAL.move rfl) rfl rfl rfl ?_
 refine MV.lift0 (i := 5) rfl (V.nc h4 rfl) rfl rfl rfl fun x8_4 h5 => ?_
 refine MV.lift0 (i := 6) rfl (V.fa h5 rfl Cnf.fo185_1) rfl rfl rfl fun x9_5 h6 => ?_
 refine MV.lift1 (i := 7) rfl (fun _ z => z) (V.ld hS h6 rfl Cnf.one3) rfl rfl rfl [3] (by kernel_rfl) fun x10_6 h7 => ?_
 refine MV.lift1 (i := 8) rfl (fun _ z => z) (V.ia h7 rfl rfl Cnf.el183) rfl rfl rfl [] (by kernel_rfl) fun x11_7 h8 => ?_
 refine MV.lift1 (i := 9) rfl (fun _ z => z) (V.fa h8 rfl Cnf.fo233_0) rfl rfl rfl [] (by kernel_rfl) fun x12_8 h9 => ?_
 refine MV.lift1 (i := 10) rfl (fun _ z => z) (V.ld hS h9 rfl Cnf.one3) rfl rfl rfl [] (by kernel_rfl) fun x13_9 h10 => ?_
 refine MV.step1 (i := 11) rfl (fun _ z => z) (VAL.assign rfl) rfl rfl rfl [] (by kernel_rfl) ?_
 refine mdn ?_
 refine CV.ret ?_
 cases h10
 exact PV.ret (by simp) Tryz.results86 hS (RS.tmp rfl RS.nil) rfl
noncomputable def g87_k1 (ro : List HT) (y4 y5 y6 : AV) (T4 : HT) (n4 : Nat) : R :=
 faK 870021 y6 1 fun x32_12 =>
 ldK 870022 T4 ro x32_12 fun x33_13 =>
 faK 870023 y6 2 fun x34_14 =>
 ldK 870024 T4 ro x34_14 fun x35_15 =>
 .ok (.val (.tup [x33_13, x35_15])) T4 n4
noncomputable def g87 (ro : List HT) (a0 a1 : AV) (T : HT) (nx : Nat) : R :=
 callK (g86 ro a0 T nx) fun x8_1 T1 n1 =>
 neK Tryz.prog 3 (.tmp 8) (.tmp 9) 870006 x8_1 a1 fun x10_2 =>
 condK 870007 x10_2
 (
  .bad 870008
 )
 (
  ncK 870010 a0 fun x14_3 =>
  faK 870011 x14_3 0 fun x15_4 =>
  ldK 870012 T1 ro x15_4 fun x16_5 =>
  ncK 870014 a0 fun x18_6 =>
  faK 870015 x18_6 1 fun x19_7 =>
  ldK 870016 T1 ro x19_7 fun x20_8 =>
  iaK 870017 x16_5 x20_8 3 fun x21_9 =>
  ldAK 870018 T1 ro x21_9 3 fun x22_10 =>
  newK T1 n1 (.obj [.lit (.int .i64 0), .lit (.string ⟨#[]⟩), .lit (.int .i64 0)] 233) fun x6_11 T2 n2 =>
  stAK 870020 T2 x6_11 x22_10 3 fun T3 =>
  neK Tryz.prog 3 (.tmp 23) (.const (.int .i64 (.ofNat 8))) 870028 a1 (.lit (.int .i64 (.ofNat 8))) fun x24_16 =>
  condK 870029 x24_16
  (
   fldK 870031 T3 ro a0 1 fun x28_17 =>
   addK Tryz.prog 3 (.tmp 28) (.const (.int .i64 (.ofNat 1))) 870032 x28_17 (.lit (.int .i64 (.ofNat 1))) fun x29_18 =>
   faK 870033 a0 1 fun x31_19 =>
   stK 870034 T3 x31_19 x29_18 fun T5 =>
   g87_k1 ro (.lit (.string ⟨⟨[]⟩⟩)) (.lit (.int .i64 (.ofNat 0))) x6_11 T5 n2
  )
  (
   g87_k1 ro (.lit (.string ⟨⟨[]⟩⟩)) (.lit (.int .i64 (.ofNat 0))) x6_11 T3 n2
  )
 )
theorem g87_ok (ro : List HT) (a0 a1 : AV) (T : HT) (nx : Nat) : GOk Tryz.prog envE 87 [a0, a1] ro T nx (g87 ro a0 a1 T nx) := by
 refine GOk.of_body Tryz.func87 rfl Tryz.ntmps87 (by kernel_rfl) rfl fun r T' n' h1 w0 base ρ0 its hS hP => ?_
 have X : CtxW envE ρ0 ro r T' n' := trivial
 unfold g87 at h1
 refine sr ?_
 refine as_ ?_
 refine as_ ?_
 refine dn ?_
 refine CV.seq ?_
 refine sr ?_
 refine mv ?_
 refine LV.call hS h1 (g86_ok _ _ _ _ ) hP rfl rfl rfl rfl fun x8_1 T1 n1 h2 ρ its hS => ?_
 refine mv ?_
 refine vy (V.ne h2 rfl rfl) fun x10_2 h3 => ?_
 refine dn ?_
 refine CV.cond h3 rfl (fun e h4 => ?_) (fun e h4 => ?_)
 ·
  clear h1 h2 h3
  subst e
  cases h4
 ·
  clear h1 h2 h3
  subst e
  refine CV.skip ?_
  refine PV.thenN ?_
  refine CV.seq ?_
  refine CV.regionM [(0, .anywhere), (1, .anywhere), (2, .anywhere), (3, .held), (4, .anywhere), (5, .anywhere), (6, .anywhere), (7, .held), (8, .held), (9, .held), (10, .alone), (11, .alone)] rfl (fun c a a' w hd hq => PanicOk.root (P := Tryz.prog) (fn := Tryz.f87) (w0 := w0) (base := base) (E := envE) (ro := ro) (r := r) (T' := T') (n' := n') (ρ0 := ρ0) c a a' w hd hq) (by kernel_rfl) ?_
  refine MV.step0 (i := 0) rfl (VAL.move rfl) rfl rfl rfl ?_
  refine MV.lift0 (i := 1) rfl (V.nc h4 rfl) rfl rfl rfl fun x14_3 h5 => ?_
  refine MV.lift0 (i := 2) rfl (V.fa h5 rfl Cnf.fo185_0) rfl rfl rfl fun x15_4 h6 => ?_
  refine MV.lift1 (i := 3) rfl (fun _ z => z) (V.ld hS h6 rfl Cnf.one183) rfl rfl rfl [] (by kernel_rfl) fun x16_5 h7 => ?_
  refine MV.step0 (i := 4) rfl (VAL.move rfl) rfl rfl rfl ?_
  refine MV.lift0 (i := 5) rfl (V.nc h7 rfl) rfl rfl rfl fun x18_6 h8 => ?_
  refine MV.lift0 (i := 6) rfl (V.fa h8 rfl Cnf.fo185_1) rfl rfl rfl fun x19_7 h9 => ?_
  refine MV.lift1 (i := 7) rfl (fun _ z => z) (V.ld hS h9 rfl Cnf.one3) rfl rfl rfl [3] (by kernel_rfl) fun x20_8 h10 => ?_
  refine MV.lift1 (i := 8) rfl (fun _ z => z) (V.ia h10 rfl rfl Cnf.el183) rfl rfl rfl [] (by kernel_rfl) fun x21_9 h11 => ?_
  refine MV.lift1 (i := 9) rfl (fun _ z => z) (V.ldA hS h11 rfl Cnf.agg233) rfl rfl rfl [] (by kernel_rfl) fun x22_10 h12 => ?_
  refine MV.force (i := 10) rfl ?_
  refine LV.alloc hS h12 rfl Cnf.zr233 rfl rfl rfl fun x6_11 T2 n2 h13 ρ its hS hdr => ?_
  refine LV.nextM [9] (by kernel_rfl) (fun _ => hdr) ?_
  refine MV.force (i := 11) rfl ?_
  refine LV.stA hS h13 rfl rfl rfl Cnf.agg233 rfl rfl rfl fun T3 its h14 hS => ?_
  refine LV.nextM [] (by kernel_rfl) (fun z => absurd rfl z) ?_
  refine mdn ?_
  refine cs3 X 4 5 6 [] (g87_k1 ro) ?_ ?_
  ·
   refine sr ?_
   refine mv ?_
   refine vy (V.ne h14 rfl rfl) fun x24_16 h20 => ?_
   refine dn ?_
   refine CV.cond h20 rfl (fun e h21 => ?_) (fun e h21 => ?_)
   ·
    clear h4 h5 h6 h7 h8 h9 h10 h11 h12 h13 h14 h20
    subst e
    refine CV.region ?_
    refine mv ?_
    refine fl hS h21 Cnf.fo185_1 Cnf.one3 fun x28_17 h22 => ?_
    refine vy (V.add h22 rfl rfl) fun x29_18 h23 => ?_
    refine fa2 h23 Cnf.fo185_1 fun x31_19 h24 => ?_
    refine LV.st hS h24 rfl rfl rfl Cnf.siz3 rfl rfl fun T5 its h25 hS => ?_
    refine LV.done ?_
    exact pa3 hS h25 ⟨rfl, rfl, rfl, trivial⟩
   ·
    clear h4 h5 h6 h7 h8 h9 h10 h11 h12 h13 h14 h20
    subst e
    refine CV.skip ?_
    exact pa3 hS h21 ⟨rfl, rfl, rfl, trivial⟩
  ·
   intro y4 y5 y6 T4 n4 ρ its hS h15
   unfold g87_k1 at h15
   clear h4 h5 h6 h7 h8 h9 h10 h11 h12 h13 h14
   refine CV.seq ?_
   refine CV.regionM [(0, .anywhere), (1, .held), (2, .anywhere), (3, .held), (4, .held), (5, .held)] rfl (fun c a a' w hd hq => PanicOk.root (P := Tryz.prog) (fn := Tryz.f87) (w0 := w0) (base := base) (E := envE) (ro := ro) (r := r) (T' := T') (n' := n') (ρ0 := ρ0) c a a' w hd hq) (by kernel_rfl) ?_
   refine MV.lift0 (i := 0) rfl (V.fa h15 rfl Cnf.fo233_1) rfl rfl rfl fun x32_12 h16 => ?_
   refine MV.lift1 (i := 1) rfl (fun _ z => z) (V.ld hS h16 rfl Cnf.one9) rfl rfl rfl [] (by kernel_rfl) fun x33_13 h17 => ?_
   refine MV.lift0 (i := 2) rfl (V.fa h17 rfl Cnf.fo233_2) rfl rfl rfl fun x34_14 h18 => ?_
   refine MV.lift1 (i := 3) rfl (fun _ z => z) (V.ld hS h18 rfl Cnf.one3) rfl rfl rfl [1] (by kernel_rfl) fun x35_15 h19 => ?_
   refine MV.step1 (i := 4) rfl (fun _ z => z) (VAL.assign rfl) rfl rfl rfl [3] (by kernel_rfl) ?_
   refine MV.step1 (i := 5) rfl (fun _ z => z) (VAL.assign rfl) rfl rfl rfl [] (by kernel_rfl) ?_
   refine mdn ?_
   refine CV.ret ?_
   cases h19
   exact PV.ret (by simp) Tryz.results87 hS (RS.tmp rfl (RS.tmp rfl RS.nil)) rfl
noncomputable def g150_b1 (ro : List HT) (lp1 : AV → AV → AV → AV → AV → HT → Nat → R) (y0 y1 y4 y7 y8 : AV) (T1 : HT) (n1 : Nat) : R :=
 ltK Tryz.prog 3 (.tmp 8) (.tmp 7) 1500006 y8 y7 fun x9_2 =>
 condK 1500007 x9_2
 (
  iaK 1500013 y0 y8 1 fun x14_3 =>
  ldK 1500014 T1 ro x14_3 fun x15_4 =>
  eqSK Tryz.prog 9 (.tmp 11) (.tmp 15) 1500015 y1 x15_4 fun x16_5 =>
  condK 1500016 x16_5
  (
   .ok (.val y8) T1 n1
  )
  (
   addK Tryz.prog 3 (.tmp 8) (.const (.int .i64 (.ofNat 1))) 1500019 y8 (.lit (.int .i64 (.ofNat 1))) fun x18_6 =>
   lp1 y0 y1 y4 y7 x18_6 T1 n1
  )
 )
 (
  .ok (.val (.lit (.int .i64 (.negSucc 0)))) T1 n1
 )
noncomputable def g150 (ro : List HT) (a0 a1 : AV) (T : HT) (nx : Nat) : R :=
 lenSK 1500003 a0 fun x7_1 =>
 lpf5 1500005 (g150_b1 ro) 100000 a0 a1 (.lit (.int .i64 (.ofNat 0))) x7_1 (.lit (.int .i64 (.ofNat 0))) T nx
theorem g150_ok (ro : List HT) (a0 a1 : AV) (T : HT) (nx : Nat) : GOk Tryz.prog envE 150 [a0, a1] ro T nx (g150 ro a0 a1 T nx) := by
 refine GOk.of_body Tryz.func150 rfl Tryz.ntmps150 (by kernel_rfl) rfl fun r T' n' h1 w0 base ρ0 its hS hP => ?_
 have X : CtxW envE ρ0 ro r T' n' := trivial
 unfold g150 at h1
 refine sr ?_
 refine as_ ?_
 refine dn ?_
 refine CV.seq ?_
 refine sr ?_
 refine mv ?_
 refine vy (V.lenS h1 rfl Cnf.ls54) fun x7_1 h2 => ?_
 refine mv ?_
 refine dn ?_
 refine CV.block ?_
 refine cl5 X 0 1 4 7 8 [] hS h2 ⟨rfl, rfl, rfl, rfl, rfl, trivial⟩ ?_
 intro f1 y0 y1 y4 y7 y8 T1 n1 ρ its hS h3
 unfold g150_b1 at h3
 clear h1 h2
 refine sr ?_
 refine vy (V.lt h3 rfl rfl) fun x9_2 h4 => ?_
 refine dn ?_
 refine CV.seq ?_
 refine CV.cond h4 rfl (fun e h5 => ?_) (fun e h5 => ?_)
 ·
  clear h3 h4
  subst e
  refine CV.skip ?_
  refine PV.thenN ?_
  refine CV.seq ?_
  refine CV.block ?_
  refine sr ?_
  refine mv ?_
  refine as_ ?_
  refine dn ?_
  refine sr ?_
  refine mv ?_
  refine mv ?_
  refine mv ?_
  refine vy (V.ia h5 rfl rfl Cnf.el54) fun x14_3 h6 => ?_
  refine vy (V.ld hS h6 rfl Cnf.one9) fun x15_4 h7 => ?_
  refine vy (V.eqS h7 rfl rfl) fun x16_5 h8 => ?_
  refine dn ?_
  refine CV.cond h8 rfl (fun e h9 => ?_) (fun e h9 => ?_)
  ·
   clear h5 h6 h7 h8
   subst e
   refine sr ?_
   refine mv ?_
   refine as_ ?_
   refine dn ?_
   refine CV.ret ?_
   refine PV.blockR ?_
   refine PV.thenR ?_
   refine PV.thenR ?_
   refine PV.blockR ?_
   refine PV.thenR ?_
   cases h9
   exact PV.ret (by simp) Tryz.results150 hS (RS.tmp rfl RS.nil) rfl
  ·
   clear h5 h6 h7 h8
   subst e
   refine CV.skip ?_
   refine PV.blockN ?_
   refine PV.thenN ?_
   refine CV.region ?_
   refine vy (V.add h9 rfl rfl) fun x18_6 h10 => ?_
   refine mv ?_
   refine LV.done ?_
   exact pb5 hS h10 ⟨rfl, rfl, rfl, rfl, rfl, trivial⟩
 ·
  clear h3 h4
  subst e
  refine CV.exit ?_
  refine PV.thenE ?_
  refine PV.thenE ?_
  refine PV.blockE ?_
  refine PV.thenN ?_
  refine sr ?_
  refine as_ ?_
  refine dn ?_
  refine CV.ret ?_
  cases h5
  exact PV.ret (by simp) Tryz.results150 hS (RS.tmp rfl RS.nil) rfl
noncomputable def g142 (ro : List HT) (a0 a1 : AV) (T : HT) (nx : Nat) : R :=
 callK (g150 ro a0 a1 T nx) fun x7_1 T1 n1 =>
 geK Tryz.prog 3 (.tmp 7) (.const (.int .i64 (.ofNat 0))) 1420005 x7_1 (.lit (.int .i64 (.ofNat 0))) fun x8_2 =>
 .ok (.val x8_2) T1 n1
theorem g142_ok (ro : List HT) (a0 a1 : AV) (T : HT) (nx : Nat) : GOk Tryz.prog envE 142 [a0, a1] ro T nx (g142 ro a0 a1 T nx) := by
 refine GOk.of_body Tryz.func142 rfl Tryz.ntmps142 (by kernel_rfl) rfl fun r T' n' h1 w0 base ρ0 its hS hP => ?_
 have X : CtxW envE ρ0 ro r T' n' := trivial
 unfold g142 at h1
 refine sr ?_
 refine as_ ?_
 refine dn ?_
 refine sr ?_
 refine mv ?_
 refine mv ?_
 refine LV.call hS h1 (g150_ok _ _ _ _ _ ) hP rfl rfl rfl rfl fun x7_1 T1 n1 h2 ρ its hS => ?_
 refine vy (V.ge h2 rfl rfl) fun x8_2 h3 => ?_
 refine as_ ?_
 refine dn ?_
 refine CV.ret ?_
 cases h3
 exact PV.ret (by simp) Tryz.results142 hS (RS.tmp rfl RS.nil) rfl
noncomputable def g134 (ro : List HT) (a0 a1 : AV) (T : HT) (nx : Nat) : R :=
 callQ 1340003 (g86 (T :: ro) a0 .nil nx) fun x6_1 =>
 eqK Tryz.prog 3 (.tmp 6) (.const (.int .i64 (.ofNat 4))) 1340004 x6_1 (.lit (.int .i64 (.ofNat 4))) fun x7_2 =>
 condK 1340006 x7_2
 (
  ncK 1340009 a0 fun x11_3 =>
  faK 1340010 x11_3 0 fun x12_4 =>
  ldK 1340011 T ro x12_4 fun x13_5 =>
  ncK 1340013 a0 fun x15_6 =>
  faK 1340014 x15_6 1 fun x16_7 =>
  ldK 1340015 T ro x16_7 fun x17_8 =>
  iaK 1340016 x13_5 x17_8 3 fun x18_9 =>
  faK 1340017 x18_9 1 fun x19_10 =>
  ldK 1340018 T ro x19_10 fun x20_11 =>
  callQ 1340019 (g142 (T :: ro) a1 x20_11 .nil nx) fun x21_12 =>
  .ok (.val x21_12) T nx
 )
 (
  .ok (.val (.lit (.bool false))) T nx
 )
theorem g134_ok (ro : List HT) (a0 a1 : AV) (T : HT) (nx : Nat) : GOk Tryz.prog envE 134 [a0, a1] ro T nx (g134 ro a0 a1 T nx) := by
 refine GOk.of_body Tryz.func134 rfl Tryz.ntmps134 (by kernel_rfl) rfl fun r T' n' h1 w0 base ρ0 its hS hP => ?_
 have X : CtxW envE ρ0 ro r T' n' := trivial
 unfold g134 at h1
 refine sr ?_
 refine as_ ?_
 refine dn ?_
 refine CV.seq ?_
 refine CV.regionM [(0, .anywhere), (1, .alone), (2, .anywhere), (3, .anywhere), (4, .anywhere), (5, .anywhere), (6, .anywhere), (7, .anywhere), (8, .held), (9, .anywhere), (10, .anywhere), (11, .anywhere), (12, .held), (13, .held), (14, .held), (15, .held), (16, .alone), (17, .anywhere), (18, .anywhere)] rfl (fun c a a' w hd hq => PanicOk.root (P := Tryz.prog) (fn := Tryz.f134) (w0 := w0) (base := base) (E := envE) (ro := ro) (r := r) (T' := T') (n' := n') (ρ0 := ρ0) c a a' w hd hq) (by kernel_rfl) ?_
 refine MV.step0 (i := 0) rfl (VAL.move rfl) rfl rfl rfl ?_
 refine MV.force (i := 1) rfl ?_
 refine LV.callQ hS h1 (g86_ok _ _ _ _ ) rfl rfl rfl rfl fun x6_1 h2 => ?_
 refine LV.nextM [] (by kernel_rfl) (fun z => absurd rfl z) ?_
 refine MV.lift0 (i := 2) rfl (V.eq h2 rfl rfl) rfl rfl rfl fun x7_2 h3 => ?_
 refine MV.step0 (i := 3) rfl (VAL.move rfl) rfl rfl rfl ?_
 rcases condK_inv h3 with ⟨e, h4⟩ | ⟨e, h4⟩
 ·
  clear h1 h2 h3
  subst e
  refine MV.step0 (i := 4) rfl (VAL.move rfl) rfl rfl rfl ?_
  refine MV.step0 (i := 5) rfl (VAL.move rfl) rfl rfl rfl ?_
  refine MV.lift0 (i := 6) rfl (V.nc h4 rfl) rfl rfl rfl fun x11_3 h5 => ?_
  refine MV.lift0 (i := 7) rfl (V.fa h5 rfl Cnf.fo185_0) rfl rfl rfl fun x12_4 h6 => ?_
  refine MV.lift1 (i := 8) rfl (fun _ z => z) (V.ld hS h6 rfl Cnf.one183) rfl rfl rfl [] (by kernel_rfl) fun x13_5 h7 => ?_
  refine MV.step0 (i := 9) rfl (VAL.move rfl) rfl rfl rfl ?_
  refine MV.lift0 (i := 10) rfl (V.nc h7 rfl) rfl rfl rfl fun x15_6 h8 => ?_
  refine MV.lift0 (i := 11) rfl (V.fa h8 rfl Cnf.fo185_1) rfl rfl rfl fun x16_7 h9 => ?_
  refine MV.lift1 (i := 12) rfl (fun _ z => z) (V.ld hS h9 rfl Cnf.one3) rfl rfl rfl [8] (by kernel_rfl) fun x17_8 h10 => ?_
  refine MV.lift1 (i := 13) rfl (fun _ z => z) (V.ia h10 rfl rfl Cnf.el183) rfl rfl rfl [] (by kernel_rfl) fun x18_9 h11 => ?_
  refine MV.lift1 (i := 14) rfl (fun _ z => z) (V.fa h11 rfl Cnf.fo233_1) rfl rfl rfl [] (by kernel_rfl) fun x19_10 h12 => ?_
  refine MV.lift1 (i := 15) rfl (fun _ z => z) (V.ld hS h12 rfl Cnf.one9) rfl rfl rfl [] (by kernel_rfl) fun x20_11 h13 => ?_
  refine MV.force (i := 16) rfl ?_
  refine LV.callQ hS h13 (g142_ok _ _ _ _ _ ) rfl rfl rfl rfl fun x21_12 h14 => ?_
  refine LV.nextM [] (by kernel_rfl) (fun z => absurd rfl z) ?_
  refine MV.step0 (i := 17) rfl (VAL.pure rfl) rfl rfl rfl ?_
  refine MV.step0 (i := 18) rfl (VAL.assign rfl) rfl rfl rfl ?_
  refine mdn ?_
  refine CV.ret ?_
  cases h14
  exact PV.ret (by simp) Tryz.results134 hS (RS.tmp rfl RS.nil) rfl
 ·
  clear h1 h2 h3
  subst e
  refine MV.skip0 (i := 4) rfl rfl rfl rfl ?_
  refine MV.skip0 (i := 5) rfl rfl rfl rfl ?_
  refine MV.skip0 (i := 6) rfl rfl rfl rfl ?_
  refine MV.skip0 (i := 7) rfl rfl rfl rfl ?_
  refine MV.skip1 (i := 8) rfl (fun _ z => z) rfl rfl rfl [] (by kernel_rfl) ?_
  refine MV.skip0 (i := 9) rfl rfl rfl rfl ?_
  refine MV.skip0 (i := 10) rfl rfl rfl rfl ?_
  refine MV.skip0 (i := 11) rfl rfl rfl rfl ?_
  refine MV.skip1 (i := 12) rfl (fun _ z => z) rfl rfl rfl [8] (by kernel_rfl) ?_
  refine MV.skip1 (i := 13) rfl (fun _ z => z) rfl rfl rfl [] (by kernel_rfl) ?_
  refine MV.skip1 (i := 14) rfl (fun _ z => z) rfl rfl rfl [] (by kernel_rfl) ?_
  refine MV.skip1 (i := 15) rfl (fun _ z => z) rfl rfl rfl [] (by kernel_rfl) ?_
  refine MV.force (i := 16) rfl ?_
  refine sk ?_
  refine LV.nextM [] (by kernel_rfl) (fun z => absurd rfl z) ?_
  refine MV.step0 (i := 17) rfl (VAL.pure rfl) rfl rfl rfl ?_
  refine MV.step0 (i := 18) rfl (VAL.assign rfl) rfl rfl rfl ?_
  refine mdn ?_
  refine CV.ret ?_
  cases h4
  exact PV.ret (by simp) Tryz.results134 hS (RS.tmp rfl RS.nil) rfl
noncomputable def g103 (ro : List HT) (a0 a1 a2 a3 a4 : AV) (T : HT) (nx : Nat) : R :=
 fldK 1030004 T ro a0 2 fun x15_1 =>
 optK 1030009 (bld172 [(0, a1), (2, a2), (3, a3), (4, a4)]) fun x20_2 =>
 bsK 1030010 T nx 1 172 5 [(0, x20_2)] fun x21_3 T1 n1 =>
 shrK 1030012 T1 x15_1 fun T2 =>
 appEK 1030011 T2 ro n1 172 5 64 x15_1 x21_3 fun x22_4 T3 n3 =>
 faK 1030013 a0 2 fun x24_5 =>
 stK 1030014 T3 x24_5 x22_4 fun T4 =>
 fldK 1030016 T4 ro a0 2 fun x28_6 =>
 lenSK 1030017 x28_6 fun x29_7 =>
 subK Tryz.prog 3 (.tmp 29) (.const (.int .i64 (.ofNat 1))) 1030018 x29_7 (.lit (.int .i64 (.ofNat 1))) fun x30_8 =>
 .ok (.val x30_8) T4 n3
theorem g103_ok (ro : List HT) (a0 a1 a2 a3 a4 : AV) (T : HT) (nx : Nat) : GOk Tryz.prog envE 103 [a0, a1, a2, a3, a4] ro T nx (g103 ro a0 a1 a2 a3 a4 T nx) := by
 refine GOk.of_body Tryz.func103 rfl Tryz.ntmps103 (by kernel_rfl) rfl fun r T' n' h1 w0 base ρ0 its hS hP => ?_
 have X : CtxW envE ρ0 ro r T' n' := trivial
 unfold g103 at h1
 refine sr ?_
 refine as_ ?_
 refine dn ?_
 refine sr ?_
 refine mv ?_
 refine mv ?_
 refine fl hS h1 Cnf.fo185_2 Cnf.one109 fun x15_1 h2 => ?_
 refine mv ?_
 refine mv ?_
 refine mv ?_
 refine mv ?_
 refine vy (V.bld h2 rfl) fun x20_2 h3 => ?_
 refine LV.bslice hS h3 rfl rfl Cnf.el109 rfl rfl rfl rfl fun x21_3 T1 n1 h4 ρ its hS hdr => ?_
 obtain ⟨T2, its1, h5, hS, hW⟩ := shrK_inv hS h4
 refine LV.world hW ?_
 refine LV.appE hS h5 rfl rfl rfl rfl Cnf.el109 rfl rfl rfl fun x22_4 T3 n3 h6 ρ its hS => ?_
 refine fa2 h6 Cnf.fo185_2 fun x24_5 h7 => ?_
 refine LV.st hS h7 rfl rfl rfl Cnf.siz109 rfl rfl fun T4 its h8 hS => ?_
 refine dn ?_
 refine sr ?_
 refine mv ?_
 refine fl hS h8 Cnf.fo185_2 Cnf.one109 fun x28_6 h9 => ?_
 refine vy (V.lenS h9 rfl Cnf.ls109) fun x29_7 h10 => ?_
 refine vy (V.sub h10 rfl rfl) fun x30_8 h11 => ?_
 refine as_ ?_
 refine dn ?_
 refine CV.ret ?_
 cases h11
 exact PV.ret (by simp) Tryz.results103 hS (RS.tmp rfl RS.nil) rfl
noncomputable def g152 (ro : List HT) (a0 : AV) (T : HT) (nx : Nat) : R :=
 ncK 1520003 a0 fun x4_1 =>
 faK 1520004 x4_1 0 fun x5_2 =>
 ldK 1520005 T ro x5_2 fun x6_3 =>
 ncK 1520007 a0 fun x8_4 =>
 faK 1520008 x8_4 1 fun x9_5 =>
 ldK 1520009 T ro x9_5 fun x10_6 =>
 iaK 1520010 x6_3 x10_6 3 fun x11_7 =>
 faK 1520011 x11_7 2 fun x12_8 =>
 ldK 1520012 T ro x12_8 fun x13_9 =>
 .ok (.val x13_9) T nx
theorem g152_ok (ro : List HT) (a0 : AV) (T : HT) (nx : Nat) : GOk Tryz.prog envE 152 [a0] ro T nx (g152 ro a0 T nx) := by
 refine GOk.of_body Tryz.func152 rfl Tryz.ntmps152 (by kernel_rfl) rfl fun r T' n' h1 w0 base ρ0 its hS hP => ?_
 have X : CtxW envE ρ0 ro r T' n' := trivial
 unfold g152 at h1
 refine sr ?_
 refine as_ ?_
 refine dn ?_
 refine CV.seq ?_
 refine CV.regionM [(0, .anywhere), (1, .anywhere), (2, .anywhere), (3, .held), (4, .anywhere), (5, .anywhere), (6, .anywhere), (7, .held), (8, .held), (9, .held), (10, .held), (11, .held)] rfl (fun c a a' w hd hq => PanicOk.root (P := Tryz.prog) (fn := Tryz.f152) (w0 := w0) (base := base) (E := envE) (ro := ro) (r := r) (T' := T') (n' := n') (ρ0 := ρ0) c a a' w hd hq) (by kernel_rfl) ?_
 refine MV.step0 (i := 0) rfl (VAL.move rfl) rfl rfl rfl ?_
 refine MV.lift0 (i := 1) rfl (V.nc h1 rfl) rfl rfl rfl fun x4_1 h2 => ?_
 refine MV.lift0 (i := 2) rfl (V.fa h2 rfl Cnf.fo185_0) rfl rfl rfl fun x5_2 h3 => ?_
 refine MV.lift1 (i := 3) rfl (fun _ z => z) (V.ld hS h3 rfl Cnf.one183) rfl rfl rfl [] (by kernel_rfl) fun x6_3 h4 => ?_
 refine MV.step0 (i := 4) rfl (VAL.move rfl) rfl rfl rfl ?_
 refine MV.lift0 (i := 5) rfl (V.nc h4 rfl) rfl rfl rfl fun x8_4 h5 => ?_
 refine MV.lift0 (i := 6) rfl (V.fa h5 rfl Cnf.fo185_1) rfl rfl rfl fun x9_5 h6 => ?_
 refine MV.lift1 (i := 7) rfl (fun _ z => z) (V.ld hS h6 rfl Cnf.one3) rfl rfl rfl [3] (by kernel_rfl) fun x10_6 h7 => ?_
 refine MV.lift1 (i := 8) rfl (fun _ z => z) (V.ia h7 rfl rfl Cnf.el183) rfl rfl rfl [] (by kernel_rfl) fun x11_7 h8 => ?_
 refine MV.lift1 (i := 9) rfl (fun _ z => z) (V.fa h8 rfl Cnf.fo233_2) rfl rfl rfl [] (by kernel_rfl) fun x12_8 h9 => ?_
 refine MV.lift1 (i := 10) rfl (fun _ z => z) (V.ld hS h9 rfl Cnf.one3) rfl rfl rfl [] (by kernel_rfl) fun x13_9 h10 => ?_
 refine MV.step1 (i := 11) rfl (fun _ z => z) (VAL.assign rfl) rfl rfl rfl [] (by kernel_rfl) ?_
 refine mdn ?_
 refine CV.ret ?_
 cases h10
 exact PV.ret (by simp) Tryz.results152 hS (RS.tmp rfl RS.nil) rfl
noncomputable def g179 (ro : List HT) (a0 a1 : AV) (T : HT) (nx : Nat) : R :=
 fldK 1790002 T ro a0 3 fun x7_1 =>
 geK Tryz.prog 3 (.tmp 7) (.const (.int .i64 (.ofNat 60))) 1790003 x7_1 (.lit (.int .i64 (.ofNat 60))) fun x8_2 =>
 condK 1790004 x8_2
 (
  .bad 1790005
 )
 (
  fldK 1790007 T ro a0 3 fun x15_3 =>
  addK Tryz.prog 3 (.tmp 15) (.const (.int .i64 (.ofNat 1))) 1790008 x15_3 (.lit (.int .i64 (.ofNat 1))) fun x16_4 =>
  faK 1790009 a0 3 fun x18_5 =>
  stK 1790010 T x18_5 x16_4 fun T1 =>
  .ok (.val (.tup [])) T1 nx
 )
theorem g179_ok (ro : List HT) (a0 a1 : AV) (T : HT) (nx : Nat) : GOk Tryz.prog envE 179 [a0, a1] ro T nx (g179 ro a0 a1 T nx) := by
 refine GOk.of_body Tryz.func179 rfl Tryz.ntmps179 (by kernel_rfl) rfl fun r T' n' h1 w0 base ρ0 its hS hP => ?_
 have X : CtxW envE ρ0 ro r T' n' := trivial
 unfold g179 at h1
 refine CV.seq ?_
 refine sr ?_
 refine mv ?_
 refine fl hS h1 Cnf.fo185_3 Cnf.one3 fun x7_1 h2 => ?_
 refine vy (V.ge h2 rfl rfl) fun x8_2 h3 => ?_
 refine dn ?_
 refine CV.cond h3 rfl (fun e h4 => ?_) (fun e h4 => ?_)
 ·
  clear h1 h2 h3
  subst e
  cases h4
 ·
  clear h1 h2 h3
  subst e
  refine CV.skip ?_
  refine PV.thenN ?_
  refine CV.region ?_
  refine mv ?_
  refine fl hS h4 Cnf.fo185_3 Cnf.one3 fun x15_3 h5 => ?_
  refine vy (V.add h5 rfl rfl) fun x16_4 h6 => ?_
  refine fa2 h6 Cnf.fo185_3 fun x18_5 h7 => ?_
  refine LV.st hS h7 rfl rfl rfl Cnf.siz3 rfl rfl fun T1 its h8 hS => ?_
  refine LV.done ?_
  cases h8
  exact PV.ret (by simp) Tryz.results179 hS RS.nil rfl
noncomputable def g154 (ro : List HT) (a0 a1 : AV) (T : HT) (nx : Nat) : R :=
 bsK 1540004 T nx 1 9 1 [(0, a1)] fun x7_1 T1 n1 =>
 callK (g134 ro a0 x7_1 T1 n1) fun x8_2 T2 n2 =>
 notK 1540006 x8_2 fun x9_3 =>
 condK 1540007 x9_3
 (
  .ok (.val (.lit (.bool false))) T2 n2
 )
 (
  fldK 1540010 T2 ro a0 1 fun x13_4 =>
  addK Tryz.prog 3 (.tmp 13) (.const (.int .i64 (.ofNat 1))) 1540011 x13_4 (.lit (.int .i64 (.ofNat 1))) fun x14_5 =>
  faK 1540012 a0 1 fun x16_6 =>
  stK 1540013 T2 x16_6 x14_5 fun T3 =>
  .ok (.val (.lit (.bool true))) T3 n2
 )
theorem g154_ok (ro : List HT) (a0 a1 : AV) (T : HT) (nx : Nat) : GOk Tryz.prog envE 154 [a0, a1] ro T nx (g154 ro a0 a1 T nx) := by
 refine GOk.of_body Tryz.func154 rfl Tryz.ntmps154 (by kernel_rfl) rfl fun r T' n' h1 w0 base ρ0 its hS hP => ?_
 have X : CtxW envE ρ0 ro r T' n' := trivial
 unfold g154 at h1
 refine sr ?_
 refine as_ ?_
 refine dn ?_
 refine CV.seq ?_
 refine sr ?_
 refine mv ?_
 refine mv ?_
 refine LV.bslice hS h1 rfl rfl Cnf.el54 rfl rfl rfl rfl fun x7_1 T1 n1 h2 ρ its hS hdr => ?_
 refine LV.call hS h2 (g134_ok _ _ _ _ _ ) hP rfl rfl rfl rfl fun x8_2 T2 n2 h3 ρ its hS => ?_
 refine vy (V.not h3 rfl) fun x9_3 h4 => ?_
 refine dn ?_
 refine CV.cond h4 rfl (fun e h5 => ?_) (fun e h5 => ?_)
 ·
  clear h1 h2 h3 h4
  subst e
  refine sr ?_
  refine as_ ?_
  refine dn ?_
  refine CV.ret ?_
  refine PV.thenR ?_
  cases h5
  exact PV.ret (by simp) Tryz.results154 hS (RS.tmp rfl RS.nil) rfl
 ·
  clear h1 h2 h3 h4
  subst e
  refine CV.skip ?_
  refine PV.thenN ?_
  refine sr ?_
  refine mv ?_
  refine fl hS h5 Cnf.fo185_1 Cnf.one3 fun x13_4 h6 => ?_
  refine vy (V.add h6 rfl rfl) fun x14_5 h7 => ?_
  refine fa2 h7 Cnf.fo185_1 fun x16_6 h8 => ?_
  refine LV.st hS h8 rfl rfl rfl Cnf.siz3 rfl rfl fun T3 its h9 hS => ?_
  refine dn ?_
  refine sr ?_
  refine as_ ?_
  refine dn ?_
  refine CV.ret ?_
  cases h9
  exact PV.ret (by simp) Tryz.results154 hS (RS.tmp rfl RS.nil) rfl
noncomputable def g180 (ro : List HT) (a0 a1 : AV) (T : HT) (nx : Nat) : R :=
 callK (g152 ro a0 T nx) fun x7_1 T1 n1 =>
 callK (g154 ro a0 a1 T1 n1) fun x10_2 T2 n2 =>
 notK 1800008 x10_2 fun x11_3 =>
 condK 1800009 x11_3
 (
  .bad 1800010
 )
 (
  .ok (.val x7_1) T2 n2
 )
theorem g180_ok (ro : List HT) (a0 a1 : AV) (T : HT) (nx : Nat) : GOk Tryz.prog envE 180 [a0, a1] ro T nx (g180 ro a0 a1 T nx) := by
 refine GOk.of_body Tryz.func180 rfl Tryz.ntmps180 (by kernel_rfl) rfl fun r T' n' h1 w0 base ρ0 its hS hP => ?_
 have X : CtxW envE ρ0 ro r T' n' := trivial
 unfold g180 at h1
 refine sr ?_
 refine as_ ?_
 refine dn ?_
 refine sr ?_
 refine mv ?_
 refine LV.call hS h1 (g152_ok _ _ _ _ ) hP rfl rfl rfl rfl fun x7_1 T1 n1 h2 ρ its hS => ?_
 refine as_ ?_
 refine dn ?_
 refine CV.seq ?_
 refine sr ?_
 refine mv ?_
 refine mv ?_
 refine LV.call hS h2 (g154_ok _ _ _ _ _ ) hP rfl rfl rfl rfl fun x10_2 T2 n2 h3 ρ its hS => ?_
 refine vy (V.not h3 rfl) fun x11_3 h4 => ?_
 refine dn ?_
 refine CV.cond h4 rfl (fun e h5 => ?_) (fun e h5 => ?_)
 ·
  clear h1 h2 h3 h4
  subst e
  cases h5
 ·
  clear h1 h2 h3 h4
  subst e
  refine CV.skip ?_
  refine PV.thenN ?_
  refine sr ?_
  refine mv ?_
  refine as_ ?_
  refine dn ?_
  refine CV.ret ?_
  cases h5
  exact PV.ret (by simp) Tryz.results180 hS (RS.tmp rfl RS.nil) rfl
noncomputable def g279 (ro : List HT) (T : HT) (nx : Nat) : R :=
 bsK 2790003 T nx 14 9 1 [(0, (.lit (.string ⟨⟨[111, 114]⟩⟩))), (1, (.lit (.string ⟨⟨[97, 110, 100]⟩⟩))), (2, (.lit (.string ⟨⟨[61, 61]⟩⟩))), (3, (.lit (.string ⟨⟨[33, 61]⟩⟩))), (4, (.lit (.string ⟨⟨[60]⟩⟩))), (5, (.lit (.string ⟨⟨[60, 61]⟩⟩))), (6, (.lit (.string ⟨⟨[62]⟩⟩))), (7, (.lit (.string ⟨⟨[62, 61]⟩⟩))), (8, (.lit (.string ⟨⟨[105, 110]⟩⟩))), (9, (.lit (.string ⟨⟨[43]⟩⟩))), (10, (.lit (.string ⟨⟨[45]⟩⟩))), (11, (.lit (.string ⟨⟨[42]⟩⟩))), (12, (.lit (.string ⟨⟨[47, 47]⟩⟩))), (13, (.lit (.string ⟨⟨[37]⟩⟩)))] fun x2_1 T1 n1 =>
 bsK 2790004 T1 n1 14 3 1 [(0, (.lit (.int .i64 (.ofNat 19)))), (1, (.lit (.int .i64 (.ofNat 18)))), (2, (.lit (.int .i64 (.ofNat 26)))), (3, (.lit (.int .i64 (.ofNat 27)))), (4, (.lit (.int .i64 (.ofNat 28)))), (5, (.lit (.int .i64 (.ofNat 29)))), (6, (.lit (.int .i64 (.ofNat 30)))), (7, (.lit (.int .i64 (.ofNat 31)))), (8, (.lit (.int .i64 (.ofNat 32)))), (9, (.lit (.int .i64 (.ofNat 21)))), (10, (.lit (.int .i64 (.ofNat 22)))), (11, (.lit (.int .i64 (.ofNat 23)))), (12, (.lit (.int .i64 (.ofNat 24)))), (13, (.lit (.int .i64 (.ofNat 25))))] fun x3_2 T2 n2 =>
 .ok (.val (.tup [x2_1, x3_2])) T2 n2
theorem g279_ok (ro : List HT) (T : HT) (nx : Nat) : GOk Tryz.prog envE 279 [] ro T nx (g279 ro T nx) := by
 refine GOk.of_body Tryz.func279 rfl Tryz.ntmps279 (by kernel_rfl) rfl fun r T' n' h1 w0 base ρ0 its hS hP => ?_
 have X : CtxW envE ρ0 ro r T' n' := trivial
 unfold g279 at h1
 refine sr ?_
 refine as_ ?_
 refine as_ ?_
 refine dn ?_
 refine sr ?_
 refine LV.bslice hS h1 rfl rfl Cnf.el54 rfl rfl rfl rfl fun x2_1 T1 n1 h2 ρ its hS hdr => ?_
 refine LV.bslice hS h2 rfl rfl Cnf.el170 rfl rfl rfl rfl fun x3_2 T2 n2 h3 ρ its hS hdr => ?_
 refine as_ ?_
 refine as_ ?_
 refine dn ?_
 refine CV.ret ?_
 cases h3
 exact PV.ret (by simp) Tryz.results279 hS (RS.tmp rfl (RS.tmp rfl RS.nil)) rfl
noncomputable def g274 (ro : List HT) (a0 : AV) (T : HT) (nx : Nat) : R :=
 callK (g279 ro T nx) fun x6_1 T1 n1 =>
 exK 2740004 x6_1 0 fun x7_2 =>
 exK 2740005 x6_1 1 fun x8_3 =>
 callK (g150 ro x7_2 a0 T1 n1) fun x12_4 T2 n2 =>
 iaK 2740012 x8_3 x12_4 1 fun x13_5 =>
 ldK 2740013 T2 ro x13_5 fun x14_6 =>
 .ok (.val x14_6) T2 n2
theorem g274_ok (ro : List HT) (a0 : AV) (T : HT) (nx : Nat) : GOk Tryz.prog envE 274 [a0] ro T nx (g274 ro a0 T nx) := by
 refine GOk.of_body Tryz.func274 rfl Tryz.ntmps274 (by kernel_rfl) rfl fun r T' n' h1 w0 base ρ0 its hS hP => ?_
 have X : CtxW envE ρ0 ro r T' n' := trivial
 unfold g274 at h1
 refine sr ?_
 refine as_ ?_
 refine dn ?_
 refine sr ?_
 refine LV.call hS h1 (g279_ok _ _ _ ) hP rfl rfl rfl rfl fun x6_1 T1 n1 h2 ρ its hS => ?_
 refine mv ?_
 refine vy (V.ex h2 rfl) fun x7_2 h3 => ?_
 refine vy (V.ex h3 rfl) fun x8_3 h4 => ?_
 refine as_ ?_
 refine as_ ?_
 refine dn ?_
 refine sr ?_
 refine mv ?_
 refine mv ?_
 refine mv ?_
 refine LV.call hS h4 (g150_ok _ _ _ _ _ ) hP rfl rfl rfl rfl fun x12_4 T2 n2 h5 ρ its hS => ?_
 refine vy (V.ia h5 rfl rfl Cnf.el170) fun x13_5 h6 => ?_
 refine vy (V.ld hS h6 rfl Cnf.one3) fun x14_6 h7 => ?_
 refine as_ ?_
 refine dn ?_
 refine CV.ret ?_
 cases h7
 exact PV.ret (by simp) Tryz.results274 hS (RS.tmp rfl RS.nil) rfl
noncomputable def g155_k2 (ro : List HT) (y15 : AV) (T3 : HT) (n3 : Nat) : R :=
 .ok (.val y15) T3 n3
noncomputable def g155_k1 (ro : List HT) (y0 y10 : AV) (T2 : HT) (n2 : Nat) : R :=
 condK 1550008 y10
 (
  g155_k2 ro (.lit (.bool true)) T2 n2
 )
 (
  bsK 1550011 T2 n2 6 9 1 [(0, (.lit (.string ⟨⟨[41]⟩⟩))), (1, (.lit (.string ⟨⟨[93]⟩⟩))), (2, (.lit (.string ⟨⟨[125]⟩⟩))), (3, (.lit (.string ⟨⟨[61]⟩⟩))), (4, (.lit (.string ⟨⟨[43, 61]⟩⟩))), (5, (.lit (.string ⟨⟨[58]⟩⟩)))] fun x13_3 T4 n4 =>
  callK (g134 ro y0 x13_3 T4 n4) fun x14_4 T5 n5 =>
  g155_k2 ro x14_4 T5 n5
 )
noncomputable def g155 (ro : List HT) (a0 : AV) (T : HT) (nx : Nat) : R :=
 callK (g86 ro a0 T nx) fun x4_1 T1 n1 =>
 eqK Tryz.prog 3 (.tmp 4) (.const (.int .i64 (.ofNat 5))) 1550004 x4_1 (.lit (.int .i64 (.ofNat 5))) fun x5_2 =>
 condK 1550014 x5_2
 (
  g155_k1 ro a0 (.lit (.bool true)) T1 n1
 )
 (
  callK (g86 ro a0 T1 n1) fun x8_5 T6 n6 =>
  eqK Tryz.prog 3 (.tmp 8) (.const (.int .i64 (.ofNat 8))) 1550018 x8_5 (.lit (.int .i64 (.ofNat 8))) fun x9_6 =>
  g155_k1 ro a0 x9_6 T6 n6
 )
theorem g155_ok (ro : List HT) (a0 : AV) (T : HT) (nx : Nat) : GOk Tryz.prog envE 155 [a0] ro T nx (g155 ro a0 T nx) := by
 refine GOk.of_body Tryz.func155 rfl Tryz.ntmps155 (by kernel_rfl) rfl fun r T' n' h1 w0 base ρ0 its hS hP => ?_
 have X : CtxW envE ρ0 ro r T' n' := trivial
 unfold g155 at h1
 refine sr ?_
 refine as_ ?_
 refine dn ?_
 refine sr ?_
 refine mv ?_
 refine LV.call hS h1 (g86_ok _ _ _ _ ) hP rfl rfl rfl rfl fun x4_1 T1 n1 h2 ρ its hS => ?_
 refine vy (V.eq h2 rfl rfl) fun x5_2 h3 => ?_
 refine mv ?_
 refine ls2 X 0 10 [(2, (.lit (.bool false)))] (g155_k1 ro) 4 ?_ ?_
 ·
  rcases condK_inv h3 with ⟨e, h9⟩ | ⟨e, h9⟩
  ·
   clear h1 h2 h3
   subst e
   refine sk ?_
   refine sk ?_
   refine sk ?_
   refine pu ?_
   exact la2 hS h9 ⟨rfl, rfl, rfl, trivial⟩
  ·
   clear h1 h2 h3
   subst e
   refine mv ?_
   refine LV.call hS h9 (g86_ok _ _ _ _ ) hP rfl rfl rfl rfl fun x8_5 T6 n6 h10 ρ its hS => ?_
   refine vy (V.eq h10 rfl rfl) fun x9_6 h11 => ?_
   refine pu ?_
   exact la2 hS h11 ⟨rfl, rfl, rfl, trivial⟩
 ·
  intro y0 y10 T2 n2 ρ its hS h4
  unfold g155_k1 at h4
  clear h1 h2 h3
  refine mv ?_
  refine ls1 X 15 [(2, (.lit (.bool false)))] (g155_k2 ro) 4 ?_ ?_
  ·
   rcases condK_inv h4 with ⟨e, h6⟩ | ⟨e, h6⟩
   ·
    clear h4
    subst e
    refine sk ?_
    refine sk ?_
    refine sk ?_
    refine pu ?_
    exact la1 hS h6 ⟨rfl, rfl, trivial⟩
   ·
    clear h4
    subst e
    refine mv ?_
    refine LV.bslice hS h6 rfl rfl Cnf.el54 rfl rfl rfl rfl fun x13_3 T4 n4 h7 ρ its hS hdr => ?_
    refine LV.call hS h7 (g134_ok _ _ _ _ _ ) hP rfl rfl rfl rfl fun x14_4 T5 n5 h8 ρ its hS => ?_
    refine pu ?_
    exact la1 hS h8 ⟨rfl, rfl, trivial⟩
  ·
   intro y15 T3 n3 ρ its hS h5
   unfold g155_k2 at h5
   clear h4
   refine as_ ?_
   refine dn ?_
   refine CV.ret ?_
   cases h5
   exact PV.ret (by simp) Tryz.results155 hS (RS.tmp rfl RS.nil) rfl
noncomputable def g185_k1 (ih : FuncId → List HT → List AV → HT → Nat → R) (ro : List HT) (y0 y5 y25 : AV) (T3 : HT) (n3 : Nat) : R :=
 .ok (.val y25) T3 n3
noncomputable def g185_b2 (ih : FuncId → List HT → List AV → HT → Nat → R) (ro : List HT) (lp2 : AV → AV → AV → AV → AV → AV → HT → Nat → R) (y0 y4 y5 y27 y28 y29 : AV) (T4 : HT) (n4 : Nat) : R :=
 ltK Tryz.prog 3 (.tmp 29) (.tmp 28) 1850029 y29 y28 fun x30_17 =>
 condK 1850030 x30_17
 (
  iaK 1850031 y27 y29 1 fun x31_18 =>
  ldK 1850032 T4 ro x31_18 fun x32_19 =>
  callK (ih 185 ro [y0, x32_19] T4 n4) fun x35_20 T5 n5 =>
  notK 1850037 x35_20 fun x36_21 =>
  condK 1850038 x36_21
  (
   .bad 1850039
  )
  (
   addK Tryz.prog 3 (.tmp 29) (.const (.int .i64 (.ofNat 1))) 1850040 y29 (.lit (.int .i64 (.ofNat 1))) fun x37_22 =>
   lp2 y0 y4 y5 y27 y28 x37_22 T5 n5
  )
 )
 (
  faK 1850042 y5 4 fun x38_23 =>
  ldK 1850043 T4 ro x38_23 fun x39_24 =>
  lenSK 1850044 x39_24 fun x40_25 =>
  gtK Tryz.prog 3 (.tmp 40) (.const (.int .i64 (.ofNat 0))) 1850045 x40_25 (.lit (.int .i64 (.ofNat 0))) fun x41_26 =>
  .ok (.val x41_26) T4 n4
 )
noncomputable def g185 (ih : FuncId → List HT → List AV → HT → Nat → R) (ro : List HT) (a0 a1 : AV) (T : HT) (nx : Nat) : R :=
 fldK 1850003 T ro a0 2 fun x11_1 =>
 iaK 1850005 x11_1 a1 5 fun x13_2 =>
 ldAK 1850006 T ro x13_2 5 fun x14_3 =>
 newK T nx (.obj [.lit (.int .i64 0), .lit (.int .i64 0), .lit (.int .i64 0), .lit (.string ⟨#[]⟩), .lit (.slice none 0 0)] 172) fun x5_4 T1 n1 =>
 stAK 1850008 T1 x5_4 x14_3 5 fun T2 =>
 faK 1850009 x5_4 0 fun x15_5 =>
 ldK 1850010 T2 ro x15_5 fun x16_6 =>
 neK Tryz.prog 3 (.tmp 16) (.const (.int .i64 (.ofNat 8))) 1850011 x16_6 (.lit (.int .i64 (.ofNat 8))) fun x17_7 =>
 condK 1850012 x17_7
 (
  faK 1850013 x5_4 0 fun x18_8 =>
  ldK 1850014 T2 ro x18_8 fun x19_9 =>
  eqK Tryz.prog 3 (.tmp 19) (.const (.int .i64 (.ofNat 6))) 1850015 x19_9 (.lit (.int .i64 (.ofNat 6))) fun x20_10 =>
  condK 1850018 x20_10
  (
   g185_k1 ih ro a0 x5_4 (.lit (.bool true)) T2 n1
  )
  (
   faK 1850020 x5_4 0 fun x22_11 =>
   ldK 1850021 T2 ro x22_11 fun x23_12 =>
   eqK Tryz.prog 3 (.tmp 23) (.const (.int .i64 (.ofNat 13))) 1850022 x23_12 (.lit (.int .i64 (.ofNat 13))) fun x24_13 =>
   g185_k1 ih ro a0 x5_4 x24_13 T2 n1
  )
 )
 (
  faK 1850024 x5_4 4 fun x26_14 =>
  ldK 1850025 T2 ro x26_14 fun x27_15 =>
  lenSK 1850026 x27_15 fun x28_16 =>
  lpf6 1850028 (g185_b2 ih ro) 100000 a0 (.lit (.bool false)) x5_4 x27_15 x28_16 (.lit (.int .i64 (.ofNat 0))) T2 n1
 )
theorem g185_ok (ih : FuncId → List HT → List AV → HT → Nat → R) (hI : ∀ f ro args T nx, GOk Tryz.prog envE f args ro T nx (ih f ro args T nx)) (ro : List HT) (a0 a1 : AV) (T : HT) (nx : Nat) : GOk Tryz.prog envE 185 [a0, a1] ro T nx (g185 ih ro a0 a1 T nx) := by
 refine GOk.of_body Tryz.func185 rfl Tryz.ntmps185 (by kernel_rfl) rfl fun r T' n' h1 w0 base ρ0 its hS hP => ?_
 have X : CtxW envE ρ0 ro r T' n' := trivial
 unfold g185 at h1
 refine sr ?_
 refine as_ ?_
 refine dn ?_
 refine sr ?_
 refine mv ?_
 refine fl hS h1 Cnf.fo185_2 Cnf.one109 fun x11_1 h2 => ?_
 refine mv ?_
 refine vy (V.ia h2 rfl rfl Cnf.el109) fun x13_2 h3 => ?_
 refine vy (V.ldA hS h3 rfl Cnf.agg172) fun x14_3 h4 => ?_
 refine LV.alloc hS h4 rfl Cnf.zr172 rfl rfl rfl fun x5_4 T1 n1 h5 ρ its hS hdr => ?_
 refine LV.stA hS h5 rfl rfl rfl Cnf.agg172 rfl rfl rfl fun T2 its h6 hS => ?_
 refine dn ?_
 refine CV.seq ?_
 refine sr ?_
 refine vy (V.fa h6 rfl Cnf.fo172_0) fun x15_5 h7 => ?_
 refine vy (V.ld hS h7 rfl Cnf.one3) fun x16_6 h8 => ?_
 refine vy (V.ne h8 rfl rfl) fun x17_7 h9 => ?_
 refine dn ?_
 refine CV.cond h9 rfl (fun e h10 => ?_) (fun e h10 => ?_)
 ·
  clear h1 h2 h3 h4 h5 h6 h7 h8 h9
  subst e
  refine sr ?_
  refine vy (V.fa h10 rfl Cnf.fo172_0) fun x18_8 h11 => ?_
  refine vy (V.ld hS h11 rfl Cnf.one3) fun x19_9 h12 => ?_
  refine vy (V.eq h12 rfl rfl) fun x20_10 h13 => ?_
  refine mv ?_
  refine ls3 X 0 5 25 [(4, (.lit (.bool false)))] (g185_k1 ih ro) 4 ?_ ?_
  ·
   rcases condK_inv h13 with ⟨e, h15⟩ | ⟨e, h15⟩
   ·
    clear h10 h11 h12 h13
    subst e
    refine sk ?_
    refine sk ?_
    refine sk ?_
    refine pu ?_
    exact la3 hS h15 ⟨rfl, rfl, rfl, rfl, trivial⟩
   ·
    clear h10 h11 h12 h13
    subst e
    refine vy (V.fa h15 rfl Cnf.fo172_0) fun x22_11 h16 => ?_
    refine vy (V.ld hS h16 rfl Cnf.one3) fun x23_12 h17 => ?_
    refine vy (V.eq h17 rfl rfl) fun x24_13 h18 => ?_
    refine pu ?_
    exact la3 hS h18 ⟨rfl, rfl, rfl, rfl, trivial⟩
  ·
   intro y0 y5 y25 T3 n3 ρ its hS h14
   unfold g185_k1 at h14
   clear h10 h11 h12 h13
   refine as_ ?_
   refine dn ?_
   refine CV.ret ?_
   refine PV.thenR ?_
   cases h14
   exact PV.ret (by simp) Tryz.results185 hS (RS.tmp rfl RS.nil) rfl
 ·
  clear h1 h2 h3 h4 h5 h6 h7 h8 h9
  subst e
  refine CV.skip ?_
  refine PV.thenN ?_
  refine CV.seq ?_
  refine sr ?_
  refine vy (V.fa h10 rfl Cnf.fo172_4) fun x26_14 h19 => ?_
  refine vy (V.ld hS h19 rfl Cnf.one170) fun x27_15 h20 => ?_
  refine vy (V.lenS h20 rfl Cnf.ls170) fun x28_16 h21 => ?_
  refine mv ?_
  refine dn ?_
  refine CV.block ?_
  refine cl6 X 0 4 5 27 28 29 [] hS h21 ⟨rfl, rfl, rfl, rfl, rfl, rfl, trivial⟩ ?_
  intro f2 y0 y4 y5 y27 y28 y29 T4 n4 ρ its hS h22
  unfold g185_b2 at h22
  clear h10 h19 h20 h21
  refine sr ?_
  refine vy (V.lt h22 rfl rfl) fun x30_17 h23 => ?_
  refine dn ?_
  refine CV.seq ?_
  refine CV.cond h23 rfl (fun e h24 => ?_) (fun e h24 => ?_)
  ·
   clear h22 h23
   subst e
   refine CV.skip ?_
   refine PV.thenN ?_
   refine CV.seq ?_
   refine CV.block ?_
   refine sr ?_
   refine vy (V.ia h24 rfl rfl Cnf.el170) fun x31_18 h25 => ?_
   refine vy (V.ld hS h25 rfl Cnf.one3) fun x32_19 h26 => ?_
   refine as_ ?_
   refine dn ?_
   refine sr ?_
   refine mv ?_
   refine mv ?_
   refine LV.call hS h26 (hI _ _ _ _ _) hP rfl rfl rfl rfl fun x35_20 T5 n5 h27 ρ its hS => ?_
   refine vy (V.not h27 rfl) fun x36_21 h28 => ?_
   refine dn ?_
   refine CV.cond h28 rfl (fun e h29 => ?_) (fun e h29 => ?_)
   ·
    clear h24 h25 h26 h27 h28
    subst e
    cases h29
   ·
    clear h24 h25 h26 h27 h28
    subst e
    refine CV.skip ?_
    refine PV.blockN ?_
    refine PV.thenN ?_
    refine CV.region ?_
    refine vy (V.add h29 rfl rfl) fun x37_22 h30 => ?_
    refine mv ?_
    refine LV.done ?_
    exact pb6 hS h30 ⟨rfl, rfl, rfl, rfl, rfl, rfl, trivial⟩
  ·
   clear h22 h23
   subst e
   refine CV.exit ?_
   refine PV.thenE ?_
   refine PV.thenE ?_
   refine PV.blockE ?_
   refine PV.thenN ?_
   refine sr ?_
   refine vy (V.fa h24 rfl Cnf.fo172_4) fun x38_23 h31 => ?_
   refine vy (V.ld hS h31 rfl Cnf.one170) fun x39_24 h32 => ?_
   refine vy (V.lenS h32 rfl Cnf.ls170) fun x40_25 h33 => ?_
   refine vy (V.gt h33 rfl rfl) fun x41_26 h34 => ?_
   refine as_ ?_
   refine dn ?_
   refine CV.ret ?_
   cases h34
   exact PV.ret (by simp) Tryz.results185 hS (RS.tmp rfl RS.nil) rfl
noncomputable def ap1 (ih : FuncId → List HT → List AV → HT → Nat → R) (f : FuncId) (ro : List HT) (args : List AV) (T : HT) (nx : Nat) : R :=
  Bool.rec (motive := fun _ => R) (.bad 2) (List.rec (motive := fun _ => R) (.bad 1) (fun a0 l0 _ => List.rec (motive := fun _ => R) (.bad 1) (fun a1 l1 _ => List.rec (motive := fun _ => R) (g185 ih ro a0 a1 T nx) (fun _ _ _ => .bad 1) l1) l0) args) (Nat.beq f 185)
noncomputable def scc1 (fuel : Nat) : FuncId → List HT → List AV → HT → Nat → R :=
  Nat.rec (motive := fun _ => FuncId → List HT → List AV → HT → Nat → R) (fun _ _ _ _ _ => .bad 3) (fun _ ih => ap1 ih) fuel
theorem ap1_ok (ih : FuncId → List HT → List AV → HT → Nat → R) (hI : ∀ f ro args T nx, GOk Tryz.prog envE f args ro T nx (ih f ro args T nx)) (f : FuncId) (ro : List HT) (args : List AV) (T : HT) (nx : Nat) : GOk Tryz.prog envE f args ro T nx (ap1 ih f ro args T nx) := by
  unfold ap1
  refine recb_go (fun hb => ?_) (fun _ => ?_)
  · obtain rfl := beqT hb
    rcases args with _ | ⟨a0, l0⟩
    · exact GOk.bad
    rcases l0 with _ | ⟨a1, l1⟩
    · exact GOk.bad
    rcases l1 with _ | ⟨_, _⟩
    · exact g185_ok _ hI _ _ _ _ _ 
    · exact GOk.bad
  · exact GOk.bad
theorem scc1_ok : ∀ (fuel : Nat) (f : FuncId) (ro : List HT) (args : List AV) (T : HT) (nx : Nat), GOk Tryz.prog envE f args ro T nx (scc1 fuel f ro args T nx)
  | 0, _, _, _, _, _ => GOk.bad
  | fuel + 1, f, ro, args, T, nx => ap1_ok (scc1 fuel) (scc1_ok fuel) f ro args T nx
noncomputable def g113_k1 (ro : List HT) (y14 : AV) (T1 : HT) (n1 : Nat) : R :=
 .ok (.val y14) T1 n1
noncomputable def g113 (ro : List HT) (a0 a1 a2 : AV) (T : HT) (nx : Nat) : R :=
 geK Tryz.prog 3 (.tmp 7) (.tmp 8) 1130004 a0 a1 fun x9_1 =>
 condK 1130007 x9_1
 (
  ltK Tryz.prog 3 (.tmp 11) (.tmp 12) 1130010 a0 a2 fun x13_2 =>
  g113_k1 ro x13_2 T nx
 )
 (
  g113_k1 ro (.lit (.bool false)) T nx
 )
theorem g113_ok (ro : List HT) (a0 a1 a2 : AV) (T : HT) (nx : Nat) : GOk Tryz.prog envE 113 [a0, a1, a2] ro T nx (g113 ro a0 a1 a2 T nx) := by
 refine GOk.of_body Tryz.func113 rfl Tryz.ntmps113 (by kernel_rfl) rfl fun r T' n' h1 w0 base ρ0 its hS hP => ?_
 have X : CtxW envE ρ0 ro r T' n' := trivial
 unfold g113 at h1
 refine sr ?_
 refine as_ ?_
 refine dn ?_
 refine sr ?_
 refine mv ?_
 refine mv ?_
 refine vy (V.ge h1 rfl rfl) fun x9_1 h2 => ?_
 refine mv ?_
 refine ls1 X 14 [(6, (.lit (.bool false)))] (g113_k1 ro) 4 ?_ ?_
 ·
  rcases condK_inv h2 with ⟨e, h4⟩ | ⟨e, h4⟩
  ·
   clear h1 h2
   subst e
   refine mv ?_
   refine mv ?_
   refine vy (V.lt h4 rfl rfl) fun x13_2 h5 => ?_
   refine pu ?_
   exact la1 hS h5 ⟨rfl, rfl, trivial⟩
  ·
   clear h1 h2
   subst e
   refine sk ?_
   refine sk ?_
   refine sk ?_
   refine pu ?_
   exact la1 hS h4 ⟨rfl, rfl, trivial⟩
 ·
  intro y14 T1 n1 ρ its hS h3
  unfold g113_k1 at h3
  clear h1 h2
  refine as_ ?_
  refine dn ?_
  refine CV.ret ?_
  cases h3
  exact PV.ret (by simp) Tryz.results113 hS (RS.tmp rfl RS.nil) rfl
noncomputable def g82_k6 (ro : List HT) (y3 y4 y158 : AV) (T9 : HT) (n9 : Nat) : R :=
 condK 820072 y158
 (
  faK 820073 y3 1 fun x167_33 =>
  ldK 820074 T9 ro x167_33 fun x168_34 =>
  eqK Tryz.prog 3 (.tmp 168) (.const (.int .i64 (.ofNat 0))) 820075 x168_34 (.lit (.int .i64 (.ofNat 0))) fun x169_35 =>
  .ok (.val x169_35) T9 n9
 )
 (
  .ok (.val (.lit (.bool false))) T9 n9
 )
noncomputable def g82_k5 (ro : List HT) (y3 y4 y31 y129 : AV) (T8 : HT) (n8 : Nat) : R :=
 condK 820058 y129
 (
  .bad 820059
 )
 (
  eqK Tryz.prog 3 (.tmp 31) (.const (.int .i64 (.ofNat 10))) 820060 y31 (.lit (.int .i64 (.ofNat 10))) fun x139_30 =>
  condK 820062 x139_30
  (
   .bad 820063
  )
  (
   eqK Tryz.prog 3 (.tmp 31) (.const (.int .i64 (.ofNat 11))) 820064 y31 (.lit (.int .i64 (.ofNat 11))) fun x149_31 =>
   condK 820066 x149_31
   (
    .bad 820067
   )
   (
    eqK Tryz.prog 3 (.tmp 31) (.const (.int .i64 (.ofNat 19))) 820068 y31 (.lit (.int .i64 (.ofNat 19))) fun x154_32 =>
    condK 820070 x154_32
    (
     .bad 820071
    )
    (
     eqK Tryz.prog 3 (.tmp 31) (.const (.int .i64 (.ofNat 18))) 820078 y31 (.lit (.int .i64 (.ofNat 18))) fun x159_36 =>
     condK 820080 x159_36
     (
      g82_k6 ro y3 y4 (.lit (.bool true)) T8 n8
     )
     (
      eqK Tryz.prog 3 (.tmp 31) (.const (.int .i64 (.ofNat 20))) 820081 y31 (.lit (.int .i64 (.ofNat 20))) fun x160_37 =>
      condK 820083 x160_37
      (
       g82_k6 ro y3 y4 (.lit (.bool true)) T8 n8
      )
      (
       eqK Tryz.prog 3 (.tmp 31) (.const (.int .i64 (.ofNat 22))) 820084 y31 (.lit (.int .i64 (.ofNat 22))) fun x161_38 =>
       condK 820086 x161_38
       (
        g82_k6 ro y3 y4 (.lit (.bool true)) T8 n8
       )
       (
        eqK Tryz.prog 3 (.tmp 31) (.const (.int .i64 (.ofNat 24))) 820087 y31 (.lit (.int .i64 (.ofNat 24))) fun x162_39 =>
        condK 820089 x162_39
        (
         g82_k6 ro y3 y4 (.lit (.bool true)) T8 n8
        )
        (
         eqK Tryz.prog 3 (.tmp 31) (.const (.int .i64 (.ofNat 25))) 820090 y31 (.lit (.int .i64 (.ofNat 25))) fun x163_40 =>
         condK 820092 x163_40
         (
          g82_k6 ro y3 y4 (.lit (.bool true)) T8 n8
         )
         (
          eqK Tryz.prog 3 (.tmp 31) (.const (.int .i64 (.ofNat 27))) 820093 y31 (.lit (.int .i64 (.ofNat 27))) fun x164_41 =>
          condK 820095 x164_41
          (
           g82_k6 ro y3 y4 (.lit (.bool true)) T8 n8
          )
          (
           eqK Tryz.prog 3 (.tmp 31) (.const (.int .i64 (.ofNat 29))) 820096 y31 (.lit (.int .i64 (.ofNat 29))) fun x165_42 =>
           condK 820098 x165_42
           (
            g82_k6 ro y3 y4 (.lit (.bool true)) T8 n8
           )
           (
            eqK Tryz.prog 3 (.tmp 31) (.const (.int .i64 (.ofNat 31))) 820099 y31 (.lit (.int .i64 (.ofNat 31))) fun x166_43 =>
            g82_k6 ro y3 y4 x166_43 T8 n8
           )
          )
         )
        )
       )
      )
     )
    )
   )
  )
 )
noncomputable def g82_k4 (ro : List HT) (y3 y4 y31 y114 : AV) (T7 : HT) (n7 : Nat) : R :=
 condK 820056 y114
 (
  .bad 820057
 )
 (
  eqK Tryz.prog 3 (.tmp 31) (.const (.int .i64 (.ofNat 6))) 820101 y31 (.lit (.int .i64 (.ofNat 6))) fun x130_44 =>
  condK 820103 x130_44
  (
   g82_k5 ro y3 y4 y31 (.lit (.bool true)) T7 n7
  )
  (
   eqK Tryz.prog 3 (.tmp 31) (.const (.int .i64 (.ofNat 7))) 820104 y31 (.lit (.int .i64 (.ofNat 7))) fun x131_45 =>
   condK 820106 x131_45
   (
    g82_k5 ro y3 y4 y31 (.lit (.bool true)) T7 n7
   )
   (
    eqK Tryz.prog 3 (.tmp 31) (.const (.int .i64 (.ofNat 8))) 820107 y31 (.lit (.int .i64 (.ofNat 8))) fun x132_46 =>
    condK 820109 x132_46
    (
     g82_k5 ro y3 y4 y31 (.lit (.bool true)) T7 n7
    )
    (
     eqK Tryz.prog 3 (.tmp 31) (.const (.int .i64 (.ofNat 9))) 820110 y31 (.lit (.int .i64 (.ofNat 9))) fun x133_47 =>
     condK 820112 x133_47
     (
      g82_k5 ro y3 y4 y31 (.lit (.bool true)) T7 n7
     )
     (
      eqK Tryz.prog 3 (.tmp 31) (.const (.int .i64 (.ofNat 21))) 820113 y31 (.lit (.int .i64 (.ofNat 21))) fun x134_48 =>
      g82_k5 ro y3 y4 y31 x134_48 T7 n7
     )
    )
   )
  )
 )
noncomputable def g82_k3 (ro : List HT) (y3 y4 y31 y91 : AV) (T6 : HT) (n6 : Nat) : R :=
 condK 820050 y91
 (
  .bad 820051
 )
 (
  eqK Tryz.prog 3 (.tmp 31) (.const (.int .i64 (.ofNat 28))) 820052 y31 (.lit (.int .i64 (.ofNat 28))) fun x104_29 =>
  condK 820054 x104_29
  (
   .bad 820055
  )
  (
   eqK Tryz.prog 3 (.tmp 31) (.const (.int .i64 (.ofNat 12))) 820115 y31 (.lit (.int .i64 (.ofNat 12))) fun x115_49 =>
   condK 820117 x115_49
   (
    g82_k4 ro y3 y4 y31 (.lit (.bool true)) T6 n6
   )
   (
    eqK Tryz.prog 3 (.tmp 31) (.const (.int .i64 (.ofNat 13))) 820118 y31 (.lit (.int .i64 (.ofNat 13))) fun x116_50 =>
    condK 820120 x116_50
    (
     g82_k4 ro y3 y4 y31 (.lit (.bool true)) T6 n6
    )
    (
     eqK Tryz.prog 3 (.tmp 31) (.const (.int .i64 (.ofNat 14))) 820121 y31 (.lit (.int .i64 (.ofNat 14))) fun x117_51 =>
     condK 820123 x117_51
     (
      g82_k4 ro y3 y4 y31 (.lit (.bool true)) T6 n6
     )
     (
      eqK Tryz.prog 3 (.tmp 31) (.const (.int .i64 (.ofNat 15))) 820124 y31 (.lit (.int .i64 (.ofNat 15))) fun x118_52 =>
      condK 820126 x118_52
      (
       g82_k4 ro y3 y4 y31 (.lit (.bool true)) T6 n6
      )
      (
       eqK Tryz.prog 3 (.tmp 31) (.const (.int .i64 (.ofNat 23))) 820127 y31 (.lit (.int .i64 (.ofNat 23))) fun x119_53 =>
       g82_k4 ro y3 y4 y31 x119_53 T6 n6
      )
     )
    )
   )
  )
 )
noncomputable def g82_k2 (ro : List HT) (y0 y3 y4 y31 y79 : AV) (T4 : HT) (n4 : Nat) : R :=
 condK 820039 y79
 (
  faK 820040 y3 1 fun x82_21 =>
  ldK 820041 T4 ro x82_21 fun x83_22 =>
  ncK 820043 y0 fun x85_23 =>
  faK 820044 x85_23 0 fun x86_24 =>
  faK 820045 x86_24 2 fun x87_25 =>
  ldK 820046 T4 ro x87_25 fun x88_26 =>
  lenSK 820047 x88_26 fun x89_27 =>
  callK (g113 ro x83_22 (.lit (.int .i64 (.ofNat 0))) x89_27 T4 n4) fun x90_28 T5 n5 =>
  .ok (.val x90_28) T5 n5
 )
 (
  eqK Tryz.prog 3 (.tmp 31) (.const (.int .i64 (.ofNat 17))) 820129 y31 (.lit (.int .i64 (.ofNat 17))) fun x92_54 =>
  condK 820131 x92_54
  (
   g82_k3 ro y3 y4 y31 (.lit (.bool true)) T4 n4
  )
  (
   eqK Tryz.prog 3 (.tmp 31) (.const (.int .i64 (.ofNat 32))) 820132 y31 (.lit (.int .i64 (.ofNat 32))) fun x93_55 =>
   g82_k3 ro y3 y4 y31 x93_55 T4 n4
  )
 )
noncomputable def g82_k1 (ro : List HT) (y0 y3 y4 y31 y67 : AV) (T3 : HT) (n3 : Nat) : R :=
 condK 820037 y67
 (
  .bad 820038
 )
 (
  eqK Tryz.prog 3 (.tmp 31) (.const (.int .i64 (.ofNat 4))) 820134 y31 (.lit (.int .i64 (.ofNat 4))) fun x80_56 =>
  condK 820136 x80_56
  (
   g82_k2 ro y0 y3 y4 y31 (.lit (.bool true)) T3 n3
  )
  (
   eqK Tryz.prog 3 (.tmp 31) (.const (.int .i64 (.ofNat 5))) 820137 y31 (.lit (.int .i64 (.ofNat 5))) fun x81_57 =>
   g82_k2 ro y0 y3 y4 y31 x81_57 T3 n3
  )
 )
noncomputable def g82 (ro : List HT) (a0 a1 : AV) (T : HT) (nx : Nat) : R :=
 boxK 820001 T nx a1 60 fun x3_1 T1 n1 =>
 faK 820003 x3_1 0 fun x5_2 =>
 ldK 820004 T1 ro x5_2 fun x6_3 =>
 eqK Tryz.prog 3 (.tmp 6) (.const (.int .i64 (.ofNat 16))) 820005 x6_3 (.lit (.int .i64 (.ofNat 16))) fun x8_4 =>
 condK 820007 x8_4
 (
  .bad 820008
 )
 (
  eqK Tryz.prog 3 (.tmp 6) (.const (.int .i64 (.ofNat 26))) 820009 x6_3 (.lit (.int .i64 (.ofNat 26))) fun x18_5 =>
  condK 820011 x18_5
  (
   .bad 820012
  )
  (
   faK 820013 x3_1 2 fun x27_6 =>
   ldK 820014 T1 ro x27_6 fun x28_7 =>
   neK Tryz.prog 3 (.tmp 28) (.const (.int .i64 (.ofNat 0))) 820015 x28_7 (.lit (.int .i64 (.ofNat 0))) fun x29_8 =>
   condK 820016 x29_8
   (
    .bad 820017
   )
   (
    faK 820018 x3_1 0 fun x30_9 =>
    ldK 820019 T1 ro x30_9 fun x31_10 =>
    eqK Tryz.prog 3 (.tmp 31) (.const (.int .i64 (.ofNat 1))) 820020 x31_10 (.lit (.int .i64 (.ofNat 1))) fun x33_11 =>
    condK 820022 x33_11
    (
     faK 820023 x3_1 1 fun x34_12 =>
     ldK 820024 T1 ro x34_12 fun x35_13 =>
     ncK 820026 a0 fun x37_14 =>
     faK 820027 x37_14 0 fun x38_15 =>
     faK 820028 x38_15 1 fun x39_16 =>
     ldK 820029 T1 ro x39_16 fun x40_17 =>
     lenSK 820030 x40_17 fun x41_18 =>
     callK (g113 ro x35_13 (.lit (.int .i64 (.ofNat 0))) x41_18 T1 n1) fun x42_19 T2 n2 =>
     .ok (.val x42_19) T2 n2
    )
    (
     eqK Tryz.prog 3 (.tmp 31) (.const (.int .i64 (.ofNat 30))) 820033 x31_10 (.lit (.int .i64 (.ofNat 30))) fun x44_20 =>
     condK 820035 x44_20
     (
      .bad 820036
     )
     (
      eqK Tryz.prog 3 (.tmp 31) (.const (.int .i64 (.ofNat 2))) 820139 x31_10 (.lit (.int .i64 (.ofNat 2))) fun x68_58 =>
      condK 820141 x68_58
      (
       g82_k1 ro a0 x3_1 (.lit (.bool false)) x31_10 (.lit (.bool true)) T1 n1
      )
      (
       eqK Tryz.prog 3 (.tmp 31) (.const (.int .i64 (.ofNat 3))) 820142 x31_10 (.lit (.int .i64 (.ofNat 3))) fun x69_59 =>
       condK 820144 x69_59
       (
        g82_k1 ro a0 x3_1 (.lit (.bool false)) x31_10 (.lit (.bool true)) T1 n1
       )
       (
        eqK Tryz.prog 3 (.tmp 31) (.const (.int .i64 (.ofNat 33))) 820145 x31_10 (.lit (.int .i64 (.ofNat 33))) fun x70_60 =>
        g82_k1 ro a0 x3_1 (.lit (.bool false)) x31_10 x70_60 T1 n1
       )
      )
     )
    )
   )
  )
 )
theorem g82_ok (ro : List HT) (a0 a1 : AV) (T : HT) (nx : Nat) : GOk Tryz.prog envE 82 [a0, a1] ro T nx (g82 ro a0 a1 T nx) := by
 refine GOk.of_body Tryz.func82 rfl Tryz.ntmps82 (by kernel_rfl) rfl fun r T' n' h1 w0 base ρ0 its hS hP => ?_
 have X : CtxW envE ρ0 ro r T' n' := trivial
 unfold g82 at h1
 refine sr ?_
 refine LV.box hS h1 rfl rfl rfl rfl rfl fun x3_1 T1 n1 h2 ρ its hS hdr => ?_
 refine as_ ?_
 refine dn ?_
 refine CV.seq ?_
 refine sr ?_
 refine vy (V.fa h2 rfl Cnf.fo60_0) fun x5_2 h3 => ?_
 refine vy (V.ld hS h3 rfl Cnf.one3) fun x6_3 h4 => ?_
 refine dn ?_
 refine CV.block ?_
 refine sr ?_
 refine vy (V.eq h4 rfl rfl) fun x8_4 h5 => ?_
 refine as_ ?_
 refine dn ?_
 refine CV.cond h5 rfl (fun e h6 => ?_) (fun e h6 => ?_)
 ·
  clear h1 h2 h3 h4 h5
  subst e
  cases h6
 ·
  clear h1 h2 h3 h4 h5
  subst e
  refine sr ?_
  refine vy (V.eq h6 rfl rfl) fun x18_5 h7 => ?_
  refine as_ ?_
  refine dn ?_
  refine CV.cond h7 rfl (fun e h8 => ?_) (fun e h8 => ?_)
  ·
   clear h6 h7
   subst e
   cases h8
  ·
   clear h6 h7
   subst e
   refine CV.skip ?_
   refine PV.blockN ?_
   refine PV.thenN ?_
   refine CV.seq ?_
   refine sr ?_
   refine vy (V.fa h8 rfl Cnf.fo60_2) fun x27_6 h9 => ?_
   refine vy (V.ld hS h9 rfl Cnf.one3) fun x28_7 h10 => ?_
   refine vy (V.ne h10 rfl rfl) fun x29_8 h11 => ?_
   refine dn ?_
   refine CV.cond h11 rfl (fun e h12 => ?_) (fun e h12 => ?_)
   ·
    clear h8 h9 h10 h11
    subst e
    cases h12
   ·
    clear h8 h9 h10 h11
    subst e
    refine CV.skip ?_
    refine PV.thenN ?_
    refine CV.seq ?_
    refine sr ?_
    refine vy (V.fa h12 rfl Cnf.fo60_0) fun x30_9 h13 => ?_
    refine vy (V.ld hS h13 rfl Cnf.one3) fun x31_10 h14 => ?_
    refine dn ?_
    refine CV.block ?_
    refine sr ?_
    refine vy (V.eq h14 rfl rfl) fun x33_11 h15 => ?_
    refine as_ ?_
    refine dn ?_
    refine CV.cond h15 rfl (fun e h16 => ?_) (fun e h16 => ?_)
    ·
     clear h12 h13 h14 h15
     subst e
     refine CV.seq ?_
     refine CV.regionM [(0, .anywhere), (1, .held), (2, .anywhere), (3, .anywhere), (4, .anywhere), (5, .anywhere), (6, .held), (7, .held), (8, .alone), (9, .alone)] rfl (fun c a a' w hd hq => PanicOk.root (P := Tryz.prog) (fn := Tryz.f82) (w0 := w0) (base := base) (E := envE) (ro := ro) (r := r) (T' := T') (n' := n') (ρ0 := ρ0) c a a' w hd hq) (by kernel_rfl) ?_
     refine MV.lift0 (i := 0) rfl (V.fa h16 rfl Cnf.fo60_1) rfl rfl rfl fun x34_12 h17 => ?_
     refine MV.lift1 (i := 1) rfl (fun _ z => z) (V.ld hS h17 rfl Cnf.one3) rfl rfl rfl [] (by kernel_rfl) fun x35_13 h18 => ?_
     refine MV.step0 (i := 2) rfl (VAL.move rfl) rfl rfl rfl ?_
     refine MV.lift0 (i := 3) rfl (V.nc h18 rfl) rfl rfl rfl fun x37_14 h19 => ?_
     refine MV.lift0 (i := 4) rfl (V.fa h19 rfl Cnf.fo179_0) rfl rfl rfl fun x38_15 h20 => ?_
     refine MV.lift0 (i := 5) rfl (V.fa h20 rfl Cnf.fo114_1) rfl rfl rfl fun x39_16 h21 => ?_
     refine MV.lift1 (i := 6) rfl (fun _ z => z) (V.ld hS h21 rfl Cnf.one109) rfl rfl rfl [1] (by kernel_rfl) fun x40_17 h22 => ?_
     refine MV.lift1 (i := 7) rfl (fun _ z => z) (V.lenS h22 rfl Cnf.ls109) rfl rfl rfl [1] (by kernel_rfl) fun x41_18 h23 => ?_
     refine MV.force (i := 8) rfl ?_
     refine LV.call hS h23 (g113_ok _ _ _ _ _ _ ) hP rfl rfl rfl rfl fun x42_19 T2 n2 h24 ρ its hS => ?_
     refine LV.nextM [] (by kernel_rfl) (fun z => absurd rfl z) ?_
     refine MV.force (i := 9) rfl ?_
     refine as_ ?_
     refine LV.nextM [] (by kernel_rfl) (fun z => absurd rfl z) ?_
     refine mdn ?_
     refine CV.ret ?_
     refine PV.blockR ?_
     refine PV.thenR ?_
     cases h24
     exact PV.ret (by simp) Tryz.results82 hS (RS.tmp rfl RS.nil) rfl
    ·
     clear h12 h13 h14 h15
     subst e
     refine sr ?_
     refine vy (V.eq h16 rfl rfl) fun x44_20 h25 => ?_
     refine as_ ?_
     refine dn ?_
     refine CV.cond h25 rfl (fun e h26 => ?_) (fun e h26 => ?_)
     ·
      clear h16 h25
      subst e
      cases h26
     ·
      clear h16 h25
      subst e
      refine cs5 X 0 3 4 31 67 [] (g82_k1 ro) ?_ ?_
      ·
       refine sr ?_
       refine vy (V.eq h26 rfl rfl) fun x68_58 h97 => ?_
       refine as_ ?_
       refine dn ?_
       refine CV.cond h97 rfl (fun e h98 => ?_) (fun e h98 => ?_)
       ·
        clear h26 h97
        subst e
        refine CV.skip ?_
        exact pa5 hS h98 ⟨rfl, rfl, rfl, rfl, rfl, trivial⟩
       ·
        clear h26 h97
        subst e
        refine sr ?_
        refine vy (V.eq h98 rfl rfl) fun x69_59 h99 => ?_
        refine as_ ?_
        refine dn ?_
        refine CV.cond h99 rfl (fun e h100 => ?_) (fun e h100 => ?_)
        ·
         clear h98 h99
         subst e
         refine CV.skip ?_
         exact pa5 hS h100 ⟨rfl, rfl, rfl, rfl, rfl, trivial⟩
        ·
         clear h98 h99
         subst e
         refine CV.region ?_
         refine vy (V.eq h100 rfl rfl) fun x70_60 h101 => ?_
         refine as_ ?_
         refine LV.done ?_
         exact pa5 hS h101 ⟨rfl, rfl, rfl, rfl, rfl, trivial⟩
      ·
       intro y0 y3 y4 y31 y67 T3 n3 ρ its hS h27
       unfold g82_k1 at h27
       clear h26
       refine CV.cond h27 rfl (fun e h28 => ?_) (fun e h28 => ?_)
       ·
        clear h27
        subst e
        cases h28
       ·
        clear h27
        subst e
        refine cs5 X 0 3 4 31 79 [] (g82_k2 ro) ?_ ?_
        ·
         refine sr ?_
         refine vy (V.eq h28 rfl rfl) fun x80_56 h94 => ?_
         refine as_ ?_
         refine dn ?_
         refine CV.cond h94 rfl (fun e h95 => ?_) (fun e h95 => ?_)
         ·
          clear h28 h94
          subst e
          refine CV.skip ?_
          exact pa5 hS h95 ⟨rfl, rfl, rfl, rfl, rfl, trivial⟩
         ·
          clear h28 h94
          subst e
          refine CV.region ?_
          refine vy (V.eq h95 rfl rfl) fun x81_57 h96 => ?_
          refine as_ ?_
          refine LV.done ?_
          exact pa5 hS h96 ⟨rfl, rfl, rfl, rfl, rfl, trivial⟩
        ·
         intro y0 y3 y4 y31 y79 T4 n4 ρ its hS h29
         unfold g82_k2 at h29
         clear h28
         refine CV.cond h29 rfl (fun e h30 => ?_) (fun e h30 => ?_)
         ·
          clear h29
          subst e
          refine CV.seq ?_
          refine CV.regionM [(0, .anywhere), (1, .held), (2, .anywhere), (3, .anywhere), (4, .anywhere), (5, .anywhere), (6, .held), (7, .held), (8, .alone), (9, .alone)] rfl (fun c a a' w hd hq => PanicOk.root (P := Tryz.prog) (fn := Tryz.f82) (w0 := w0) (base := base) (E := envE) (ro := ro) (r := r) (T' := T') (n' := n') (ρ0 := ρ0) c a a' w hd hq) (by kernel_rfl) ?_
          refine MV.lift0 (i := 0) rfl (V.fa h30 rfl Cnf.fo60_1) rfl rfl rfl fun x82_21 h31 => ?_
          refine MV.lift1 (i := 1) rfl (fun _ z => z) (V.ld hS h31 rfl Cnf.one3) rfl rfl rfl [] (by kernel_rfl) fun x83_22 h32 => ?_
          refine MV.step0 (i := 2) rfl (VAL.move rfl) rfl rfl rfl ?_
          refine MV.lift0 (i := 3) rfl (V.nc h32 rfl) rfl rfl rfl fun x85_23 h33 => ?_
          refine MV.lift0 (i := 4) rfl (V.fa h33 rfl Cnf.fo179_0) rfl rfl rfl fun x86_24 h34 => ?_
          refine MV.lift0 (i := 5) rfl (V.fa h34 rfl Cnf.fo114_2) rfl rfl rfl fun x87_25 h35 => ?_
          refine MV.lift1 (i := 6) rfl (fun _ z => z) (V.ld hS h35 rfl Cnf.one54) rfl rfl rfl [1] (by kernel_rfl) fun x88_26 h36 => ?_
          refine MV.lift1 (i := 7) rfl (fun _ z => z) (V.lenS h36 rfl Cnf.ls54) rfl rfl rfl [1] (by kernel_rfl) fun x89_27 h37 => ?_
          refine MV.force (i := 8) rfl ?_
          refine LV.call hS h37 (g113_ok _ _ _ _ _ _ ) hP rfl rfl rfl rfl fun x90_28 T5 n5 h38 ρ its hS => ?_
          refine LV.nextM [] (by kernel_rfl) (fun z => absurd rfl z) ?_
          refine MV.force (i := 9) rfl ?_
          refine as_ ?_
          refine LV.nextM [] (by kernel_rfl) (fun z => absurd rfl z) ?_
          refine mdn ?_
          refine CV.ret ?_
          refine PV.blockR ?_
          refine PV.thenR ?_
          cases h38
          exact PV.ret (by simp) Tryz.results82 hS (RS.tmp rfl RS.nil) rfl
         ·
          clear h29
          subst e
          refine cs4 X 3 4 31 91 [] (g82_k3 ro) ?_ ?_
          ·
           refine sr ?_
           refine vy (V.eq h30 rfl rfl) fun x92_54 h91 => ?_
           refine as_ ?_
           refine dn ?_
           refine CV.cond h91 rfl (fun e h92 => ?_) (fun e h92 => ?_)
           ·
            clear h30 h91
            subst e
            refine CV.skip ?_
            exact pa4 hS h92 ⟨rfl, rfl, rfl, rfl, trivial⟩
           ·
            clear h30 h91
            subst e
            refine CV.region ?_
            refine vy (V.eq h92 rfl rfl) fun x93_55 h93 => ?_
            refine as_ ?_
            refine LV.done ?_
            exact pa4 hS h93 ⟨rfl, rfl, rfl, rfl, trivial⟩
          ·
           intro y3 y4 y31 y91 T6 n6 ρ its hS h39
           unfold g82_k3 at h39
           clear h30
           refine CV.cond h39 rfl (fun e h40 => ?_) (fun e h40 => ?_)
           ·
            clear h39
            subst e
            cases h40
           ·
            clear h39
            subst e
            refine sr ?_
            refine vy (V.eq h40 rfl rfl) fun x104_29 h41 => ?_
            refine as_ ?_
            refine dn ?_
            refine CV.cond h41 rfl (fun e h42 => ?_) (fun e h42 => ?_)
            ·
             clear h40 h41
             subst e
             cases h42
            ·
             clear h40 h41
             subst e
             refine cs4 X 3 4 31 114 [] (g82_k4 ro) ?_ ?_
             ·
              refine sr ?_
              refine vy (V.eq h42 rfl rfl) fun x115_49 h82 => ?_
              refine as_ ?_
              refine dn ?_
              refine CV.cond h82 rfl (fun e h83 => ?_) (fun e h83 => ?_)
              ·
               clear h42 h82
               subst e
               refine CV.skip ?_
               exact pa4 hS h83 ⟨rfl, rfl, rfl, rfl, trivial⟩
              ·
               clear h42 h82
               subst e
               refine sr ?_
               refine vy (V.eq h83 rfl rfl) fun x116_50 h84 => ?_
               refine as_ ?_
               refine dn ?_
               refine CV.cond h84 rfl (fun e h85 => ?_) (fun e h85 => ?_)
               ·
                clear h83 h84
                subst e
                refine CV.skip ?_
                exact pa4 hS h85 ⟨rfl, rfl, rfl, rfl, trivial⟩
               ·
                clear h83 h84
                subst e
                refine sr ?_
                refine vy (V.eq h85 rfl rfl) fun x117_51 h86 => ?_
                refine as_ ?_
                refine dn ?_
                refine CV.cond h86 rfl (fun e h87 => ?_) (fun e h87 => ?_)
                ·
                 clear h85 h86
                 subst e
                 refine CV.skip ?_
                 exact pa4 hS h87 ⟨rfl, rfl, rfl, rfl, trivial⟩
                ·
                 clear h85 h86
                 subst e
                 refine sr ?_
                 refine vy (V.eq h87 rfl rfl) fun x118_52 h88 => ?_
                 refine as_ ?_
                 refine dn ?_
                 refine CV.cond h88 rfl (fun e h89 => ?_) (fun e h89 => ?_)
                 ·
                  clear h87 h88
                  subst e
                  refine CV.skip ?_
                  exact pa4 hS h89 ⟨rfl, rfl, rfl, rfl, trivial⟩
                 ·
                  clear h87 h88
                  subst e
                  refine CV.region ?_
                  refine vy (V.eq h89 rfl rfl) fun x119_53 h90 => ?_
                  refine as_ ?_
                  refine LV.done ?_
                  exact pa4 hS h90 ⟨rfl, rfl, rfl, rfl, trivial⟩
             ·
              intro y3 y4 y31 y114 T7 n7 ρ its hS h43
              unfold g82_k4 at h43
              clear h42
              refine CV.cond h43 rfl (fun e h44 => ?_) (fun e h44 => ?_)
              ·
               clear h43
               subst e
               cases h44
              ·
               clear h43
               subst e
               refine cs4 X 3 4 31 129 [] (g82_k5 ro) ?_ ?_
               ·
                refine sr ?_
                refine vy (V.eq h44 rfl rfl) fun x130_44 h73 => ?_
                refine as_ ?_
                refine dn ?_
                refine CV.cond h73 rfl (fun e h74 => ?_) (fun e h74 => ?_)
                ·
                 clear h44 h73
                 subst e
                 refine CV.skip ?_
                 exact pa4 hS h74 ⟨rfl, rfl, rfl, rfl, trivial⟩
                ·
                 clear h44 h73
                 subst e
                 refine sr ?_
                 refine vy (V.eq h74 rfl rfl) fun x131_45 h75 => ?_
                 refine as_ ?_
                 refine dn ?_
                 refine CV.cond h75 rfl (fun e h76 => ?_) (fun e h76 => ?_)
                 ·
                  clear h74 h75
                  subst e
                  refine CV.skip ?_
                  exact pa4 hS h76 ⟨rfl, rfl, rfl, rfl, trivial⟩
                 ·
                  clear h74 h75
                  subst e
                  refine sr ?_
                  refine vy (V.eq h76 rfl rfl) fun x132_46 h77 => ?_
                  refine as_ ?_
                  refine dn ?_
                  refine CV.cond h77 rfl (fun e h78 => ?_) (fun e h78 => ?_)
                  ·
                   clear h76 h77
                   subst e
                   refine CV.skip ?_
                   exact pa4 hS h78 ⟨rfl, rfl, rfl, rfl, trivial⟩
                  ·
                   clear h76 h77
                   subst e
                   refine sr ?_
                   refine vy (V.eq h78 rfl rfl) fun x133_47 h79 => ?_
                   refine as_ ?_
                   refine dn ?_
                   refine CV.cond h79 rfl (fun e h80 => ?_) (fun e h80 => ?_)
                   ·
                    clear h78 h79
                    subst e
                    refine CV.skip ?_
                    exact pa4 hS h80 ⟨rfl, rfl, rfl, rfl, trivial⟩
                   ·
                    clear h78 h79
                    subst e
                    refine CV.region ?_
                    refine vy (V.eq h80 rfl rfl) fun x134_48 h81 => ?_
                    refine as_ ?_
                    refine LV.done ?_
                    exact pa4 hS h81 ⟨rfl, rfl, rfl, rfl, trivial⟩
               ·
                intro y3 y4 y31 y129 T8 n8 ρ its hS h45
                unfold g82_k5 at h45
                clear h44
                refine CV.cond h45 rfl (fun e h46 => ?_) (fun e h46 => ?_)
                ·
                 clear h45
                 subst e
                 cases h46
                ·
                 clear h45
                 subst e
                 refine sr ?_
                 refine vy (V.eq h46 rfl rfl) fun x139_30 h47 => ?_
                 refine as_ ?_
                 refine dn ?_
                 refine CV.cond h47 rfl (fun e h48 => ?_) (fun e h48 => ?_)
                 ·
                  clear h46 h47
                  subst e
                  cases h48
                 ·
                  clear h46 h47
                  subst e
                  refine sr ?_
                  refine vy (V.eq h48 rfl rfl) fun x149_31 h49 => ?_
                  refine as_ ?_
                  refine dn ?_
                  refine CV.cond h49 rfl (fun e h50 => ?_) (fun e h50 => ?_)
                  ·
                   clear h48 h49
                   subst e
                   cases h50
                  ·
                   clear h48 h49
                   subst e
                   refine sr ?_
                   refine vy (V.eq h50 rfl rfl) fun x154_32 h51 => ?_
                   refine as_ ?_
                   refine dn ?_
                   refine CV.cond h51 rfl (fun e h52 => ?_) (fun e h52 => ?_)
                   ·
                    clear h50 h51
                    subst e
                    cases h52
                   ·
                    clear h50 h51
                    subst e
                    refine cs3 X 3 4 158 [] (g82_k6 ro) ?_ ?_
                    ·
                     refine sr ?_
                     refine vy (V.eq h52 rfl rfl) fun x159_36 h58 => ?_
                     refine as_ ?_
                     refine dn ?_
                     refine CV.cond h58 rfl (fun e h59 => ?_) (fun e h59 => ?_)
                     ·
                      clear h52 h58
                      subst e
                      refine CV.skip ?_
                      exact pa3 hS h59 ⟨rfl, rfl, rfl, trivial⟩
                     ·
                      clear h52 h58
                      subst e
                      refine sr ?_
                      refine vy (V.eq h59 rfl rfl) fun x160_37 h60 => ?_
                      refine as_ ?_
                      refine dn ?_
                      refine CV.cond h60 rfl (fun e h61 => ?_) (fun e h61 => ?_)
                      ·
                       clear h59 h60
                       subst e
                       refine CV.skip ?_
                       exact pa3 hS h61 ⟨rfl, rfl, rfl, trivial⟩
                      ·
                       clear h59 h60
                       subst e
                       refine sr ?_
                       refine vy (V.eq h61 rfl rfl) fun x161_38 h62 => ?_
                       refine as_ ?_
                       refine dn ?_
                       refine CV.cond h62 rfl (fun e h63 => ?_) (fun e h63 => ?_)
                       ·
                        clear h61 h62
                        subst e
                        refine CV.skip ?_
                        exact pa3 hS h63 ⟨rfl, rfl, rfl, trivial⟩
                       ·
                        clear h61 h62
                        subst e
                        refine sr ?_
                        refine vy (V.eq h63 rfl rfl) fun x162_39 h64 => ?_
                        refine as_ ?_
                        refine dn ?_
                        refine CV.cond h64 rfl (fun e h65 => ?_) (fun e h65 => ?_)
                        ·
                         clear h63 h64
                         subst e
                         refine CV.skip ?_
                         exact pa3 hS h65 ⟨rfl, rfl, rfl, trivial⟩
                        ·
                         clear h63 h64
                         subst e
                         refine sr ?_
                         refine vy (V.eq h65 rfl rfl) fun x163_40 h66 => ?_
                         refine as_ ?_
                         refine dn ?_
                         refine CV.cond h66 rfl (fun e h67 => ?_) (fun e h67 => ?_)
                         ·
                          clear h65 h66
                          subst e
                          refine CV.skip ?_
                          exact pa3 hS h67 ⟨rfl, rfl, rfl, trivial⟩
                         ·
                          clear h65 h66
                          subst e
                          refine sr ?_
                          refine vy (V.eq h67 rfl rfl) fun x164_41 h68 => ?_
                          refine as_ ?_
                          refine dn ?_
                          refine CV.cond h68 rfl (fun e h69 => ?_) (fun e h69 => ?_)
                          ·
                           clear h67 h68
                           subst e
                           refine CV.skip ?_
                           exact pa3 hS h69 ⟨rfl, rfl, rfl, trivial⟩
                          ·
                           clear h67 h68
                           subst e
                           refine sr ?_
                           refine vy (V.eq h69 rfl rfl) fun x165_42 h70 => ?_
                           refine as_ ?_
                           refine dn ?_
                           refine CV.cond h70 rfl (fun e h71 => ?_) (fun e h71 => ?_)
                           ·
                            clear h69 h70
                            subst e
                            refine CV.skip ?_
                            exact pa3 hS h71 ⟨rfl, rfl, rfl, trivial⟩
                           ·
                            clear h69 h70
                            subst e
                            refine CV.region ?_
                            refine vy (V.eq h71 rfl rfl) fun x166_43 h72 => ?_
                            refine as_ ?_
                            refine LV.done ?_
                            exact pa3 hS h72 ⟨rfl, rfl, rfl, trivial⟩
                    ·
                     intro y3 y4 y158 T9 n9 ρ its hS h53
                     unfold g82_k6 at h53
                     clear h52
                     refine CV.cond h53 rfl (fun e h54 => ?_) (fun e h54 => ?_)
                     ·
                      clear h53
                      subst e
                      refine sr ?_
                      refine vy (V.fa h54 rfl Cnf.fo60_1) fun x167_33 h55 => ?_
                      refine vy (V.ld hS h55 rfl Cnf.one3) fun x168_34 h56 => ?_
                      refine vy (V.eq h56 rfl rfl) fun x169_35 h57 => ?_
                      refine as_ ?_
                      refine dn ?_
                      refine CV.ret ?_
                      refine PV.blockR ?_
                      refine PV.thenR ?_
                      cases h57
                      exact PV.ret (by simp) Tryz.results82 hS (RS.tmp rfl RS.nil) rfl
                     ·
                      clear h53
                      subst e
                      refine CV.skip ?_
                      refine PV.blockN ?_
                      refine PV.thenN ?_
                      refine sr ?_
                      refine as_ ?_
                      refine dn ?_
                      refine CV.ret ?_
                      cases h54
                      exact PV.ret (by simp) Tryz.results82 hS (RS.tmp rfl RS.nil) rfl
noncomputable def g81 (ro : List HT) (a0 a1 : AV) (T : HT) (nx : Nat) : R :=
 boxK 810001 T nx a0 60 fun x2_1 T1 n1 =>
 ldK 810003 T1 ro a1 fun x4_2 =>
 ldAK 810004 T1 ro x2_1 4 fun x5_3 =>
 callK (g82 ro x4_2 x5_3 T1 n1) fun x6_4 T2 n2 =>
 notK 810006 x6_4 fun x7_5 =>
 .ok (.val x7_5) T2 n2
theorem g81_ok (ro : List HT) (a0 a1 : AV) (T : HT) (nx : Nat) : GOk Tryz.prog envE 81 [a0, a1] ro T nx (g81 ro a0 a1 T nx) := by
 refine GOk.of_body Tryz.func81 rfl Tryz.ntmps81 (by kernel_rfl) rfl fun r T' n' h1 w0 base ρ0 its hS hP => ?_
 have X : CtxW envE ρ0 ro r T' n' := trivial
 unfold g81 at h1
 refine sr ?_
 refine LV.box hS h1 rfl rfl rfl rfl rfl fun x2_1 T1 n1 h2 ρ its hS hdr => ?_
 refine as_ ?_
 refine dn ?_
 refine sr ?_
 refine vy (V.ld hS h2 rfl Cnf.one177) fun x4_2 h3 => ?_
 refine vy (V.ldA hS h3 rfl Cnf.agg60) fun x5_3 h4 => ?_
 refine LV.call hS h4 (g82_ok _ _ _ _ _ ) hP rfl rfl rfl rfl fun x6_4 T2 n2 h5 ρ its hS => ?_
 refine vy (V.not h5 rfl) fun x7_5 h6 => ?_
 refine as_ ?_
 refine dn ?_
 refine CV.ret ?_
 cases h6
 exact PV.ret (by simp) Tryz.results81 hS (RS.tmp rfl RS.nil) rfl
noncomputable def g107 (ro : List HT) (a0 a1 : AV) (T : HT) (nx : Nat) : R :=
 boxK 1070001 T nx a0 166 fun x2_1 T1 n1 =>
 boxK 1070002 T1 n1 a1 166 fun x3_2 T2 n2 =>
 faK 1070004 x2_1 0 fun x5_3 =>
 ldK 1070005 T2 ro x5_3 fun x6_4 =>
 faK 1070006 x3_2 0 fun x7_5 =>
 ldK 1070007 T2 ro x7_5 fun x8_6 =>
 subK Tryz.prog 3 (.tmp 6) (.tmp 8) 1070008 x6_4 x8_6 fun x9_7 =>
 .ok (.val x9_7) T2 n2
theorem g107_ok (ro : List HT) (a0 a1 : AV) (T : HT) (nx : Nat) : GOk Tryz.prog envE 107 [a0, a1] ro T nx (g107 ro a0 a1 T nx) := by
 refine GOk.of_body Tryz.func107 rfl Tryz.ntmps107 (by kernel_rfl) rfl fun r T' n' h1 w0 base ρ0 its hS hP => ?_
 have X : CtxW envE ρ0 ro r T' n' := trivial
 unfold g107 at h1
 refine sr ?_
 refine LV.box hS h1 rfl rfl rfl rfl rfl fun x2_1 T1 n1 h2 ρ its hS hdr => ?_
 refine LV.box hS h2 rfl rfl rfl rfl rfl fun x3_2 T2 n2 h3 ρ its hS hdr => ?_
 refine as_ ?_
 refine dn ?_
 refine sr ?_
 refine vy (V.fa h3 rfl Cnf.fo166_0) fun x5_3 h4 => ?_
 refine vy (V.ld hS h4 rfl Cnf.one3) fun x6_4 h5 => ?_
 refine vy (V.fa h5 rfl Cnf.fo166_0) fun x7_5 h6 => ?_
 refine vy (V.ld hS h6 rfl Cnf.one3) fun x8_6 h7 => ?_
 refine vy (V.sub h7 rfl rfl) fun x9_7 h8 => ?_
 refine as_ ?_
 refine dn ?_
 refine CV.ret ?_
 cases h8
 exact PV.ret (by simp) Tryz.results107 hS (RS.tmp rfl RS.nil) rfl
noncomputable def g141 (ro : List HT) (a0 a1 : AV) (T : HT) (nx : Nat) : R :=
 boxK 1410001 T nx a0 264 fun x2_1 T1 n1 =>
 boxK 1410002 T1 n1 a1 264 fun x3_2 T2 n2 =>
 faK 1410004 x2_1 0 fun x5_3 =>
 ldK 1410005 T2 ro x5_3 fun x6_4 =>
 faK 1410006 x3_2 0 fun x7_5 =>
 ldK 1410007 T2 ro x7_5 fun x8_6 =>
 subK Tryz.prog 3 (.tmp 6) (.tmp 8) 1410008 x6_4 x8_6 fun x9_7 =>
 .ok (.val x9_7) T2 n2
theorem g141_ok (ro : List HT) (a0 a1 : AV) (T : HT) (nx : Nat) : GOk Tryz.prog envE 141 [a0, a1] ro T nx (g141 ro a0 a1 T nx) := by
 refine GOk.of_body Tryz.func141 rfl Tryz.ntmps141 (by kernel_rfl) rfl fun r T' n' h1 w0 base ρ0 its hS hP => ?_
 have X : CtxW envE ρ0 ro r T' n' := trivial
 unfold g141 at h1
 refine sr ?_
 refine LV.box hS h1 rfl rfl rfl rfl rfl fun x2_1 T1 n1 h2 ρ its hS hdr => ?_
 refine LV.box hS h2 rfl rfl rfl rfl rfl fun x3_2 T2 n2 h3 ρ its hS hdr => ?_
 refine as_ ?_
 refine dn ?_
 refine sr ?_
 refine vy (V.fa h3 rfl Cnf.fo264_0) fun x5_3 h4 => ?_
 refine vy (V.ld hS h4 rfl Cnf.one3) fun x6_4 h5 => ?_
 refine vy (V.fa h5 rfl Cnf.fo264_0) fun x7_5 h6 => ?_
 refine vy (V.ld hS h6 rfl Cnf.one3) fun x8_6 h7 => ?_
 refine vy (V.sub h7 rfl rfl) fun x9_7 h8 => ?_
 refine as_ ?_
 refine dn ?_
 refine CV.ret ?_
 cases h8
 exact PV.ret (by simp) Tryz.results141 hS (RS.tmp rfl RS.nil) rfl
noncomputable def g149_k1 (ro : List HT) (y14 : AV) (T2 : HT) (n2 : Nat) : R :=
 .ok (.val y14) T2 n2
noncomputable def g149 (ro : List HT) (a0 a1 a2 : AV) (T : HT) (nx : Nat) : R :=
 boxK 1490001 T nx a0 172 fun x3_1 T1 n1 =>
 faK 1490003 x3_1 0 fun x5_2 =>
 ldK 1490004 T1 ro x5_2 fun x6_3 =>
 ldK 1490005 T1 ro a1 fun x7_4 =>
 eqK Tryz.prog 3 (.tmp 6) (.tmp 7) 1490006 x6_3 x7_4 fun x8_5 =>
 condK 1490009 x8_5
 (
  faK 1490010 x3_1 3 fun x10_6 =>
  ldK 1490011 T1 ro x10_6 fun x11_7 =>
  ldK 1490012 T1 ro a2 fun x12_8 =>
  eqSK Tryz.prog 9 (.tmp 11) (.tmp 12) 1490013 x11_7 x12_8 fun x13_9 =>
  g149_k1 ro x13_9 T1 n1
 )
 (
  g149_k1 ro (.lit (.bool false)) T1 n1
 )
theorem g149_ok (ro : List HT) (a0 a1 a2 : AV) (T : HT) (nx : Nat) : GOk Tryz.prog envE 149 [a0, a1, a2] ro T nx (g149 ro a0 a1 a2 T nx) := by
 refine GOk.of_body Tryz.func149 rfl Tryz.ntmps149 (by kernel_rfl) rfl fun r T' n' h1 w0 base ρ0 its hS hP => ?_
 have X : CtxW envE ρ0 ro r T' n' := trivial
 unfold g149 at h1
 refine sr ?_
 refine LV.box hS h1 rfl rfl rfl rfl rfl fun x3_1 T1 n1 h2 ρ its hS hdr => ?_
 refine as_ ?_
 refine dn ?_
 refine sr ?_
 refine vy (V.fa h2 rfl Cnf.fo172_0) fun x5_2 h3 => ?_
 refine vy (V.ld hS h3 rfl Cnf.one3) fun x6_3 h4 => ?_
 refine vy (V.ld hS h4 rfl Cnf.one3) fun x7_4 h5 => ?_
 refine vy (V.eq h5 rfl rfl) fun x8_5 h6 => ?_
 refine mv ?_
 refine ls1 X 14 [(4, (.lit (.bool false)))] (g149_k1 ro) 5 ?_ ?_
 ·
  rcases condK_inv h6 with ⟨e, h8⟩ | ⟨e, h8⟩
  ·
   clear h1 h2 h3 h4 h5 h6
   subst e
   refine vy (V.fa h8 rfl Cnf.fo172_3) fun x10_6 h9 => ?_
   refine vy (V.ld hS h9 rfl Cnf.one9) fun x11_7 h10 => ?_
   refine vy (V.ld hS h10 rfl Cnf.one9) fun x12_8 h11 => ?_
   refine vy (V.eqS h11 rfl rfl) fun x13_9 h12 => ?_
   refine pu ?_
   exact la1 hS h12 ⟨rfl, rfl, trivial⟩
  ·
   clear h1 h2 h3 h4 h5 h6
   subst e
   refine sk ?_
   refine sk ?_
   refine sk ?_
   refine sk ?_
   refine pu ?_
   exact la1 hS h8 ⟨rfl, rfl, trivial⟩
 ·
  intro y14 T2 n2 ρ its hS h7
  unfold g149_k1 at h7
  clear h1 h2 h3 h4 h5 h6
  refine as_ ?_
  refine dn ?_
  refine CV.ret ?_
  cases h7
  exact PV.ret (by simp) Tryz.results149 hS (RS.tmp rfl RS.nil) rfl
noncomputable def g222_k1 (ro : List HT) (y8 : AV) (T1 : HT) (n1 : Nat) : R :=
 .ok (.val y8) T1 n1
noncomputable def g222 (ro : List HT) (a0 : AV) (T : HT) (nx : Nat) : R :=
 geK Tryz.prog 3 (.tmp 3) (.const (.int .i64 (.ofNat 35))) 2220003 a0 (.lit (.int .i64 (.ofNat 35))) fun x4_1 =>
 condK 2220006 x4_1
 (
  leK Tryz.prog 3 (.tmp 6) (.const (.int .i64 (.ofNat 45))) 2220008 a0 (.lit (.int .i64 (.ofNat 45))) fun x7_2 =>
  g222_k1 ro x7_2 T nx
 )
 (
  g222_k1 ro (.lit (.bool false)) T nx
 )
theorem g222_ok (ro : List HT) (a0 : AV) (T : HT) (nx : Nat) : GOk Tryz.prog envE 222 [a0] ro T nx (g222 ro a0 T nx) := by
 refine GOk.of_body Tryz.func222 rfl Tryz.ntmps222 (by kernel_rfl) rfl fun r T' n' h1 w0 base ρ0 its hS hP => ?_
 have X : CtxW envE ρ0 ro r T' n' := trivial
 unfold g222 at h1
 refine sr ?_
 refine as_ ?_
 refine dn ?_
 refine sr ?_
 refine mv ?_
 refine vy (V.ge h1 rfl rfl) fun x4_1 h2 => ?_
 refine mv ?_
 refine ls1 X 8 [(2, (.lit (.bool false)))] (g222_k1 ro) 3 ?_ ?_
 ·
  rcases condK_inv h2 with ⟨e, h4⟩ | ⟨e, h4⟩
  ·
   clear h1 h2
   subst e
   refine mv ?_
   refine vy (V.le h4 rfl rfl) fun x7_2 h5 => ?_
   refine pu ?_
   exact la1 hS h5 ⟨rfl, rfl, trivial⟩
  ·
   clear h1 h2
   subst e
   refine sk ?_
   refine sk ?_
   refine pu ?_
   exact la1 hS h4 ⟨rfl, rfl, trivial⟩
 ·
  intro y8 T1 n1 ρ its hS h3
  unfold g222_k1 at h3
  clear h1 h2
  refine as_ ?_
  refine dn ?_
  refine CV.ret ?_
  cases h3
  exact PV.ret (by simp) Tryz.results222 hS (RS.tmp rfl RS.nil) rfl
noncomputable def g221 (ro : List HT) (a0 : AV) (T : HT) (nx : Nat) : R :=
 boxK 2210001 T nx a0 172 fun x1_1 T1 n1 =>
 faK 2210003 x1_1 0 fun x3_2 =>
 ldK 2210004 T1 ro x3_2 fun x4_3 =>
 callK (g222 ro x4_3 T1 n1) fun x5_4 T2 n2 =>
 .ok (.val x5_4) T2 n2
theorem g221_ok (ro : List HT) (a0 : AV) (T : HT) (nx : Nat) : GOk Tryz.prog envE 221 [a0] ro T nx (g221 ro a0 T nx) := by
 refine GOk.of_body Tryz.func221 rfl Tryz.ntmps221 (by kernel_rfl) rfl fun r T' n' h1 w0 base ρ0 its hS hP => ?_
 have X : CtxW envE ρ0 ro r T' n' := trivial
 unfold g221 at h1
 refine sr ?_
 refine LV.box hS h1 rfl rfl rfl rfl rfl fun x1_1 T1 n1 h2 ρ its hS hdr => ?_
 refine as_ ?_
 refine dn ?_
 refine sr ?_
 refine vy (V.fa h2 rfl Cnf.fo172_0) fun x3_2 h3 => ?_
 refine vy (V.ld hS h3 rfl Cnf.one3) fun x4_3 h4 => ?_
 refine LV.call hS h4 (g222_ok _ _ _ _ ) hP rfl rfl rfl rfl fun x5_4 T2 n2 h5 ρ its hS => ?_
 refine as_ ?_
 refine dn ?_
 refine CV.ret ?_
 cases h5
 exact PV.ret (by simp) Tryz.results221 hS (RS.tmp rfl RS.nil) rfl
noncomputable def g216_k3 (ro : List HT) (y16 : AV) (T3 : HT) (n3 : Nat) : R :=
 .ok (.val y16) T3 n3
noncomputable def g216_k2 (ro : List HT) (y0 y12 : AV) (T2 : HT) (n2 : Nat) : R :=
 condK 2160008 y12
 (
  neK Tryz.prog 3 (.tmp 14) (.const (.int .i64 (.ofNat 15))) 2160010 y0 (.lit (.int .i64 (.ofNat 15))) fun x15_2 =>
  g216_k3 ro x15_2 T2 n2
 )
 (
  g216_k3 ro (.lit (.bool false)) T2 n2
 )
noncomputable def g216_k1 (ro : List HT) (y0 y8 : AV) (T1 : HT) (n1 : Nat) : R :=
 condK 2160013 y8
 (
  neK Tryz.prog 3 (.tmp 10) (.const (.int .i64 (.ofNat 11))) 2160015 y0 (.lit (.int .i64 (.ofNat 11))) fun x11_3 =>
  g216_k2 ro y0 x11_3 T1 n1
 )
 (
  g216_k2 ro y0 (.lit (.bool false)) T1 n1
 )
noncomputable def g216 (ro : List HT) (a0 : AV) (T : HT) (nx : Nat) : R :=
 geK Tryz.prog 3 (.tmp 3) (.const (.int .i64 (.ofNat 1))) 2160003 a0 (.lit (.int .i64 (.ofNat 1))) fun x4_1 =>
 condK 2160018 x4_1
 (
  leK Tryz.prog 3 (.tmp 6) (.const (.int .i64 (.ofNat 34))) 2160020 a0 (.lit (.int .i64 (.ofNat 34))) fun x7_4 =>
  g216_k1 ro a0 x7_4 T nx
 )
 (
  g216_k1 ro a0 (.lit (.bool false)) T nx
 )
theorem g216_ok (ro : List HT) (a0 : AV) (T : HT) (nx : Nat) : GOk Tryz.prog envE 216 [a0] ro T nx (g216 ro a0 T nx) := by
 refine GOk.of_body Tryz.func216 rfl Tryz.ntmps216 (by kernel_rfl) rfl fun r T' n' h1 w0 base ρ0 its hS hP => ?_
 have X : CtxW envE ρ0 ro r T' n' := trivial
 unfold g216 at h1
 refine sr ?_
 refine as_ ?_
 refine dn ?_
 refine sr ?_
 refine mv ?_
 refine vy (V.ge h1 rfl rfl) fun x4_1 h2 => ?_
 refine mv ?_
 refine ls2 X 0 8 [(2, (.lit (.bool false)))] (g216_k1 ro) 3 ?_ ?_
 ·
  rcases condK_inv h2 with ⟨e, h10⟩ | ⟨e, h10⟩
  ·
   clear h1 h2
   subst e
   refine mv ?_
   refine vy (V.le h10 rfl rfl) fun x7_4 h11 => ?_
   refine pu ?_
   exact la2 hS h11 ⟨rfl, rfl, rfl, trivial⟩
  ·
   clear h1 h2
   subst e
   refine sk ?_
   refine sk ?_
   refine pu ?_
   exact la2 hS h10 ⟨rfl, rfl, rfl, trivial⟩
 ·
  intro y0 y8 T1 n1 ρ its hS h3
  unfold g216_k1 at h3
  clear h1 h2
  refine mv ?_
  refine ls2 X 0 12 [(2, (.lit (.bool false)))] (g216_k2 ro) 3 ?_ ?_
  ·
   rcases condK_inv h3 with ⟨e, h8⟩ | ⟨e, h8⟩
   ·
    clear h3
    subst e
    refine mv ?_
    refine vy (V.ne h8 rfl rfl) fun x11_3 h9 => ?_
    refine pu ?_
    exact la2 hS h9 ⟨rfl, rfl, rfl, trivial⟩
   ·
    clear h3
    subst e
    refine sk ?_
    refine sk ?_
    refine pu ?_
    exact la2 hS h8 ⟨rfl, rfl, rfl, trivial⟩
  ·
   intro y0 y12 T2 n2 ρ its hS h4
   unfold g216_k2 at h4
   clear h3
   refine mv ?_
   refine ls1 X 16 [(2, (.lit (.bool false)))] (g216_k3 ro) 3 ?_ ?_
   ·
    rcases condK_inv h4 with ⟨e, h6⟩ | ⟨e, h6⟩
    ·
     clear h4
     subst e
     refine mv ?_
     refine vy (V.ne h6 rfl rfl) fun x15_2 h7 => ?_
     refine pu ?_
     exact la1 hS h7 ⟨rfl, rfl, trivial⟩
    ·
     clear h4
     subst e
     refine sk ?_
     refine sk ?_
     refine pu ?_
     exact la1 hS h6 ⟨rfl, rfl, trivial⟩
   ·
    intro y16 T3 n3 ρ its hS h5
    unfold g216_k3 at h5
    clear h4
    refine as_ ?_
    refine dn ?_
    refine CV.ret ?_
    cases h5
    exact PV.ret (by simp) Tryz.results216 hS (RS.tmp rfl RS.nil) rfl
noncomputable def g258 (ro : List HT) (a0 : AV) (T : HT) (nx : Nat) : R :=
 boxK 2580001 T nx a0 172 fun x1_1 T1 n1 =>
 faK 2580003 x1_1 0 fun x3_2 =>
 ldK 2580004 T1 ro x3_2 fun x4_3 =>
 callK (g216 ro x4_3 T1 n1) fun x5_4 T2 n2 =>
 .ok (.val x5_4) T2 n2
theorem g258_ok (ro : List HT) (a0 : AV) (T : HT) (nx : Nat) : GOk Tryz.prog envE 258 [a0] ro T nx (g258 ro a0 T nx) := by
 refine GOk.of_body Tryz.func258 rfl Tryz.ntmps258 (by kernel_rfl) rfl fun r T' n' h1 w0 base ρ0 its hS hP => ?_
 have X : CtxW envE ρ0 ro r T' n' := trivial
 unfold g258 at h1
 refine sr ?_
 refine LV.box hS h1 rfl rfl rfl rfl rfl fun x1_1 T1 n1 h2 ρ its hS hdr => ?_
 refine as_ ?_
 refine dn ?_
 refine sr ?_
 refine vy (V.fa h2 rfl Cnf.fo172_0) fun x3_2 h3 => ?_
 refine vy (V.ld hS h3 rfl Cnf.one3) fun x4_3 h4 => ?_
 refine LV.call hS h4 (g216_ok _ _ _ _ ) hP rfl rfl rfl rfl fun x5_4 T2 n2 h5 ρ its hS => ?_
 refine as_ ?_
 refine dn ?_
 refine CV.ret ?_
 cases h5
 exact PV.ret (by simp) Tryz.results258 hS (RS.tmp rfl RS.nil) rfl
noncomputable def g156 (ro : List HT) (a0 a1 : AV) (T : HT) (nx : Nat) : R :=
 optK 1560003 (bld217 [(0, a0), (1, a1)]) fun x6_1 =>
 boxK 1560004 T nx x6_1 217 fun x7_2 T1 n1 =>
 optK 1560005 (bld207 [(0, x7_2)]) fun x8_3 =>
 panK 1560007 (.iface 207 x8_3) T1 n1
theorem g156_ok (ro : List HT) (a0 a1 : AV) (T : HT) (nx : Nat) : GOk Tryz.prog envE 156 [a0, a1] ro T nx (g156 ro a0 a1 T nx) := by
 refine GOk.of_body Tryz.func156 rfl Tryz.ntmps156 (by kernel_rfl) rfl fun r T' n' h1 w0 base ρ0 its hS hP => ?_
 have X : CtxW envE ρ0 ro r T' n' := trivial
 unfold g156 at h1
 refine CV.region ?_
 refine mv ?_
 refine mv ?_
 refine vy (V.bld h1 rfl) fun x6_1 h2 => ?_
 refine LV.box hS h2 rfl rfl rfl rfl rfl fun x7_2 T1 n1 h3 ρ its hS hdr => ?_
 refine vy (V.bld h3 rfl) fun x8_3 h4 => ?_
 refine sv (VAL.mkI rfl Cnf.ni207) ?_
 exact LV.panic hS h4 hP rfl rfl rfl
noncomputable def g116 (ro : List HT) (a0 : AV) (T : HT) (nx : Nat) : R :=
 callK (g152 ro a0 T nx) fun x3_1 T1 n1 =>
 keepK 1160004 T T1 [] <|
 callK (g156 ro x3_1 (.iface 347 (.opq 1)) T1 n1) fun x5_2 T2 n2 =>
 .ok (.val (.tup [])) T2 n2
theorem g116_ok (ro : List HT) (a0 : AV) (T : HT) (nx : Nat) : GOk Tryz.prog envE 116 [a0] ro T nx (g116 ro a0 T nx) := by
 refine GOk.of_body Tryz.func116 rfl Tryz.ntmps116 (by kernel_rfl) rfl fun r T' n' h1 w0 base ρ0 its hS hP => ?_
 have X : CtxW envE ρ0 ro r T' n' := trivial
 unfold g116 at h1
 refine CV.regionMS hS [] [(0, .anywhere), (2, .held), (1, .alone), (3, .alone)] rfl (fun c a a' w hd hq => PanicOk.root (P := Tryz.prog) (fn := Tryz.f116) (w0 := w0) (base := base) (E := envE) (ro := ro) (r := r) (T' := T') (n' := n') (ρ0 := ρ0) c a a' w hd hq) (by kernel_rfl) ?_
 have hK := KeepS.start [] hS
 have hR := hS
 have hP0 := hP
 replace hP := PK.up hR hP
 replace hS := hR.root
 refine MV.step0 (i := 0) rfl (VAL.move rfl) rfl rfl rfl ?_
 refine MV.step1 (i := 2) rfl hK (VAL.ldGQ hS (by rfl) Cnf.one36) rfl rfl rfl [] (by kernel_rfl) ?_
 refine MV.force (i := 1) rfl ?_
 refine LV.call hS h1 (g152_ok _ _ _ _ ) hP rfl rfl rfl rfl fun x3_1 T1 n1 h2 ρ its hS => ?_
 obtain ⟨hK, h3⟩ := KeepS.step hR hS h2
 refine LV.nextM [2] (by kernel_rfl) (fun _ => hK) ?_
 refine MV.force (i := 3) rfl ?_
 refine LV.call hS h3 (g156_ok _ _ _ _ _ ) hP rfl rfl rfl rfl fun x5_2 T2 n2 h4 ρ its hS => ?_
 refine LV.nextM [] (by kernel_rfl) (fun z => absurd rfl z) ?_
 replace hS := hR.up hS
 replace hP := hP0
 refine MV.done ?_
 cases h4
 exact PV.ret (by simp) Tryz.results116 hS RS.nil rfl
noncomputable def g281 (ro : List HT) (a0 : AV) (T : HT) (nx : Nat) : R :=
 ncK 2810003 a0 fun x6_1 =>
 faK 2810004 x6_1 0 fun x7_2 =>
 ldK 2810005 T ro x7_2 fun x8_3 =>
 ncK 2810007 a0 fun x10_4 =>
 faK 2810008 x10_4 1 fun x11_5 =>
 ldK 2810009 T ro x11_5 fun x12_6 =>
 iaK 2810010 x8_3 x12_6 3 fun x13_7 =>
 ldAK 2810011 T ro x13_7 3 fun x14_8 =>
 newK T nx (.obj [.lit (.int .i64 0), .lit (.string ⟨#[]⟩), .lit (.int .i64 0)] 233) fun x3_9 T1 n1 =>
 stAK 2810013 T1 x3_9 x14_8 3 fun T2 =>
 faK 2810014 x3_9 0 fun x16_10 =>
 ldK 2810015 T2 ro x16_10 fun x17_11 =>
 eqK Tryz.prog 3 (.tmp 17) (.const (.int .i64 (.ofNat 1))) 2810016 x17_11 (.lit (.int .i64 (.ofNat 1))) fun x18_12 =>
 condK 2810018 x18_12
 (
  fldK 2810020 T2 ro a0 1 fun x22_13 =>
  addK Tryz.prog 3 (.tmp 22) (.const (.int .i64 (.ofNat 1))) 2810021 x22_13 (.lit (.int .i64 (.ofNat 1))) fun x23_14 =>
  faK 2810022 a0 1 fun x25_15 =>
  stK 2810023 T2 x25_15 x23_14 fun T3 =>
  faK 2810025 x3_9 2 fun x27_16 =>
  ldK 2810026 T3 ro x27_16 fun x28_17 =>
  faK 2810027 x3_9 1 fun x29_18 =>
  ldK 2810028 T3 ro x29_18 fun x30_19 =>
  callK (g103 ro a0 (.lit (.int .i64 (.ofNat 6))) x28_17 x30_19 (.lit (.slice none 0 0)) T3 n1) fun x31_20 T4 n4 =>
  .ok (.val x31_20) T4 n4
 )
 (
  faK 2810031 x3_9 0 fun x33_21 =>
  ldK 2810032 T2 ro x33_21 fun x34_22 =>
  eqK Tryz.prog 3 (.tmp 34) (.const (.int .i64 (.ofNat 2))) 2810033 x34_22 (.lit (.int .i64 (.ofNat 2))) fun x35_23 =>
  condK 2810035 x35_23
  (
   fldK 2810037 T2 ro a0 1 fun x39_24 =>
   addK Tryz.prog 3 (.tmp 39) (.const (.int .i64 (.ofNat 1))) 2810038 x39_24 (.lit (.int .i64 (.ofNat 1))) fun x40_25 =>
   faK 2810039 a0 1 fun x42_26 =>
   stK 2810040 T2 x42_26 x40_25 fun T5 =>
   faK 2810042 x3_9 2 fun x44_27 =>
   ldK 2810043 T5 ro x44_27 fun x45_28 =>
   faK 2810044 x3_9 1 fun x46_29 =>
   ldK 2810045 T5 ro x46_29 fun x47_30 =>
   callK (g103 ro a0 (.lit (.int .i64 (.ofNat 4))) x45_28 x47_30 (.lit (.slice none 0 0)) T5 n1) fun x48_31 T6 n6 =>
   .ok (.val x48_31) T6 n6
  )
  (
   faK 2810048 x3_9 0 fun x50_32 =>
   ldK 2810049 T2 ro x50_32 fun x51_33 =>
   eqK Tryz.prog 3 (.tmp 51) (.const (.int .i64 (.ofNat 3))) 2810050 x51_33 (.lit (.int .i64 (.ofNat 3))) fun x52_34 =>
   condK 2810052 x52_34
   (
    .bad 2810053
   )
   (
    callK (g154 ro a0 (.lit (.string ⟨⟨[78, 111, 110, 101]⟩⟩)) T2 n1) fun x83_35 T7 n7 =>
    condK 2810057 x83_35
    (
     .bad 2810058
    )
    (
     callK (g154 ro a0 (.lit (.string ⟨⟨[84, 114, 117, 101]⟩⟩)) T7 n7) fun x90_36 T8 n8 =>
     condK 2810062 x90_36
     (
      .bad 2810063
     )
     (
      callK (g154 ro a0 (.lit (.string ⟨⟨[70, 97, 108, 115, 101]⟩⟩)) T8 n8) fun x97_37 T9 n9 =>
      condK 2810067 x97_37
      (
       .bad 2810068
      )
      (
       bsK 2810070 T9 n9 1 9 1 [(0, (.lit (.string ⟨⟨[40]⟩⟩)))] fun x104_38 T10 n10 =>
       callK (g134 ro a0 x104_38 T10 n10) fun x105_39 T11 n11 =>
       condK 2810073 x105_39
       (
        .bad 2810074
       )
       (
        bsK 2810076 T11 n11 1 9 1 [(0, (.lit (.string ⟨⟨[91]⟩⟩)))] fun x110_40 T12 n12 =>
        callK (g134 ro a0 x110_40 T12 n12) fun x111_41 T13 n13 =>
        condK 2810079 x111_41
        (
         .bad 2810080
        )
        (
         bsK 2810082 T13 n13 1 9 1 [(0, (.lit (.string ⟨⟨[123]⟩⟩)))] fun x116_42 T14 n14 =>
         callK (g134 ro a0 x116_42 T14 n14) fun x117_43 T15 n15 =>
         condK 2810085 x117_43
         (
          .bad 2810086
         )
         (
          callK (g116 ro a0 T15 n15) fun x121_44 T16 n16 =>
          .ok (.val (.lit (.int .i64 (.ofNat 0)))) T16 n16
         )
        )
       )
      )
     )
    )
   )
  )
 )
theorem g281_ok (ro : List HT) (a0 : AV) (T : HT) (nx : Nat) : GOk Tryz.prog envE 281 [a0] ro T nx (g281 ro a0 T nx) := by
 refine GOk.of_body Tryz.func281 rfl Tryz.ntmps281 (by kernel_rfl) rfl fun r T' n' h1 w0 base ρ0 its hS hP => ?_
 have X : CtxW envE ρ0 ro r T' n' := trivial
 unfold g281 at h1
 refine sr ?_
 refine as_ ?_
 refine dn ?_
 refine CV.seq ?_
 refine CV.regionM [(0, .anywhere), (1, .anywhere), (2, .anywhere), (3, .held), (4, .anywhere), (5, .anywhere), (6, .anywhere), (7, .held), (8, .held), (9, .held), (10, .alone), (11, .alone)] rfl (fun c a a' w hd hq => PanicOk.root (P := Tryz.prog) (fn := Tryz.f281) (w0 := w0) (base := base) (E := envE) (ro := ro) (r := r) (T' := T') (n' := n') (ρ0 := ρ0) c a a' w hd hq) (by kernel_rfl) ?_
 refine MV.step0 (i := 0) rfl (VAL.move rfl) rfl rfl rfl ?_
 refine MV.lift0 (i := 1) rfl (V.nc h1 rfl) rfl rfl rfl fun x6_1 h2 => ?_
 refine MV.lift0 (i := 2) rfl (V.fa h2 rfl Cnf.fo185_0) rfl rfl rfl fun x7_2 h3 => ?_
 refine MV.lift1 (i := 3) rfl (fun _ z => z) (V.ld hS h3 rfl Cnf.one183) rfl rfl rfl [] (by kernel_rfl) fun x8_3 h4 => ?_
 refine MV.step0 (i := 4) rfl (VAL.move rfl) rfl rfl rfl ?_
 refine MV.lift0 (i := 5) rfl (V.nc h4 rfl) rfl rfl rfl fun x10_4 h5 => ?_
 refine MV.lift0 (i := 6) rfl (V.fa h5 rfl Cnf.fo185_1) rfl rfl rfl fun x11_5 h6 => ?_
 refine MV.lift1 (i := 7) rfl (fun _ z => z) (V.ld hS h6 rfl Cnf.one3) rfl rfl rfl [3] (by kernel_rfl) fun x12_6 h7 => ?_
 refine MV.lift1 (i := 8) rfl (fun _ z => z) (V.ia h7 rfl rfl Cnf.el183) rfl rfl rfl [] (by kernel_rfl) fun x13_7 h8 => ?_
 refine MV.lift1 (i := 9) rfl (fun _ z => z) (V.ldA hS h8 rfl Cnf.agg233) rfl rfl rfl [] (by kernel_rfl) fun x14_8 h9 => ?_
 refine MV.force (i := 10) rfl ?_
 refine LV.alloc hS h9 rfl Cnf.zr233 rfl rfl rfl fun x3_9 T1 n1 h10 ρ its hS hdr => ?_
 refine LV.nextM [9] (by kernel_rfl) (fun _ => hdr) ?_
 refine MV.force (i := 11) rfl ?_
 refine LV.stA hS h10 rfl rfl rfl Cnf.agg233 rfl rfl rfl fun T2 its h11 hS => ?_
 refine LV.nextM [] (by kernel_rfl) (fun z => absurd rfl z) ?_
 refine mdn ?_
 refine CV.seq ?_
 refine CV.block ?_
 refine sr ?_
 refine vy (V.fa h11 rfl Cnf.fo233_0) fun x16_10 h12 => ?_
 refine vy (V.ld hS h12 rfl Cnf.one3) fun x17_11 h13 => ?_
 refine vy (V.eq h13 rfl rfl) fun x18_12 h14 => ?_
 refine as_ ?_
 refine dn ?_
 refine CV.cond h14 rfl (fun e h15 => ?_) (fun e h15 => ?_)
 ·
  clear h1 h2 h3 h4 h5 h6 h7 h8 h9 h10 h11 h12 h13 h14
  subst e
  refine sr ?_
  refine mv ?_
  refine fl hS h15 Cnf.fo185_1 Cnf.one3 fun x22_13 h16 => ?_
  refine vy (V.add h16 rfl rfl) fun x23_14 h17 => ?_
  refine fa2 h17 Cnf.fo185_1 fun x25_15 h18 => ?_
  refine LV.st hS h18 rfl rfl rfl Cnf.siz3 rfl rfl fun T3 its h19 hS => ?_
  refine dn ?_
  refine sr ?_
  refine mv ?_
  refine vy (V.fa h19 rfl Cnf.fo233_2) fun x27_16 h20 => ?_
  refine vy (V.ld hS h20 rfl Cnf.one3) fun x28_17 h21 => ?_
  refine vy (V.fa h21 rfl Cnf.fo233_1) fun x29_18 h22 => ?_
  refine vy (V.ld hS h22 rfl Cnf.one9) fun x30_19 h23 => ?_
  refine LV.call hS h23 (g103_ok _ _ _ _ _ _ _ _ ) hP rfl rfl rfl rfl fun x31_20 T4 n4 h24 ρ its hS => ?_
  refine as_ ?_
  refine dn ?_
  refine CV.ret ?_
  refine PV.blockR ?_
  refine PV.thenR ?_
  cases h24
  exact PV.ret (by simp) Tryz.results281 hS (RS.tmp rfl RS.nil) rfl
 ·
  clear h1 h2 h3 h4 h5 h6 h7 h8 h9 h10 h11 h12 h13 h14
  subst e
  refine sr ?_
  refine vy (V.fa h15 rfl Cnf.fo233_0) fun x33_21 h25 => ?_
  refine vy (V.ld hS h25 rfl Cnf.one3) fun x34_22 h26 => ?_
  refine vy (V.eq h26 rfl rfl) fun x35_23 h27 => ?_
  refine as_ ?_
  refine dn ?_
  refine CV.cond h27 rfl (fun e h28 => ?_) (fun e h28 => ?_)
  ·
   clear h15 h25 h26 h27
   subst e
   refine sr ?_
   refine mv ?_
   refine fl hS h28 Cnf.fo185_1 Cnf.one3 fun x39_24 h29 => ?_
   refine vy (V.add h29 rfl rfl) fun x40_25 h30 => ?_
   refine fa2 h30 Cnf.fo185_1 fun x42_26 h31 => ?_
   refine LV.st hS h31 rfl rfl rfl Cnf.siz3 rfl rfl fun T5 its h32 hS => ?_
   refine dn ?_
   refine sr ?_
   refine mv ?_
   refine vy (V.fa h32 rfl Cnf.fo233_2) fun x44_27 h33 => ?_
   refine vy (V.ld hS h33 rfl Cnf.one3) fun x45_28 h34 => ?_
   refine vy (V.fa h34 rfl Cnf.fo233_1) fun x46_29 h35 => ?_
   refine vy (V.ld hS h35 rfl Cnf.one9) fun x47_30 h36 => ?_
   refine LV.call hS h36 (g103_ok _ _ _ _ _ _ _ _ ) hP rfl rfl rfl rfl fun x48_31 T6 n6 h37 ρ its hS => ?_
   refine as_ ?_
   refine dn ?_
   refine CV.ret ?_
   refine PV.blockR ?_
   refine PV.thenR ?_
   cases h37
   exact PV.ret (by simp) Tryz.results281 hS (RS.tmp rfl RS.nil) rfl
  ·
   clear h15 h25 h26 h27
   subst e
   refine sr ?_
   refine vy (V.fa h28 rfl Cnf.fo233_0) fun x50_32 h38 => ?_
   refine vy (V.ld hS h38 rfl Cnf.one3) fun x51_33 h39 => ?_
   refine vy (V.eq h39 rfl rfl) fun x52_34 h40 => ?_
   refine as_ ?_
   refine dn ?_
   refine CV.cond h40 rfl (fun e h41 => ?_) (fun e h41 => ?_)
   ·
    clear h28 h38 h39 h40
    subst e
    cases h41
   ·
    clear h28 h38 h39 h40
    subst e
    refine sr ?_
    refine mv ?_
    refine LV.call hS h41 (g154_ok _ _ _ _ _ ) hP rfl rfl rfl rfl fun x83_35 T7 n7 h42 ρ its hS => ?_
    refine as_ ?_
    refine dn ?_
    refine CV.cond h42 rfl (fun e h43 => ?_) (fun e h43 => ?_)
    ·
     clear h41 h42
     subst e
     cases h43
    ·
     clear h41 h42
     subst e
     refine sr ?_
     refine mv ?_
     refine LV.call hS h43 (g154_ok _ _ _ _ _ ) hP rfl rfl rfl rfl fun x90_36 T8 n8 h44 ρ its hS => ?_
     refine as_ ?_
     refine dn ?_
     refine CV.cond h44 rfl (fun e h45 => ?_) (fun e h45 => ?_)
     ·
      clear h43 h44
      subst e
      cases h45
     ·
      clear h43 h44
      subst e
      refine sr ?_
      refine mv ?_
      refine LV.call hS h45 (g154_ok _ _ _ _ _ ) hP rfl rfl rfl rfl fun x97_37 T9 n9 h46 ρ its hS => ?_
      refine as_ ?_
      refine dn ?_
      refine CV.cond h46 rfl (fun e h47 => ?_) (fun e h47 => ?_)
      ·
       clear h45 h46
       subst e
       cases h47
      ·
       clear h45 h46
       subst e
       refine sr ?_
       refine mv ?_
       refine LV.bslice hS h47 rfl rfl Cnf.el54 rfl rfl rfl rfl fun x104_38 T10 n10 h48 ρ its hS hdr => ?_
       refine LV.call hS h48 (g134_ok _ _ _ _ _ ) hP rfl rfl rfl rfl fun x105_39 T11 n11 h49 ρ its hS => ?_
       refine as_ ?_
       refine dn ?_
       refine CV.cond h49 rfl (fun e h50 => ?_) (fun e h50 => ?_)
       ·
        clear h47 h48 h49
        subst e
        cases h50
       ·
        clear h47 h48 h49
        subst e
        refine sr ?_
        refine mv ?_
        refine LV.bslice hS h50 rfl rfl Cnf.el54 rfl rfl rfl rfl fun x110_40 T12 n12 h51 ρ its hS hdr => ?_
        refine LV.call hS h51 (g134_ok _ _ _ _ _ ) hP rfl rfl rfl rfl fun x111_41 T13 n13 h52 ρ its hS => ?_
        refine as_ ?_
        refine dn ?_
        refine CV.cond h52 rfl (fun e h53 => ?_) (fun e h53 => ?_)
        ·
         clear h50 h51 h52
         subst e
         cases h53
        ·
         clear h50 h51 h52
         subst e
         refine sr ?_
         refine mv ?_
         refine LV.bslice hS h53 rfl rfl Cnf.el54 rfl rfl rfl rfl fun x116_42 T14 n14 h54 ρ its hS hdr => ?_
         refine LV.call hS h54 (g134_ok _ _ _ _ _ ) hP rfl rfl rfl rfl fun x117_43 T15 n15 h55 ρ its hS => ?_
         refine as_ ?_
         refine dn ?_
         refine CV.cond h55 rfl (fun e h56 => ?_) (fun e h56 => ?_)
         ·
          clear h53 h54 h55
          subst e
          cases h56
         ·
          clear h53 h54 h55
          subst e
          refine CV.skip ?_
          refine PV.blockN ?_
          refine PV.thenN ?_
          refine sr ?_
          refine mv ?_
          refine LV.call hS h56 (g116_ok _ _ _ _ ) hP rfl rfl rfl rfl fun x121_44 T16 n16 h57 ρ its hS => ?_
          refine dn ?_
          refine sr ?_
          refine as_ ?_
          refine dn ?_
          refine CV.ret ?_
          cases h57
          exact PV.ret (by simp) Tryz.results281 hS (RS.tmp rfl RS.nil) rfl
noncomputable def g277_b1 (ro : List HT) (lp1 : AV → AV → AV → HT → Nat → R) (y0 y2 y3 : AV) (T2 : HT) (n2 : Nat) : R :=
 callK (g152 ro y0 T2 n2) fun x10_2 T3 n3 =>
 callK (g154 ro y0 (.lit (.string ⟨⟨[46]⟩⟩)) T3 n3) fun x14_3 T4 n4 =>
 condK 2770012 x14_3
 (
  .bad 2770013
 )
 (
  bsK 2770015 T4 n4 1 9 1 [(0, (.lit (.string ⟨⟨[40]⟩⟩)))] fun x28_4 T5 n5 =>
  callK (g134 ro y0 x28_4 T5 n5) fun x29_5 T6 n6 =>
  condK 2770018 x29_5
  (
   .bad 2770019
  )
  (
   bsK 2770021 T6 n6 1 9 1 [(0, (.lit (.string ⟨⟨[91]⟩⟩)))] fun x35_6 T7 n7 =>
   callK (g134 ro y0 x35_6 T7 n7) fun x36_7 T8 n8 =>
   condK 2770024 x36_7
   (
    .bad 2770025
   )
   (
    .ok (.val y3) T8 n8
   )
  )
 )
noncomputable def g277 (ro : List HT) (a0 : AV) (T : HT) (nx : Nat) : R :=
 callK (g281 ro a0 T nx) fun x8_1 T1 n1 =>
 lpf3 2770005 (g277_b1 ro) 100000 a0 (.lit (.int .i64 (.ofNat 0))) x8_1 T1 n1
theorem g277_ok (ro : List HT) (a0 : AV) (T : HT) (nx : Nat) : GOk Tryz.prog envE 277 [a0] ro T nx (g277 ro a0 T nx) := by
 refine GOk.of_body Tryz.func277 rfl Tryz.ntmps277 (by kernel_rfl) rfl fun r T' n' h1 w0 base ρ0 its hS hP => ?_
 have X : CtxW envE ρ0 ro r T' n' := trivial
 unfold g277 at h1
 refine sr ?_
 refine as_ ?_
 refine dn ?_
 refine sr ?_
 refine mv ?_
 refine LV.call hS h1 (g281_ok _ _ _ _ ) hP rfl rfl rfl rfl fun x8_1 T1 n1 h2 ρ its hS => ?_
 refine as_ ?_
 refine dn ?_
 refine CV.block ?_
 refine cl3 X 0 2 3 [] hS h2 ⟨rfl, rfl, rfl, trivial⟩ ?_
 intro f1 y0 y2 y3 T2 n2 ρ its hS h3
 unfold g277_b1 at h3
 clear h1 h2
 refine CV.block ?_
 refine sr ?_
 refine mv ?_
 refine LV.call hS h3 (g152_ok _ _ _ _ ) hP rfl rfl rfl rfl fun x10_2 T3 n3 h4 ρ its hS => ?_
 refine as_ ?_
 refine dn ?_
 refine CV.block ?_
 refine sr ?_
 refine mv ?_
 refine LV.call hS h4 (g154_ok _ _ _ _ _ ) hP rfl rfl rfl rfl fun x14_3 T4 n4 h5 ρ its hS => ?_
 refine as_ ?_
 refine dn ?_
 refine CV.cond h5 rfl (fun e h6 => ?_) (fun e h6 => ?_)
 ·
  clear h3 h4 h5
  subst e
  cases h6
 ·
  clear h3 h4 h5
  subst e
  refine sr ?_
  refine mv ?_
  refine LV.bslice hS h6 rfl rfl Cnf.el54 rfl rfl rfl rfl fun x28_4 T5 n5 h7 ρ its hS hdr => ?_
  refine LV.call hS h7 (g134_ok _ _ _ _ _ ) hP rfl rfl rfl rfl fun x29_5 T6 n6 h8 ρ its hS => ?_
  refine as_ ?_
  refine dn ?_
  refine CV.cond h8 rfl (fun e h9 => ?_) (fun e h9 => ?_)
  ·
   clear h6 h7 h8
   subst e
   cases h9
  ·
   clear h6 h7 h8
   subst e
   refine sr ?_
   refine mv ?_
   refine LV.bslice hS h9 rfl rfl Cnf.el54 rfl rfl rfl rfl fun x35_6 T7 n7 h10 ρ its hS hdr => ?_
   refine LV.call hS h10 (g134_ok _ _ _ _ _ ) hP rfl rfl rfl rfl fun x36_7 T8 n8 h11 ρ its hS => ?_
   refine as_ ?_
   refine dn ?_
   refine CV.cond h11 rfl (fun e h12 => ?_) (fun e h12 => ?_)
   ·
    clear h9 h10 h11
    subst e
    cases h12
   ·
    clear h9 h10 h11
    subst e
    refine sr ?_
    refine mv ?_
    refine as_ ?_
    refine dn ?_
    refine CV.ret ?_
    refine PV.blockR ?_
    refine PV.blockR ?_
    refine PV.thenR ?_
    refine PV.blockR ?_
    cases h12
    exact PV.ret (by simp) Tryz.results277 hS (RS.tmp rfl RS.nil) rfl
noncomputable def g290 (ih : FuncId → List HT → List AV → HT → Nat → R) (ro : List HT) (a0 : AV) (T : HT) (nx : Nat) : R :=
 bsK 2900003 T nx 1 9 1 [(0, (.lit (.string ⟨⟨[45]⟩⟩)))] fun x6_1 T1 n1 =>
 callK (g134 ro a0 x6_1 T1 n1) fun x7_2 T2 n2 =>
 notK 2900005 x7_2 fun x8_3 =>
 condK 2900006 x8_3
 (
  callK (g277 ro a0 T2 n2) fun x10_4 T3 n3 =>
  .ok (.val x10_4) T3 n3
 )
 (
  callK (g180 ro a0 (.lit (.string ⟨⟨[45]⟩⟩)) T2 n2) fun x12_5 T4 n4 =>
  callK (g179 ro a0 x12_5 T4 n4) fun x15_6 T5 n5 =>
  callK (ih 290 ro [a0] T5 n5) fun x17_7 T6 n6 =>
  fldK 2900020 T6 ro a0 3 fun x21_8 =>
  subK Tryz.prog 3 (.tmp 21) (.const (.int .i64 (.ofNat 1))) 2900021 x21_8 (.lit (.int .i64 (.ofNat 1))) fun x22_9 =>
  faK 2900022 a0 3 fun x24_10 =>
  stK 2900023 T6 x24_10 x22_9 fun T7 =>
  bsK 2900027 T7 n6 1 3 1 [(0, x17_7)] fun x28_11 T8 n8 =>
  callK (g103 ro a0 (.lit (.int .i64 (.ofNat 16))) x12_5 (.lit (.string ⟨⟨[]⟩⟩)) x28_11 T8 n8) fun x29_12 T9 n9 =>
  .ok (.val x29_12) T9 n9
 )
theorem g290_ok (ih : FuncId → List HT → List AV → HT → Nat → R) (hI : ∀ f ro args T nx, GOk Tryz.prog envE f args ro T nx (ih f ro args T nx)) (ro : List HT) (a0 : AV) (T : HT) (nx : Nat) : GOk Tryz.prog envE 290 [a0] ro T nx (g290 ih ro a0 T nx) := by
 refine GOk.of_body Tryz.func290 rfl Tryz.ntmps290 (by kernel_rfl) rfl fun r T' n' h1 w0 base ρ0 its hS hP => ?_
 have X : CtxW envE ρ0 ro r T' n' := trivial
 unfold g290 at h1
 refine sr ?_
 refine as_ ?_
 refine dn ?_
 refine CV.seq ?_
 refine sr ?_
 refine mv ?_
 refine LV.bslice hS h1 rfl rfl Cnf.el54 rfl rfl rfl rfl fun x6_1 T1 n1 h2 ρ its hS hdr => ?_
 refine LV.call hS h2 (g134_ok _ _ _ _ _ ) hP rfl rfl rfl rfl fun x7_2 T2 n2 h3 ρ its hS => ?_
 refine vy (V.not h3 rfl) fun x8_3 h4 => ?_
 refine dn ?_
 refine CV.cond h4 rfl (fun e h5 => ?_) (fun e h5 => ?_)
 ·
  clear h1 h2 h3 h4
  subst e
  refine sr ?_
  refine mv ?_
  refine LV.call hS h5 (g277_ok _ _ _ _ ) hP rfl rfl rfl rfl fun x10_4 T3 n3 h6 ρ its hS => ?_
  refine as_ ?_
  refine dn ?_
  refine CV.ret ?_
  refine PV.thenR ?_
  cases h6
  exact PV.ret (by simp) Tryz.results290 hS (RS.tmp rfl RS.nil) rfl
 ·
  clear h1 h2 h3 h4
  subst e
  refine CV.skip ?_
  refine PV.thenN ?_
  refine sr ?_
  refine mv ?_
  refine LV.call hS h5 (g180_ok _ _ _ _ _ ) hP rfl rfl rfl rfl fun x12_5 T4 n4 h7 ρ its hS => ?_
  refine as_ ?_
  refine dn ?_
  refine sr ?_
  refine mv ?_
  refine mv ?_
  refine LV.call hS h7 (g179_ok _ _ _ _ _ ) hP rfl rfl rfl rfl fun x15_6 T5 n5 h8 ρ its hS => ?_
  refine dn ?_
  refine sr ?_
  refine mv ?_
  refine LV.call hS h8 (hI _ _ _ _ _) hP rfl rfl rfl rfl fun x17_7 T6 n6 h9 ρ its hS => ?_
  refine as_ ?_
  refine dn ?_
  refine sr ?_
  refine mv ?_
  refine fl hS h9 Cnf.fo185_3 Cnf.one3 fun x21_8 h10 => ?_
  refine vy (V.sub h10 rfl rfl) fun x22_9 h11 => ?_
  refine fa2 h11 Cnf.fo185_3 fun x24_10 h12 => ?_
  refine LV.st hS h12 rfl rfl rfl Cnf.siz3 rfl rfl fun T7 its h13 hS => ?_
  refine dn ?_
  refine sr ?_
  refine mv ?_
  refine mv ?_
  refine mv ?_
  refine LV.bslice hS h13 rfl rfl Cnf.el170 rfl rfl rfl rfl fun x28_11 T8 n8 h14 ρ its hS hdr => ?_
  refine LV.call hS h14 (g103_ok _ _ _ _ _ _ _ _ ) hP rfl rfl rfl rfl fun x29_12 T9 n9 h15 ρ its hS => ?_
  refine as_ ?_
  refine dn ?_
  refine CV.ret ?_
  cases h15
  exact PV.ret (by simp) Tryz.results290 hS (RS.tmp rfl RS.nil) rfl
noncomputable def ap2 (ih : FuncId → List HT → List AV → HT → Nat → R) (f : FuncId) (ro : List HT) (args : List AV) (T : HT) (nx : Nat) : R :=
  Bool.rec (motive := fun _ => R) (.bad 2) (List.rec (motive := fun _ => R) (.bad 1) (fun a0 l0 _ => List.rec (motive := fun _ => R) (g290 ih ro a0 T nx) (fun _ _ _ => .bad 1) l0) args) (Nat.beq f 290)
noncomputable def scc2 (fuel : Nat) : FuncId → List HT → List AV → HT → Nat → R :=
  Nat.rec (motive := fun _ => FuncId → List HT → List AV → HT → Nat → R) (fun _ _ _ _ _ => .bad 3) (fun _ ih => ap2 ih) fuel
theorem ap2_ok (ih : FuncId → List HT → List AV → HT → Nat → R) (hI : ∀ f ro args T nx, GOk Tryz.prog envE f args ro T nx (ih f ro args T nx)) (f : FuncId) (ro : List HT) (args : List AV) (T : HT) (nx : Nat) : GOk Tryz.prog envE f args ro T nx (ap2 ih f ro args T nx) := by
  unfold ap2
  refine recb_go (fun hb => ?_) (fun _ => ?_)
  · obtain rfl := beqT hb
    rcases args with _ | ⟨a0, l0⟩
    · exact GOk.bad
    rcases l0 with _ | ⟨_, _⟩
    · exact g290_ok _ hI _ _ _ _ 
    · exact GOk.bad
  · exact GOk.bad
theorem scc2_ok : ∀ (fuel : Nat) (f : FuncId) (ro : List HT) (args : List AV) (T : HT) (nx : Nat), GOk Tryz.prog envE f args ro T nx (scc2 fuel f ro args T nx)
  | 0, _, _, _, _, _ => GOk.bad
  | fuel + 1, f, ro, args, T, nx => ap2_ok (scc2 fuel) (scc2_ok fuel) f ro args T nx

end Go.Proofs.YtlljgagoboapaaaGreatDoor.Cn
