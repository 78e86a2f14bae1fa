/-
  Proved here: plain functions that do what the program's functions do, each with its proof.
-/
import Derived.Test.YtdepmlcnllofiaaDoorPaf
namespace Go.Proofs.YtdepmlcnllofiaaDoor.Pa
open Go.EY Go.EX Go.SX Go.RowKit
def envE : List (Nat × AV) := [(2, (.iface 108 (.opq 0))), (1, (.iface 108 (.opq 1))), (3, (.iface 108 (.opq 2))), (4, (.iface 108 (.opq 3))), (5, (.iface 108 (.opq 4))), (6, (.iface 108 (.opq 5))), (7, (.iface 108 (.opq 6))), (0, (.iface 108 (.opq 7))), (8, (.iface 108 (.opq 8))), (9, (.iface 108 (.opq 9))), (10, (.iface 108 (.opq 10))), (11, (.iface 108 (.opq 11))), (12, (.iface 108 (.opq 12))), (13, (.iface 108 (.opq 13))), (14, (.iface 108 (.opq 14))), (15, (.iface 108 (.opq 15))), (16, (.iface 108 (.opq 16)))]
noncomputable def bld31 (ps : List (Nat × AV)) : Option AV := (placesA Tryd.prog 31).bind fun q => (fillA q.2 (q.1.map .lit) ps).map .agg
noncomputable def bld36 (ps : List (Nat × AV)) : Option AV := (placesA Tryd.prog 36).bind fun q => (fillA q.2 (q.1.map .lit) ps).map .agg
noncomputable def bld49 (ps : List (Nat × AV)) : Option AV := (placesA Tryd.prog 49).bind fun q => (fillA q.2 (q.1.map .lit) ps).map .agg
noncomputable def bld56 (ps : List (Nat × AV)) : Option AV := (placesA Tryd.prog 56).bind fun q => (fillA q.2 (q.1.map .lit) ps).map .agg
noncomputable def bld68 (ps : List (Nat × AV)) : Option AV := (placesA Tryd.prog 68).bind fun q => (fillA q.2 (q.1.map .lit) ps).map .agg
noncomputable def bld72 (ps : List (Nat × AV)) : Option AV := (placesA Tryd.prog 72).bind fun q => (fillA q.2 (q.1.map .lit) ps).map .agg
noncomputable def bld80 (ps : List (Nat × AV)) : Option AV := (placesA Tryd.prog 80).bind fun q => (fillA q.2 (q.1.map .lit) ps).map .agg
noncomputable def g21 (ro : List HT) (a0 : AV) (T : HT) (nx : Nat) : R :=
 ncK 210003 a0 fun x4_1 =>
 faK 210004 x4_1 0 fun x5_2 =>
 ldK 210005 T ro x5_2 fun x6_3 =>
 ncK 210007 a0 fun x8_4 =>
 faK 210008 x8_4 1 fun x9_5 =>
 ldK 210009 T ro x9_5 fun x10_6 =>
 iaK 210010 x6_3 x10_6 3 fun x11_7 =>
 faK 210011 x11_7 0 fun x12_8 =>
 ldK 210012 T ro x12_8 fun x13_9 =>
 .ok (.val x13_9) T nx
theorem g21_ok (ro : List HT) (a0 : AV) (T : HT) (nx : Nat) : GOk Tryd.prog envE 21 [a0] ro T nx (g21 ro a0 T nx) := by
 refine GOk.of_body Tryd.func21 rfl Tryd.ntmps21 (by kernel_rfl) rfl fun r T' n' h1 w0 base ρ0 its hS hP => ?_
 have X : CtxW envE ρ0 ro r T' n' := trivial
 unfold g21 at h1
 refine sr ?_
 refine as_ ?_
 refine dn ?_
 refine CV.seq ?_
 refine CV.regionM [(0, .anywhere), (1, .anywhere), (2, .anywhere), (3, .held), (4, .anywhere), (5, .anywhere), (6, .anywhere), (7, .held), (8, .held), (9, .held), (10, .held), (11, .held)] rfl (fun c a a' w hd hq => PanicOk.root (P := Tryd.prog) (fn := Tryd.f21) (w0 := w0) (base := base) (E := envE) (ro := ro) (r := r) (T' := T') (n' := n') (ρ0 := ρ0) c a a' w hd hq) (by kernel_rfl) ?_
 refine MV.step0 (i := 0) rfl (VAL.move rfl) rfl rfl rfl ?_
 refine MV.lift0 (i := 1) rfl (V.nc h1 rfl) rfl rfl rfl fun x4_1 h2 => ?_
 refine MV.lift0 (i := 2) rfl (V.fa h2 rfl Paf.fo49_0) rfl rfl rfl fun x5_2 h3 => ?_
 refine MV.lift1 (i := 3) rfl (fun _ z => z) (V.ld hS h3 rfl Paf.one47) rfl rfl rfl [] (by kernel_rfl) fun x6_3 h4 => ?_
 refine MV.step0 (i := 4) rfl (VAL.move rfl) rfl rfl rfl ?_
 refine MV.lift0 (i := 5) rfl (V.nc h4 rfl) rfl rfl rfl fun x8_4 h5 => ?_
 refine MV.lift0 (i := 6) rfl (V.fa h5 rfl Paf.fo49_1) rfl rfl rfl fun x9_5 h6 => ?_
 refine MV.lift1 (i := 7) rfl (fun _ z => z) (V.ld hS h6 rfl Paf.one3) rfl rfl rfl [3] (by kernel_rfl) fun x10_6 h7 => ?_
 refine MV.lift1 (i := 8) rfl (fun _ z => z) (V.ia h7 rfl rfl Paf.el47) rfl rfl rfl [] (by kernel_rfl) fun x11_7 h8 => ?_
 refine MV.lift1 (i := 9) rfl (fun _ z => z) (V.fa h8 rfl Paf.fo68_0) rfl rfl rfl [] (by kernel_rfl) fun x12_8 h9 => ?_
 refine MV.lift1 (i := 10) rfl (fun _ z => z) (V.ld hS h9 rfl Paf.one3) rfl rfl rfl [] (by kernel_rfl) fun x13_9 h10 => ?_
 refine MV.step1 (i := 11) rfl (fun _ z => z) (VAL.assign rfl) rfl rfl rfl [] (by kernel_rfl) ?_
 refine mdn ?_
 refine CV.ret ?_
 cases h10
 exact PV.ret (by simp) Tryd.results21 hS (RS.tmp rfl RS.nil) rfl
noncomputable def g41 (ro : List HT) (a0 : AV) (T : HT) (nx : Nat) : R :=
 ncK 410003 a0 fun x4_1 =>
 faK 410004 x4_1 0 fun x5_2 =>
 ldK 410005 T ro x5_2 fun x6_3 =>
 ncK 410007 a0 fun x8_4 =>
 faK 410008 x8_4 1 fun x9_5 =>
 ldK 410009 T ro x9_5 fun x10_6 =>
 iaK 410010 x6_3 x10_6 3 fun x11_7 =>
 faK 410011 x11_7 2 fun x12_8 =>
 ldK 410012 T ro x12_8 fun x13_9 =>
 .ok (.val x13_9) T nx
theorem g41_ok (ro : List HT) (a0 : AV) (T : HT) (nx : Nat) : GOk Tryd.prog envE 41 [a0] ro T nx (g41 ro a0 T nx) := by
 refine GOk.of_body Tryd.func41 rfl Tryd.ntmps41 (by kernel_rfl) rfl fun r T' n' h1 w0 base ρ0 its hS hP => ?_
 have X : CtxW envE ρ0 ro r T' n' := trivial
 unfold g41 at h1
 refine sr ?_
 refine as_ ?_
 refine dn ?_
 refine CV.seq ?_
 refine CV.regionM [(0, .anywhere), (1, .anywhere), (2, .anywhere), (3, .held), (4, .anywhere), (5, .anywhere), (6, .anywhere), (7, .held), (8, .held), (9, .held), (10, .held), (11, .held)] rfl (fun c a a' w hd hq => PanicOk.root (P := Tryd.prog) (fn := Tryd.f41) (w0 := w0) (base := base) (E := envE) (ro := ro) (r := r) (T' := T') (n' := n') (ρ0 := ρ0) c a a' w hd hq) (by kernel_rfl) ?_
 refine MV.step0 (i := 0) rfl (VAL.move rfl) rfl rfl rfl ?_
 refine MV.lift0 (i := 1) rfl (V.nc h1 rfl) rfl rfl rfl fun x4_1 h2 => ?_
 refine MV.lift0 (i := 2) rfl (V.fa h2 rfl Paf.fo49_0) rfl rfl rfl fun x5_2 h3 => ?_
 refine MV.lift1 (i := 3) rfl (fun _ z => z) (V.ld hS h3 rfl Paf.one47) rfl rfl rfl [] (by kernel_rfl) fun x6_3 h4 => ?_
 refine MV.step0 (i := 4) rfl (VAL.move rfl) rfl rfl rfl ?_
 refine MV.lift0 (i := 5) rfl (V.nc h4 rfl) rfl rfl rfl fun x8_4 h5 => ?_
 refine MV.lift0 (i := 6) rfl (V.fa h5 rfl Paf.fo49_1) rfl rfl rfl fun x9_5 h6 => ?_
 refine MV.lift1 (i := 7) rfl (fun _ z => z) (V.ld hS h6 rfl Paf.one3) rfl rfl rfl [3] (by kernel_rfl) fun x10_6 h7 => ?_
 refine MV.lift1 (i := 8) rfl (fun _ z => z) (V.ia h7 rfl rfl Paf.el47) rfl rfl rfl [] (by kernel_rfl) fun x11_7 h8 => ?_
 refine MV.lift1 (i := 9) rfl (fun _ z => z) (V.fa h8 rfl Paf.fo68_2) rfl rfl rfl [] (by kernel_rfl) fun x12_8 h9 => ?_
 refine MV.lift1 (i := 10) rfl (fun _ z => z) (V.ld hS h9 rfl Paf.one3) rfl rfl rfl [] (by kernel_rfl) fun x13_9 h10 => ?_
 refine MV.step1 (i := 11) rfl (fun _ z => z) (VAL.assign rfl) rfl rfl rfl [] (by kernel_rfl) ?_
 refine mdn ?_
 refine CV.ret ?_
 cases h10
 exact PV.ret (by simp) Tryd.results41 hS (RS.tmp rfl RS.nil) rfl
noncomputable def g45 (ro : List HT) (a0 a1 : AV) (T : HT) (nx : Nat) : R :=
 optK 450003 (bld80 [(0, a0), (1, a1)]) fun x6_1 =>
 boxK 450004 T nx x6_1 80 fun x7_2 T1 n1 =>
 optK 450005 (bld56 [(0, x7_2)]) fun x8_3 =>
 panK 450007 (.iface 56 x8_3) T1 n1
theorem g45_ok (ro : List HT) (a0 a1 : AV) (T : HT) (nx : Nat) : GOk Tryd.prog envE 45 [a0, a1] ro T nx (g45 ro a0 a1 T nx) := by
 refine GOk.of_body Tryd.func45 rfl Tryd.ntmps45 (by kernel_rfl) rfl fun r T' n' h1 w0 base ρ0 its hS hP => ?_
 have X : CtxW envE ρ0 ro r T' n' := trivial
 unfold g45 at h1
 refine CV.region ?_
 refine mv ?_
 refine mv ?_
 refine vy (V.bld h1 rfl) fun x6_1 h2 => ?_
 refine LV.box hS h2 rfl rfl rfl rfl rfl fun x7_2 T1 n1 h3 ρ its hS hdr => ?_
 refine vy (V.bld h3 rfl) fun x8_3 h4 => ?_
 refine sv (VAL.mkI rfl Paf.ni56) ?_
 exact LV.panic hS h4 hP rfl rfl rfl
noncomputable def g30 (ro : List HT) (a0 : AV) (T : HT) (nx : Nat) : R :=
 callK (g41 ro a0 T nx) fun x3_1 T1 n1 =>
 keepK 300004 T T1 [] <|
 callK (g45 ro x3_1 (.iface 108 (.opq 1)) T1 n1) fun x5_2 T2 n2 =>
 .ok (.val (.tup [])) T2 n2
theorem g30_ok (ro : List HT) (a0 : AV) (T : HT) (nx : Nat) : GOk Tryd.prog envE 30 [a0] ro T nx (g30 ro a0 T nx) := by
 refine GOk.of_body Tryd.func30 rfl Tryd.ntmps30 (by kernel_rfl) rfl fun r T' n' h1 w0 base ρ0 its hS hP => ?_
 have X : CtxW envE ρ0 ro r T' n' := trivial
 unfold g30 at h1
 refine CV.regionMS hS [] [(0, .anywhere), (2, .held), (1, .alone), (3, .alone)] rfl (fun c a a' w hd hq => PanicOk.root (P := Tryd.prog) (fn := Tryd.f30) (w0 := w0) (base := base) (E := envE) (ro := ro) (r := r) (T' := T') (n' := n') (ρ0 := ρ0) c a a' w hd hq) (by kernel_rfl) ?_
 have hK := KeepS.start [] hS
 have hR := hS
 have hP0 := hP
 replace hP := PK.up hR hP
 replace hS := hR.root
 refine MV.step0 (i := 0) rfl (VAL.move rfl) rfl rfl rfl ?_
 refine MV.step1 (i := 2) rfl hK (VAL.ldGQ hS (by rfl) Paf.one25) rfl rfl rfl [] (by kernel_rfl) ?_
 refine MV.force (i := 1) rfl ?_
 refine LV.call hS h1 (g41_ok _ _ _ _ ) hP rfl rfl rfl rfl fun x3_1 T1 n1 h2 ρ its hS => ?_
 obtain ⟨hK, h3⟩ := KeepS.step hR hS h2
 refine LV.nextM [2] (by kernel_rfl) (fun _ => hK) ?_
 refine MV.force (i := 3) rfl ?_
 refine LV.call hS h3 (g45_ok _ _ _ _ _ ) hP rfl rfl rfl rfl fun x5_2 T2 n2 h4 ρ its hS => ?_
 refine LV.nextM [] (by kernel_rfl) (fun z => absurd rfl z) ?_
 replace hS := hR.up hS
 replace hP := hP0
 refine MV.done ?_
 cases h4
 exact PV.ret (by simp) Tryd.results30 hS RS.nil rfl
noncomputable def g22_k2 (ro : List HT) (y4 y5 y6 : AV) (T4 : HT) (n4 : Nat) : R :=
 faK 220015 y6 1 fun x32_10 =>
 ldK 220016 T4 ro x32_10 fun x33_11 =>
 faK 220017 y6 2 fun x34_12 =>
 ldK 220018 T4 ro x34_12 fun x35_13 =>
 .ok (.val (.tup [x33_11, x35_13])) T4 n4
noncomputable def g22_k1 (ro : List HT) (y0 y1 y4 y5 : AV) (T1 : HT) (n1 : Nat) : R :=
 ncK 220004 y0 fun x14_1 =>
 faK 220005 x14_1 0 fun x15_2 =>
 ldK 220006 T1 ro x15_2 fun x16_3 =>
 ncK 220008 y0 fun x18_4 =>
 faK 220009 x18_4 1 fun x19_5 =>
 ldK 220010 T1 ro x19_5 fun x20_6 =>
 iaK 220011 x16_3 x20_6 3 fun x21_7 =>
 ldAK 220012 T1 ro x21_7 3 fun x22_8 =>
 newK T1 n1 (.obj [.lit (.int .i64 0), .lit (.string ⟨#[]⟩), .lit (.int .i64 0)] 68) fun x6_9 T2 n2 =>
 stAK 220014 T2 x6_9 x22_8 3 fun T3 =>
 neK Tryd.prog 3 (.tmp 23) (.const (.int .i64 (.ofNat 8))) 220022 y1 (.lit (.int .i64 (.ofNat 8))) fun x24_14 =>
 condK 220023 x24_14
 (
  ncK 220025 y0 fun x26_15 =>
  faK 220026 x26_15 1 fun x27_16 =>
  ldK 220027 T3 ro x27_16 fun x28_17 =>
  addK Tryd.prog 3 (.tmp 28) (.const (.int .i64 (.ofNat 1))) 220028 x28_17 (.lit (.int .i64 (.ofNat 1))) fun x29_18 =>
  ncK 220029 y0 fun x30_19 =>
  faK 220030 x30_19 1 fun x31_20 =>
  stK 220031 T3 x31_20 x29_18 fun T5 =>
  g22_k2 ro y4 y5 x6_9 T5 n2
 )
 (
  g22_k2 ro y4 y5 x6_9 T3 n2
 )
noncomputable def g22 (ro : List HT) (a0 a1 : AV) (T : HT) (nx : Nat) : R :=
 callK (g21 ro a0 T nx) fun x8_21 T6 n6 =>
 neK Tryd.prog 3 (.tmp 8) (.tmp 9) 220035 x8_21 a1 fun x10_22 =>
 condK 220036 x10_22
 (
  callK (g30 ro a0 T6 n6) fun x12_23 T7 n7 =>
  g22_k1 ro a0 a1 (.lit (.string ⟨⟨[]⟩⟩)) (.lit (.int .i64 (.ofNat 0))) T7 n7
 )
 (
  g22_k1 ro a0 a1 (.lit (.string ⟨⟨[]⟩⟩)) (.lit (.int .i64 (.ofNat 0))) T6 n6
 )
theorem g22_ok (ro : List HT) (a0 a1 : AV) (T : HT) (nx : Nat) : GOk Tryd.prog envE 22 [a0, a1] ro T nx (g22 ro a0 a1 T nx) := by
 refine GOk.of_body Tryd.func22 rfl Tryd.ntmps22 (by kernel_rfl) rfl fun r T' n' h1 w0 base ρ0 its hS hP => ?_
 have X : CtxW envE ρ0 ro r T' n' := trivial
 unfold g22 at h1
 refine sr ?_
 refine as_ ?_
 refine as_ ?_
 refine dn ?_
 refine cs4 X 0 1 4 5 [] (g22_k1 ro) ?_ ?_
 ·
  refine sr ?_
  refine mv ?_
  refine LV.call hS h1 (g21_ok _ _ _ _ ) hP rfl rfl rfl rfl fun x8_21 T6 n6 h27 ρ its hS => ?_
  refine mv ?_
  refine vy (V.ne h27 rfl rfl) fun x10_22 h28 => ?_
  refine dn ?_
  refine CV.cond h28 rfl (fun e h29 => ?_) (fun e h29 => ?_)
  ·
   clear h1 h27 h28
   subst e
   refine CV.region ?_
   refine mv ?_
   refine LV.call hS h29 (g30_ok _ _ _ _ ) hP rfl rfl rfl rfl fun x12_23 T7 n7 h30 ρ its hS => ?_
   refine LV.done ?_
   exact pa4 hS h30 ⟨rfl, rfl, rfl, rfl, trivial⟩
  ·
   clear h1 h27 h28
   subst e
   refine CV.skip ?_
   exact pa4 hS h29 ⟨rfl, rfl, rfl, rfl, trivial⟩
 ·
  intro y0 y1 y4 y5 T1 n1 ρ its hS h2
  unfold g22_k1 at h2
  clear h1
  refine CV.seq ?_
  refine CV.regionM [(0, .anywhere), (1, .anywhere), (2, .anywhere), (3, .held), (4, .anywhere), (5, .anywhere), (6, .anywhere), (7, .held), (8, .held), (9, .held), (10, .alone), (11, .alone)] rfl (fun c a a' w hd hq => PanicOk.root (P := Tryd.prog) (fn := Tryd.f22) (w0 := w0) (base := base) (E := envE) (ro := ro) (r := r) (T' := T') (n' := n') (ρ0 := ρ0) c a a' w hd hq) (by kernel_rfl) ?_
  refine MV.step0 (i := 0) rfl (VAL.move rfl) rfl rfl rfl ?_
  refine MV.lift0 (i := 1) rfl (V.nc h2 rfl) rfl rfl rfl fun x14_1 h3 => ?_
  refine MV.lift0 (i := 2) rfl (V.fa h3 rfl Paf.fo49_0) rfl rfl rfl fun x15_2 h4 => ?_
  refine MV.lift1 (i := 3) rfl (fun _ z => z) (V.ld hS h4 rfl Paf.one47) rfl rfl rfl [] (by kernel_rfl) fun x16_3 h5 => ?_
  refine MV.step0 (i := 4) rfl (VAL.move rfl) rfl rfl rfl ?_
  refine MV.lift0 (i := 5) rfl (V.nc h5 rfl) rfl rfl rfl fun x18_4 h6 => ?_
  refine MV.lift0 (i := 6) rfl (V.fa h6 rfl Paf.fo49_1) rfl rfl rfl fun x19_5 h7 => ?_
  refine MV.lift1 (i := 7) rfl (fun _ z => z) (V.ld hS h7 rfl Paf.one3) rfl rfl rfl [3] (by kernel_rfl) fun x20_6 h8 => ?_
  refine MV.lift1 (i := 8) rfl (fun _ z => z) (V.ia h8 rfl rfl Paf.el47) rfl rfl rfl [] (by kernel_rfl) fun x21_7 h9 => ?_
  refine MV.lift1 (i := 9) rfl (fun _ z => z) (V.ldA hS h9 rfl Paf.agg68) rfl rfl rfl [] (by kernel_rfl) fun x22_8 h10 => ?_
  refine MV.force (i := 10) rfl ?_
  refine LV.alloc hS h10 rfl Paf.zr68 rfl rfl rfl fun x6_9 T2 n2 h11 ρ its hS hdr => ?_
  refine LV.nextM [9] (by kernel_rfl) (fun _ => hdr) ?_
  refine MV.force (i := 11) rfl ?_
  refine LV.stA hS h11 rfl rfl rfl Paf.agg68 rfl rfl rfl fun T3 its h12 hS => ?_
  refine LV.nextM [] (by kernel_rfl) (fun z => absurd rfl z) ?_
  refine mdn ?_
  refine cs3 X 4 5 6 [] (g22_k2 ro) ?_ ?_
  ·
   refine sr ?_
   refine mv ?_
   refine vy (V.ne h12 rfl rfl) fun x24_14 h18 => ?_
   refine dn ?_
   refine CV.cond h18 rfl (fun e h19 => ?_) (fun e h19 => ?_)
   ·
    clear h2 h3 h4 h5 h6 h7 h8 h9 h10 h11 h12 h18
    subst e
    refine CV.region ?_
    refine mv ?_
    refine vy (V.nc h19 rfl) fun x26_15 h20 => ?_
    refine vy (V.fa h20 rfl Paf.fo49_1) fun x27_16 h21 => ?_
    refine vy (V.ld hS h21 rfl Paf.one3) fun x28_17 h22 => ?_
    refine vy (V.add h22 rfl rfl) fun x29_18 h23 => ?_
    refine vy (V.nc h23 rfl) fun x30_19 h24 => ?_
    refine vy (V.fa h24 rfl Paf.fo49_1) fun x31_20 h25 => ?_
    refine LV.st hS h25 rfl rfl rfl Paf.siz3 rfl rfl fun T5 its h26 hS => ?_
    refine LV.done ?_
    exact pa3 hS h26 ⟨rfl, rfl, rfl, trivial⟩
   ·
    clear h2 h3 h4 h5 h6 h7 h8 h9 h10 h11 h12 h18
    subst e
    refine CV.skip ?_
    exact pa3 hS h19 ⟨rfl, rfl, rfl, trivial⟩
  ·
   intro y4 y5 y6 T4 n4 ρ its hS h13
   unfold g22_k2 at h13
   clear h2 h3 h4 h5 h6 h7 h8 h9 h10 h11 h12
   refine CV.seq ?_
   refine CV.regionM [(0, .anywhere), (1, .held), (2, .anywhere), (3, .held), (4, .held), (5, .held)] rfl (fun c a a' w hd hq => PanicOk.root (P := Tryd.prog) (fn := Tryd.f22) (w0 := w0) (base := base) (E := envE) (ro := ro) (r := r) (T' := T') (n' := n') (ρ0 := ρ0) c a a' w hd hq) (by kernel_rfl) ?_
   refine MV.lift0 (i := 0) rfl (V.fa h13 rfl Paf.fo68_1) rfl rfl rfl fun x32_10 h14 => ?_
   refine MV.lift1 (i := 1) rfl (fun _ z => z) (V.ld hS h14 rfl Paf.one9) rfl rfl rfl [] (by kernel_rfl) fun x33_11 h15 => ?_
   refine MV.lift0 (i := 2) rfl (V.fa h15 rfl Paf.fo68_2) rfl rfl rfl fun x34_12 h16 => ?_
   refine MV.lift1 (i := 3) rfl (fun _ z => z) (V.ld hS h16 rfl Paf.one3) rfl rfl rfl [1] (by kernel_rfl) fun x35_13 h17 => ?_
   refine MV.step1 (i := 4) rfl (fun _ z => z) (VAL.assign rfl) rfl rfl rfl [3] (by kernel_rfl) ?_
   refine MV.step1 (i := 5) rfl (fun _ z => z) (VAL.assign rfl) rfl rfl rfl [] (by kernel_rfl) ?_
   refine mdn ?_
   refine CV.ret ?_
   cases h17
   exact PV.ret (by simp) Tryd.results22 hS (RS.tmp rfl (RS.tmp rfl RS.nil)) rfl
noncomputable def g73_b1 (ro : List HT) (lp1 : AV → AV → AV → AV → AV → HT → Nat → R) (y0 y1 y4 y7 y8 : AV) (T1 : HT) (n1 : Nat) : R :=
 ltK Tryd.prog 3 (.tmp 8) (.tmp 7) 730006 y8 y7 fun x9_2 =>
 condK 730007 x9_2
 (
  iaK 730013 y0 y8 1 fun x14_3 =>
  ldK 730014 T1 ro x14_3 fun x15_4 =>
  eqSK Tryd.prog 9 (.tmp 11) (.tmp 15) 730015 y1 x15_4 fun x16_5 =>
  condK 730016 x16_5
  (
   .ok (.val y8) T1 n1
  )
  (
   addK Tryd.prog 3 (.tmp 8) (.const (.int .i64 (.ofNat 1))) 730019 y8 (.lit (.int .i64 (.ofNat 1))) fun x18_6 =>
   lp1 y0 y1 y4 y7 x18_6 T1 n1
  )
 )
 (
  .ok (.val (.lit (.int .i64 (.negSucc 0)))) T1 n1
 )
noncomputable def g73 (ro : List HT) (a0 a1 : AV) (T : HT) (nx : Nat) : R :=
 lenSK 730003 a0 fun x7_1 =>
 lpf5 730005 (g73_b1 ro) 100000 a0 a1 (.lit (.int .i64 (.ofNat 0))) x7_1 (.lit (.int .i64 (.ofNat 0))) T nx
theorem g73_ok (ro : List HT) (a0 a1 : AV) (T : HT) (nx : Nat) : GOk Tryd.prog envE 73 [a0, a1] ro T nx (g73 ro a0 a1 T nx) := by
 refine GOk.of_body Tryd.func73 rfl Tryd.ntmps73 (by kernel_rfl) rfl fun r T' n' h1 w0 base ρ0 its hS hP => ?_
 have X : CtxW envE ρ0 ro r T' n' := trivial
 unfold g73 at h1
 refine sr ?_
 refine as_ ?_
 refine dn ?_
 refine CV.seq ?_
 refine sr ?_
 refine mv ?_
 refine vy (V.lenS h1 rfl Paf.ls33) fun x7_1 h2 => ?_
 refine mv ?_
 refine dn ?_
 refine CV.block ?_
 refine cl5 X 0 1 4 7 8 [] hS h2 ⟨rfl, rfl, rfl, rfl, rfl, trivial⟩ ?_
 intro f1 y0 y1 y4 y7 y8 T1 n1 ρ its hS h3
 unfold g73_b1 at h3
 clear h1 h2
 refine sr ?_
 refine vy (V.lt h3 rfl rfl) fun x9_2 h4 => ?_
 refine dn ?_
 refine CV.seq ?_
 refine CV.cond h4 rfl (fun e h5 => ?_) (fun e h5 => ?_)
 ·
  clear h3 h4
  subst e
  refine CV.skip ?_
  refine PV.thenN ?_
  refine CV.seq ?_
  refine CV.block ?_
  refine sr ?_
  refine mv ?_
  refine as_ ?_
  refine dn ?_
  refine sr ?_
  refine mv ?_
  refine mv ?_
  refine mv ?_
  refine vy (V.ia h5 rfl rfl Paf.el33) fun x14_3 h6 => ?_
  refine vy (V.ld hS h6 rfl Paf.one9) fun x15_4 h7 => ?_
  refine vy (V.eqS h7 rfl rfl) fun x16_5 h8 => ?_
  refine dn ?_
  refine CV.cond h8 rfl (fun e h9 => ?_) (fun e h9 => ?_)
  ·
   clear h5 h6 h7 h8
   subst e
   refine sr ?_
   refine mv ?_
   refine as_ ?_
   refine dn ?_
   refine CV.ret ?_
   refine PV.blockR ?_
   refine PV.thenR ?_
   refine PV.thenR ?_
   refine PV.blockR ?_
   refine PV.thenR ?_
   cases h9
   exact PV.ret (by simp) Tryd.results73 hS (RS.tmp rfl RS.nil) rfl
  ·
   clear h5 h6 h7 h8
   subst e
   refine CV.skip ?_
   refine PV.blockN ?_
   refine PV.thenN ?_
   refine CV.region ?_
   refine vy (V.add h9 rfl rfl) fun x18_6 h10 => ?_
   refine mv ?_
   refine LV.done ?_
   exact pb5 hS h10 ⟨rfl, rfl, rfl, rfl, rfl, trivial⟩
 ·
  clear h3 h4
  subst e
  refine CV.exit ?_
  refine PV.thenE ?_
  refine PV.thenE ?_
  refine PV.blockE ?_
  refine PV.thenN ?_
  refine sr ?_
  refine as_ ?_
  refine dn ?_
  refine CV.ret ?_
  cases h5
  exact PV.ret (by simp) Tryd.results73 hS (RS.tmp rfl RS.nil) rfl
noncomputable def g54 (ro : List HT) (a0 a1 : AV) (T : HT) (nx : Nat) : R :=
 callK (g73 ro a0 a1 T nx) fun x7_1 T1 n1 =>
 geK Tryd.prog 3 (.tmp 7) (.const (.int .i64 (.ofNat 0))) 540005 x7_1 (.lit (.int .i64 (.ofNat 0))) fun x8_2 =>
 .ok (.val x8_2) T1 n1
theorem g54_ok (ro : List HT) (a0 a1 : AV) (T : HT) (nx : Nat) : GOk Tryd.prog envE 54 [a0, a1] ro T nx (g54 ro a0 a1 T nx) := by
 refine GOk.of_body Tryd.func54 rfl Tryd.ntmps54 (by kernel_rfl) rfl fun r T' n' h1 w0 base ρ0 its hS hP => ?_
 have X : CtxW envE ρ0 ro r T' n' := trivial
 unfold g54 at h1
 refine sr ?_
 refine as_ ?_
 refine dn ?_
 refine sr ?_
 refine mv ?_
 refine mv ?_
 refine LV.call hS h1 (g73_ok _ _ _ _ _ ) hP rfl rfl rfl rfl fun x7_1 T1 n1 h2 ρ its hS => ?_
 refine vy (V.ge h2 rfl rfl) fun x8_2 h3 => ?_
 refine as_ ?_
 refine dn ?_
 refine CV.ret ?_
 cases h3
 exact PV.ret (by simp) Tryd.results54 hS (RS.tmp rfl RS.nil) rfl
noncomputable def g35 (ro : List HT) (a0 a1 : AV) (T : HT) (nx : Nat) : R :=
 callQ 350003 (g21 (T :: ro) a0 .nil nx) fun x6_1 =>
 eqK Tryd.prog 3 (.tmp 6) (.const (.int .i64 (.ofNat 4))) 350004 x6_1 (.lit (.int .i64 (.ofNat 4))) fun x7_2 =>
 condK 350006 x7_2
 (
  ncK 350009 a0 fun x11_3 =>
  faK 350010 x11_3 0 fun x12_4 =>
  ldK 350011 T ro x12_4 fun x13_5 =>
  ncK 350013 a0 fun x15_6 =>
  faK 350014 x15_6 1 fun x16_7 =>
  ldK 350015 T ro x16_7 fun x17_8 =>
  iaK 350016 x13_5 x17_8 3 fun x18_9 =>
  faK 350017 x18_9 1 fun x19_10 =>
  ldK 350018 T ro x19_10 fun x20_11 =>
  callQ 350019 (g54 (T :: ro) a1 x20_11 .nil nx) fun x21_12 =>
  .ok (.val x21_12) T nx
 )
 (
  .ok (.val (.lit (.bool false))) T nx
 )
theorem g35_ok (ro : List HT) (a0 a1 : AV) (T : HT) (nx : Nat) : GOk Tryd.prog envE 35 [a0, a1] ro T nx (g35 ro a0 a1 T nx) := by
 refine GOk.of_body Tryd.func35 rfl Tryd.ntmps35 (by kernel_rfl) rfl fun r T' n' h1 w0 base ρ0 its hS hP => ?_
 have X : CtxW envE ρ0 ro r T' n' := trivial
 unfold g35 at h1
 refine sr ?_
 refine as_ ?_
 refine dn ?_
 refine CV.seq ?_
 refine CV.regionM [(0, .anywhere), (1, .alone), (2, .anywhere), (3, .anywhere), (4, .anywhere), (5, .anywhere), (6, .anywhere), (7, .anywhere), (8, .held), (9, .anywhere), (10, .anywhere), (11, .anywhere), (12, .held), (13, .held), (14, .held), (15, .held), (16, .alone), (17, .anywhere), (18, .anywhere)] rfl (fun c a a' w hd hq => PanicOk.root (P := Tryd.prog) (fn := Tryd.f35) (w0 := w0) (base := base) (E := envE) (ro := ro) (r := r) (T' := T') (n' := n') (ρ0 := ρ0) c a a' w hd hq) (by kernel_rfl) ?_
 refine MV.step0 (i := 0) rfl (VAL.move rfl) rfl rfl rfl ?_
 refine MV.force (i := 1) rfl ?_
 refine LV.callQ hS h1 (g21_ok _ _ _ _ ) rfl rfl rfl rfl fun x6_1 h2 => ?_
 refine LV.nextM [] (by kernel_rfl) (fun z => absurd rfl z) ?_
 refine MV.lift0 (i := 2) rfl (V.eq h2 rfl rfl) rfl rfl rfl fun x7_2 h3 => ?_
 refine MV.step0 (i := 3) rfl (VAL.move rfl) rfl rfl rfl ?_
 rcases condK_inv h3 with ⟨e, h4⟩ | ⟨e, h4⟩
 ·
  clear h1 h2 h3
  subst e
  refine MV.step0 (i := 4) rfl (VAL.move rfl) rfl rfl rfl ?_
  refine MV.step0 (i := 5) rfl (VAL.move rfl) rfl rfl rfl ?_
  refine MV.lift0 (i := 6) rfl (V.nc h4 rfl) rfl rfl rfl fun x11_3 h5 => ?_
  refine MV.lift0 (i := 7) rfl (V.fa h5 rfl Paf.fo49_0) rfl rfl rfl fun x12_4 h6 => ?_
  refine MV.lift1 (i := 8) rfl (fun _ z => z) (V.ld hS h6 rfl Paf.one47) rfl rfl rfl [] (by kernel_rfl) fun x13_5 h7 => ?_
  refine MV.step0 (i := 9) rfl (VAL.move rfl) rfl rfl rfl ?_
  refine MV.lift0 (i := 10) rfl (V.nc h7 rfl) rfl rfl rfl fun x15_6 h8 => ?_
  refine MV.lift0 (i := 11) rfl (V.fa h8 rfl Paf.fo49_1) rfl rfl rfl fun x16_7 h9 => ?_
  refine MV.lift1 (i := 12) rfl (fun _ z => z) (V.ld hS h9 rfl Paf.one3) rfl rfl rfl [8] (by kernel_rfl) fun x17_8 h10 => ?_
  refine MV.lift1 (i := 13) rfl (fun _ z => z) (V.ia h10 rfl rfl Paf.el47) rfl rfl rfl [] (by kernel_rfl) fun x18_9 h11 => ?_
  refine MV.lift1 (i := 14) rfl (fun _ z => z) (V.fa h11 rfl Paf.fo68_1) rfl rfl rfl [] (by kernel_rfl) fun x19_10 h12 => ?_
  refine MV.lift1 (i := 15) rfl (fun _ z => z) (V.ld hS h12 rfl Paf.one9) rfl rfl rfl [] (by kernel_rfl) fun x20_11 h13 => ?_
  refine MV.force (i := 16) rfl ?_
  refine LV.callQ hS h13 (g54_ok _ _ _ _ _ ) rfl rfl rfl rfl fun x21_12 h14 => ?_
  refine LV.nextM [] (by kernel_rfl) (fun z => absurd rfl z) ?_
  refine MV.step0 (i := 17) rfl (VAL.pure rfl) rfl rfl rfl ?_
  refine MV.step0 (i := 18) rfl (VAL.assign rfl) rfl rfl rfl ?_
  refine mdn ?_
  refine CV.ret ?_
  cases h14
  exact PV.ret (by simp) Tryd.results35 hS (RS.tmp rfl RS.nil) rfl
 ·
  clear h1 h2 h3
  subst e
  refine MV.skip0 (i := 4) rfl rfl rfl rfl ?_
  refine MV.skip0 (i := 5) rfl rfl rfl rfl ?_
  refine MV.skip0 (i := 6) rfl rfl rfl rfl ?_
  refine MV.skip0 (i := 7) rfl rfl rfl rfl ?_
  refine MV.skip1 (i := 8) rfl (fun _ z => z) rfl rfl rfl [] (by kernel_rfl) ?_
  refine MV.skip0 (i := 9) rfl rfl rfl rfl ?_
  refine MV.skip0 (i := 10) rfl rfl rfl rfl ?_
  refine MV.skip0 (i := 11) rfl rfl rfl rfl ?_
  refine MV.skip1 (i := 12) rfl (fun _ z => z) rfl rfl rfl [8] (by kernel_rfl) ?_
  refine MV.skip1 (i := 13) rfl (fun _ z => z) rfl rfl rfl [] (by kernel_rfl) ?_
  refine MV.skip1 (i := 14) rfl (fun _ z => z) rfl rfl rfl [] (by kernel_rfl) ?_
  refine MV.skip1 (i := 15) rfl (fun _ z => z) rfl rfl rfl [] (by kernel_rfl) ?_
  refine MV.force (i := 16) rfl ?_
  refine sk ?_
  refine LV.nextM [] (by kernel_rfl) (fun z => absurd rfl z) ?_
  refine MV.step0 (i := 17) rfl (VAL.pure rfl) rfl rfl rfl ?_
  refine MV.step0 (i := 18) rfl (VAL.assign rfl) rfl rfl rfl ?_
  refine mdn ?_
  refine CV.ret ?_
  cases h4
  exact PV.ret (by simp) Tryd.results35 hS (RS.tmp rfl RS.nil) rfl
noncomputable def g26 (ro : List HT) (a0 a1 a2 a3 a4 : AV) (T : HT) (nx : Nat) : R :=
 ncK 260004 a0 fun x13_1 =>
 faK 260005 x13_1 2 fun x14_2 =>
 ldK 260006 T ro x14_2 fun x15_3 =>
 optK 260011 (bld31 [(0, a1), (2, a2), (3, a3), (4, a4)]) fun x20_4 =>
 bsK 260012 T nx 1 31 5 [(0, x20_4)] fun x21_5 T1 n1 =>
 appK 260013 T1 ro n1 31 5 64 x15_3 x21_5 fun x22_6 T2 n2 =>
 ncK 260014 a0 fun x23_7 =>
 faK 260015 x23_7 2 fun x24_8 =>
 stK 260016 T2 x24_8 x22_6 fun T3 =>
 ncK 260018 a0 fun x26_9 =>
 faK 260019 x26_9 2 fun x27_10 =>
 ldK 260020 T3 ro x27_10 fun x28_11 =>
 lenSK 260021 x28_11 fun x29_12 =>
 subK Tryd.prog 3 (.tmp 29) (.const (.int .i64 (.ofNat 1))) 260022 x29_12 (.lit (.int .i64 (.ofNat 1))) fun x30_13 =>
 .ok (.val x30_13) T3 n2
theorem g26_ok (ro : List HT) (a0 a1 a2 a3 a4 : AV) (T : HT) (nx : Nat) : GOk Tryd.prog envE 26 [a0, a1, a2, a3, a4] ro T nx (g26 ro a0 a1 a2 a3 a4 T nx) := by
 refine GOk.of_body Tryd.func26 rfl Tryd.ntmps26 (by kernel_rfl) rfl fun r T' n' h1 w0 base ρ0 its hS hP => ?_
 have X : CtxW envE ρ0 ro r T' n' := trivial
 unfold g26 at h1
 refine sr ?_
 refine as_ ?_
 refine dn ?_
 refine sr ?_
 refine mv ?_
 refine mv ?_
 refine vy (V.nc h1 rfl) fun x13_1 h2 => ?_
 refine vy (V.fa h2 rfl Paf.fo49_2) fun x14_2 h3 => ?_
 refine vy (V.ld hS h3 rfl Paf.one23) fun x15_3 h4 => ?_
 refine mv ?_
 refine mv ?_
 refine mv ?_
 refine mv ?_
 refine vy (V.bld h4 rfl) fun x20_4 h5 => ?_
 refine LV.bslice hS h5 rfl rfl Paf.el23 rfl rfl rfl rfl fun x21_5 T1 n1 h6 ρ its hS hdr => ?_
 refine LV.app hS h6 rfl rfl rfl rfl Paf.el23 rfl rfl rfl fun x22_6 T2 n2 h7 ρ its hS => ?_
 refine vy (V.nc h7 rfl) fun x23_7 h8 => ?_
 refine vy (V.fa h8 rfl Paf.fo49_2) fun x24_8 h9 => ?_
 refine LV.st hS h9 rfl rfl rfl Paf.siz23 rfl rfl fun T3 its h10 hS => ?_
 refine dn ?_
 refine sr ?_
 refine mv ?_
 refine vy (V.nc h10 rfl) fun x26_9 h11 => ?_
 refine vy (V.fa h11 rfl Paf.fo49_2) fun x27_10 h12 => ?_
 refine vy (V.ld hS h12 rfl Paf.one23) fun x28_11 h13 => ?_
 refine vy (V.lenS h13 rfl Paf.ls23) fun x29_12 h14 => ?_
 refine vy (V.sub h14 rfl rfl) fun x30_13 h15 => ?_
 refine as_ ?_
 refine dn ?_
 refine CV.ret ?_
 cases h15
 exact PV.ret (by simp) Tryd.results26 hS (RS.tmp rfl RS.nil) rfl
noncomputable def g56_k1 (ro : List HT) (y0 : AV) (T1 : HT) (n1 : Nat) : R :=
 ncK 560002 y0 fun x13_1 =>
 faK 560003 x13_1 3 fun x14_2 =>
 ldK 560004 T1 ro x14_2 fun x15_3 =>
 addK Tryd.prog 3 (.tmp 15) (.const (.int .i64 (.ofNat 1))) 560005 x15_3 (.lit (.int .i64 (.ofNat 1))) fun x16_4 =>
 ncK 560006 y0 fun x17_5 =>
 faK 560007 x17_5 3 fun x18_6 =>
 stK 560008 T1 x18_6 x16_4 fun T2 =>
 .ok (.val (.tup [])) T2 n1
noncomputable def g56 (ro : List HT) (a0 a1 : AV) (T : HT) (nx : Nat) : R :=
 ncK 560010 a0 fun x5_7 =>
 faK 560011 x5_7 3 fun x6_8 =>
 ldK 560012 T ro x6_8 fun x7_9 =>
 geK Tryd.prog 3 (.tmp 7) (.const (.int .i64 (.ofNat 60))) 560013 x7_9 (.lit (.int .i64 (.ofNat 60))) fun x8_10 =>
 condK 560014 x8_10
 (
  callK (g45 ro a1 (.iface 108 (.opq 7)) T nx) fun x11_11 T3 n3 =>
  g56_k1 ro a0 T3 n3
 )
 (
  g56_k1 ro a0 T nx
 )
theorem g56_ok (ro : List HT) (a0 a1 : AV) (T : HT) (nx : Nat) : GOk Tryd.prog envE 56 [a0, a1] ro T nx (g56 ro a0 a1 T nx) := by
 refine GOk.of_body Tryd.func56 rfl Tryd.ntmps56 (by kernel_rfl) rfl fun r T' n' h1 w0 base ρ0 its hS hP => ?_
 have X : CtxW envE ρ0 ro r T' n' := trivial
 unfold g56 at h1
 refine cs1 X 0 [] (g56_k1 ro) ?_ ?_
 ·
  refine sr ?_
  refine mv ?_
  refine vy (V.nc h1 rfl) fun x5_7 h10 => ?_
  refine vy (V.fa h10 rfl Paf.fo49_3) fun x6_8 h11 => ?_
  refine vy (V.ld hS h11 rfl Paf.one3) fun x7_9 h12 => ?_
  refine vy (V.ge h12 rfl rfl) fun x8_10 h13 => ?_
  refine dn ?_
  refine CV.cond h13 rfl (fun e h14 => ?_) (fun e h14 => ?_)
  ·
   clear h1 h10 h11 h12 h13
   subst e
   refine CV.region ?_
   refine mv ?_
   refine sv (VAL.ldG hS (by rfl) Paf.one25) ?_
   refine LV.call hS h14 (g45_ok _ _ _ _ _ ) hP rfl rfl rfl rfl fun x11_11 T3 n3 h15 ρ its hS => ?_
   refine LV.done ?_
   exact pa1 hS h15 ⟨rfl, trivial⟩
  ·
   clear h1 h10 h11 h12 h13
   subst e
   refine CV.skip ?_
   exact pa1 hS h14 ⟨rfl, trivial⟩
 ·
  intro y0 T1 n1 ρ its hS h2
  unfold g56_k1 at h2
  clear h1
  refine CV.region ?_
  refine mv ?_
  refine vy (V.nc h2 rfl) fun x13_1 h3 => ?_
  refine vy (V.fa h3 rfl Paf.fo49_3) fun x14_2 h4 => ?_
  refine vy (V.ld hS h4 rfl Paf.one3) fun x15_3 h5 => ?_
  refine vy (V.add h5 rfl rfl) fun x16_4 h6 => ?_
  refine vy (V.nc h6 rfl) fun x17_5 h7 => ?_
  refine vy (V.fa h7 rfl Paf.fo49_3) fun x18_6 h8 => ?_
  refine LV.st hS h8 rfl rfl rfl Paf.siz3 rfl rfl fun T2 its h9 hS => ?_
  refine LV.done ?_
  cases h9
  exact PV.ret (by simp) Tryd.results56 hS RS.nil rfl
noncomputable def g43 (ro : List HT) (a0 a1 : AV) (T : HT) (nx : Nat) : R :=
 bsK 430004 T nx 1 9 1 [(0, a1)] fun x7_1 T1 n1 =>
 callK (g35 ro a0 x7_1 T1 n1) fun x8_2 T2 n2 =>
 notK 430006 x8_2 fun x9_3 =>
 condK 430007 x9_3
 (
  .ok (.val (.lit (.bool false))) T2 n2
 )
 (
  ncK 430010 a0 fun x11_4 =>
  faK 430011 x11_4 1 fun x12_5 =>
  ldK 430012 T2 ro x12_5 fun x13_6 =>
  addK Tryd.prog 3 (.tmp 13) (.const (.int .i64 (.ofNat 1))) 430013 x13_6 (.lit (.int .i64 (.ofNat 1))) fun x14_7 =>
  ncK 430014 a0 fun x15_8 =>
  faK 430015 x15_8 1 fun x16_9 =>
  stK 430016 T2 x16_9 x14_7 fun T3 =>
  .ok (.val (.lit (.bool true))) T3 n2
 )
theorem g43_ok (ro : List HT) (a0 a1 : AV) (T : HT) (nx : Nat) : GOk Tryd.prog envE 43 [a0, a1] ro T nx (g43 ro a0 a1 T nx) := by
 refine GOk.of_body Tryd.func43 rfl Tryd.ntmps43 (by kernel_rfl) rfl fun r T' n' h1 w0 base ρ0 its hS hP => ?_
 have X : CtxW envE ρ0 ro r T' n' := trivial
 unfold g43 at h1
 refine sr ?_
 refine as_ ?_
 refine dn ?_
 refine CV.seq ?_
 refine sr ?_
 refine mv ?_
 refine mv ?_
 refine LV.bslice hS h1 rfl rfl Paf.el33 rfl rfl rfl rfl fun x7_1 T1 n1 h2 ρ its hS hdr => ?_
 refine LV.call hS h2 (g35_ok _ _ _ _ _ ) hP rfl rfl rfl rfl fun x8_2 T2 n2 h3 ρ its hS => ?_
 refine vy (V.not h3 rfl) fun x9_3 h4 => ?_
 refine dn ?_
 refine CV.cond h4 rfl (fun e h5 => ?_) (fun e h5 => ?_)
 ·
  clear h1 h2 h3 h4
  subst e
  refine sr ?_
  refine as_ ?_
  refine dn ?_
  refine CV.ret ?_
  refine PV.thenR ?_
  cases h5
  exact PV.ret (by simp) Tryd.results43 hS (RS.tmp rfl RS.nil) rfl
 ·
  clear h1 h2 h3 h4
  subst e
  refine CV.skip ?_
  refine PV.thenN ?_
  refine sr ?_
  refine mv ?_
  refine vy (V.nc h5 rfl) fun x11_4 h6 => ?_
  refine vy (V.fa h6 rfl Paf.fo49_1) fun x12_5 h7 => ?_
  refine vy (V.ld hS h7 rfl Paf.one3) fun x13_6 h8 => ?_
  refine vy (V.add h8 rfl rfl) fun x14_7 h9 => ?_
  refine vy (V.nc h9 rfl) fun x15_8 h10 => ?_
  refine vy (V.fa h10 rfl Paf.fo49_1) fun x16_9 h11 => ?_
  refine LV.st hS h11 rfl rfl rfl Paf.siz3 rfl rfl fun T3 its h12 hS => ?_
  refine dn ?_
  refine sr ?_
  refine as_ ?_
  refine dn ?_
  refine CV.ret ?_
  cases h12
  exact PV.ret (by simp) Tryd.results43 hS (RS.tmp rfl RS.nil) rfl
noncomputable def g57_k1 (ro : List HT) (y4 y5 : AV) (T2 : HT) (n2 : Nat) : R :=
 .ok (.val y5) T2 n2
noncomputable def g57 (ro : List HT) (a0 a1 : AV) (T : HT) (nx : Nat) : R :=
 callK (g41 ro a0 T nx) fun x7_1 T1 n1 =>
 callK (g43 ro a0 a1 T1 n1) fun x10_2 T3 n3 =>
 notK 570010 x10_2 fun x11_3 =>
 condK 570011 x11_3
 (
  callK (g30 ro a0 T3 n3) fun x13_4 T4 n4 =>
  g57_k1 ro (.lit (.int .i64 (.ofNat 0))) x7_1 T4 n4
 )
 (
  g57_k1 ro (.lit (.int .i64 (.ofNat 0))) x7_1 T3 n3
 )
theorem g57_ok (ro : List HT) (a0 a1 : AV) (T : HT) (nx : Nat) : GOk Tryd.prog envE 57 [a0, a1] ro T nx (g57 ro a0 a1 T nx) := by
 refine GOk.of_body Tryd.func57 rfl Tryd.ntmps57 (by kernel_rfl) rfl fun r T' n' h1 w0 base ρ0 its hS hP => ?_
 have X : CtxW envE ρ0 ro r T' n' := trivial
 unfold g57 at h1
 refine sr ?_
 refine as_ ?_
 refine dn ?_
 refine sr ?_
 refine mv ?_
 refine LV.call hS h1 (g41_ok _ _ _ _ ) hP rfl rfl rfl rfl fun x7_1 T1 n1 h2 ρ its hS => ?_
 refine as_ ?_
 refine dn ?_
 refine cs2 X 4 5 [] (g57_k1 ro) ?_ ?_
 ·
  refine sr ?_
  refine mv ?_
  refine mv ?_
  refine LV.call hS h2 (g43_ok _ _ _ _ _ ) hP rfl rfl rfl rfl fun x10_2 T3 n3 h4 ρ its hS => ?_
  refine vy (V.not h4 rfl) fun x11_3 h5 => ?_
  refine dn ?_
  refine CV.cond h5 rfl (fun e h6 => ?_) (fun e h6 => ?_)
  ·
   clear h1 h2 h4 h5
   subst e
   refine CV.region ?_
   refine mv ?_
   refine LV.call hS h6 (g30_ok _ _ _ _ ) hP rfl rfl rfl rfl fun x13_4 T4 n4 h7 ρ its hS => ?_
   refine LV.done ?_
   exact pa2 hS h7 ⟨rfl, rfl, trivial⟩
  ·
   clear h1 h2 h4 h5
   subst e
   refine CV.skip ?_
   exact pa2 hS h6 ⟨rfl, rfl, trivial⟩
 ·
  intro y4 y5 T2 n2 ρ its hS h3
  unfold g57_k1 at h3
  clear h1 h2
  refine sr ?_
  refine mv ?_
  refine as_ ?_
  refine dn ?_
  refine CV.ret ?_
  cases h3
  exact PV.ret (by simp) Tryd.results57 hS (RS.tmp rfl RS.nil) rfl
noncomputable def g89 (ro : List HT) (T : HT) (nx : Nat) : R :=
 bsK 890003 T nx 14 9 1 [(0, (.lit (.string ⟨⟨[111, 114]⟩⟩))), (1, (.lit (.string ⟨⟨[97, 110, 100]⟩⟩))), (2, (.lit (.string ⟨⟨[61, 61]⟩⟩))), (3, (.lit (.string ⟨⟨[33, 61]⟩⟩))), (4, (.lit (.string ⟨⟨[60]⟩⟩))), (5, (.lit (.string ⟨⟨[60, 61]⟩⟩))), (6, (.lit (.string ⟨⟨[62]⟩⟩))), (7, (.lit (.string ⟨⟨[62, 61]⟩⟩))), (8, (.lit (.string ⟨⟨[105, 110]⟩⟩))), (9, (.lit (.string ⟨⟨[43]⟩⟩))), (10, (.lit (.string ⟨⟨[45]⟩⟩))), (11, (.lit (.string ⟨⟨[42]⟩⟩))), (12, (.lit (.string ⟨⟨[47, 47]⟩⟩))), (13, (.lit (.string ⟨⟨[37]⟩⟩)))] fun x2_1 T1 n1 =>
 bsK 890004 T1 n1 14 3 1 [(0, (.lit (.int .i64 (.ofNat 19)))), (1, (.lit (.int .i64 (.ofNat 18)))), (2, (.lit (.int .i64 (.ofNat 26)))), (3, (.lit (.int .i64 (.ofNat 27)))), (4, (.lit (.int .i64 (.ofNat 28)))), (5, (.lit (.int .i64 (.ofNat 29)))), (6, (.lit (.int .i64 (.ofNat 30)))), (7, (.lit (.int .i64 (.ofNat 31)))), (8, (.lit (.int .i64 (.ofNat 32)))), (9, (.lit (.int .i64 (.ofNat 21)))), (10, (.lit (.int .i64 (.ofNat 22)))), (11, (.lit (.int .i64 (.ofNat 23)))), (12, (.lit (.int .i64 (.ofNat 24)))), (13, (.lit (.int .i64 (.ofNat 25))))] fun x3_2 T2 n2 =>
 .ok (.val (.tup [x2_1, x3_2])) T2 n2
theorem g89_ok (ro : List HT) (T : HT) (nx : Nat) : GOk Tryd.prog envE 89 [] ro T nx (g89 ro T nx) := by
 refine GOk.of_body Tryd.func89 rfl Tryd.ntmps89 (by kernel_rfl) rfl fun r T' n' h1 w0 base ρ0 its hS hP => ?_
 have X : CtxW envE ρ0 ro r T' n' := trivial
 unfold g89 at h1
 refine sr ?_
 refine as_ ?_
 refine as_ ?_
 refine dn ?_
 refine sr ?_
 refine LV.bslice hS h1 rfl rfl Paf.el33 rfl rfl rfl rfl fun x2_1 T1 n1 h2 ρ its hS hdr => ?_
 refine LV.bslice hS h2 rfl rfl Paf.el29 rfl rfl rfl rfl fun x3_2 T2 n2 h3 ρ its hS hdr => ?_
 refine as_ ?_
 refine as_ ?_
 refine dn ?_
 refine CV.ret ?_
 cases h3
 exact PV.ret (by simp) Tryd.results89 hS (RS.tmp rfl (RS.tmp rfl RS.nil)) rfl
noncomputable def g84 (ro : List HT) (a0 : AV) (T : HT) (nx : Nat) : R :=
 callK (g89 ro T nx) fun x6_1 T1 n1 =>
 exK 840004 x6_1 0 fun x7_2 =>
 exK 840005 x6_1 1 fun x8_3 =>
 callK (g73 ro x7_2 a0 T1 n1) fun x12_4 T2 n2 =>
 iaK 840012 x8_3 x12_4 1 fun x13_5 =>
 ldK 840013 T2 ro x13_5 fun x14_6 =>
 .ok (.val x14_6) T2 n2
theorem g84_ok (ro : List HT) (a0 : AV) (T : HT) (nx : Nat) : GOk Tryd.prog envE 84 [a0] ro T nx (g84 ro a0 T nx) := by
 refine GOk.of_body Tryd.func84 rfl Tryd.ntmps84 (by kernel_rfl) rfl fun r T' n' h1 w0 base ρ0 its hS hP => ?_
 have X : CtxW envE ρ0 ro r T' n' := trivial
 unfold g84 at h1
 refine sr ?_
 refine as_ ?_
 refine dn ?_
 refine sr ?_
 refine LV.call hS h1 (g89_ok _ _ _ ) hP rfl rfl rfl rfl fun x6_1 T1 n1 h2 ρ its hS => ?_
 refine mv ?_
 refine vy (V.ex h2 rfl) fun x7_2 h3 => ?_
 refine vy (V.ex h3 rfl) fun x8_3 h4 => ?_
 refine as_ ?_
 refine as_ ?_
 refine dn ?_
 refine sr ?_
 refine mv ?_
 refine mv ?_
 refine mv ?_
 refine LV.call hS h4 (g73_ok _ _ _ _ _ ) hP rfl rfl rfl rfl fun x12_4 T2 n2 h5 ρ its hS => ?_
 refine vy (V.ia h5 rfl rfl Paf.el29) fun x13_5 h6 => ?_
 refine vy (V.ld hS h6 rfl Paf.one3) fun x14_6 h7 => ?_
 refine as_ ?_
 refine dn ?_
 refine CV.ret ?_
 cases h7
 exact PV.ret (by simp) Tryd.results84 hS (RS.tmp rfl RS.nil) rfl
noncomputable def g44_k2 (ro : List HT) (y15 : AV) (T3 : HT) (n3 : Nat) : R :=
 .ok (.val y15) T3 n3
noncomputable def g44_k1 (ro : List HT) (y0 y10 : AV) (T2 : HT) (n2 : Nat) : R :=
 condK 440008 y10
 (
  g44_k2 ro (.lit (.bool true)) T2 n2
 )
 (
  bsK 440011 T2 n2 6 9 1 [(0, (.lit (.string ⟨⟨[41]⟩⟩))), (1, (.lit (.string ⟨⟨[93]⟩⟩))), (2, (.lit (.string ⟨⟨[125]⟩⟩))), (3, (.lit (.string ⟨⟨[61]⟩⟩))), (4, (.lit (.string ⟨⟨[43, 61]⟩⟩))), (5, (.lit (.string ⟨⟨[58]⟩⟩)))] fun x13_3 T4 n4 =>
  callK (g35 ro y0 x13_3 T4 n4) fun x14_4 T5 n5 =>
  g44_k2 ro x14_4 T5 n5
 )
noncomputable def g44 (ro : List HT) (a0 : AV) (T : HT) (nx : Nat) : R :=
 callK (g21 ro a0 T nx) fun x4_1 T1 n1 =>
 eqK Tryd.prog 3 (.tmp 4) (.const (.int .i64 (.ofNat 5))) 440004 x4_1 (.lit (.int .i64 (.ofNat 5))) fun x5_2 =>
 condK 440014 x5_2
 (
  g44_k1 ro a0 (.lit (.bool true)) T1 n1
 )
 (
  callK (g21 ro a0 T1 n1) fun x8_5 T6 n6 =>
  eqK Tryd.prog 3 (.tmp 8) (.const (.int .i64 (.ofNat 8))) 440018 x8_5 (.lit (.int .i64 (.ofNat 8))) fun x9_6 =>
  g44_k1 ro a0 x9_6 T6 n6
 )
theorem g44_ok (ro : List HT) (a0 : AV) (T : HT) (nx : Nat) : GOk Tryd.prog envE 44 [a0] ro T nx (g44 ro a0 T nx) := by
 refine GOk.of_body Tryd.func44 rfl Tryd.ntmps44 (by kernel_rfl) rfl fun r T' n' h1 w0 base ρ0 its hS hP => ?_
 have X : CtxW envE ρ0 ro r T' n' := trivial
 unfold g44 at h1
 refine sr ?_
 refine as_ ?_
 refine dn ?_
 refine sr ?_
 refine mv ?_
 refine LV.call hS h1 (g21_ok _ _ _ _ ) hP rfl rfl rfl rfl fun x4_1 T1 n1 h2 ρ its hS => ?_
 refine vy (V.eq h2 rfl rfl) fun x5_2 h3 => ?_
 refine mv ?_
 refine ls2 X 0 10 [(2, (.lit (.bool false)))] (g44_k1 ro) 4 ?_ ?_
 ·
  rcases condK_inv h3 with ⟨e, h9⟩ | ⟨e, h9⟩
  ·
   clear h1 h2 h3
   subst e
   refine sk ?_
   refine sk ?_
   refine sk ?_
   refine pu ?_
   exact la2 hS h9 ⟨rfl, rfl, rfl, trivial⟩
  ·
   clear h1 h2 h3
   subst e
   refine mv ?_
   refine LV.call hS h9 (g21_ok _ _ _ _ ) hP rfl rfl rfl rfl fun x8_5 T6 n6 h10 ρ its hS => ?_
   refine vy (V.eq h10 rfl rfl) fun x9_6 h11 => ?_
   refine pu ?_
   exact la2 hS h11 ⟨rfl, rfl, rfl, trivial⟩
 ·
  intro y0 y10 T2 n2 ρ its hS h4
  unfold g44_k1 at h4
  clear h1 h2 h3
  refine mv ?_
  refine ls1 X 15 [(2, (.lit (.bool false)))] (g44_k2 ro) 4 ?_ ?_
  ·
   rcases condK_inv h4 with ⟨e, h6⟩ | ⟨e, h6⟩
   ·
    clear h4
    subst e
    refine sk ?_
    refine sk ?_
    refine sk ?_
    refine pu ?_
    exact la1 hS h6 ⟨rfl, rfl, trivial⟩
   ·
    clear h4
    subst e
    refine mv ?_
    refine LV.bslice hS h6 rfl rfl Paf.el33 rfl rfl rfl rfl fun x13_3 T4 n4 h7 ρ its hS hdr => ?_
    refine LV.call hS h7 (g35_ok _ _ _ _ _ ) hP rfl rfl rfl rfl fun x14_4 T5 n5 h8 ρ its hS => ?_
    refine pu ?_
    exact la1 hS h8 ⟨rfl, rfl, trivial⟩
  ·
   intro y15 T3 n3 ρ its hS h5
   unfold g44_k2 at h5
   clear h4
   refine as_ ?_
   refine dn ?_
   refine CV.ret ?_
   cases h5
   exact PV.ret (by simp) Tryd.results44 hS (RS.tmp rfl RS.nil) rfl
noncomputable def g48_k3 (ro : List HT) (y20 : AV) (T3 : HT) (n3 : Nat) : R :=
 .ok (.val y20) T3 n3
noncomputable def g48_k2 (ro : List HT) (y0 y16 : AV) (T2 : HT) (n2 : Nat) : R :=
 condK 480008 y16
 (
  g48_k3 ro (.lit (.bool true)) T2 n2
 )
 (
  eqK Tryd.prog 5 (.tmp 18) (.const (.int .u8 (.ofNat 95))) 480011 y0 (.lit (.int .u8 (.ofNat 95))) fun x19_2 =>
  g48_k3 ro x19_2 T2 n2
 )
noncomputable def g48_k4 (ro : List HT) (y0 y15 : AV) (T4 : HT) (n4 : Nat) : R :=
 g48_k2 ro y0 y15 T4 n4
noncomputable def g48_k1 (ro : List HT) (y0 y8 : AV) (T1 : HT) (n1 : Nat) : R :=
 condK 480013 y8
 (
  g48_k2 ro y0 (.lit (.bool true)) T1 n1
 )
 (
  geK Tryd.prog 5 (.tmp 10) (.const (.int .u8 (.ofNat 65))) 480016 y0 (.lit (.int .u8 (.ofNat 65))) fun x11_3 =>
  condK 480019 x11_3
  (
   leK Tryd.prog 5 (.tmp 13) (.const (.int .u8 (.ofNat 90))) 480021 y0 (.lit (.int .u8 (.ofNat 90))) fun x14_4 =>
   g48_k4 ro y0 x14_4 T1 n1
  )
  (
   g48_k4 ro y0 (.lit (.bool false)) T1 n1
  )
 )
noncomputable def g48 (ro : List HT) (a0 : AV) (T : HT) (nx : Nat) : R :=
 geK Tryd.prog 5 (.tmp 3) (.const (.int .u8 (.ofNat 97))) 480003 a0 (.lit (.int .u8 (.ofNat 97))) fun x4_1 =>
 condK 480024 x4_1
 (
  leK Tryd.prog 5 (.tmp 6) (.const (.int .u8 (.ofNat 122))) 480026 a0 (.lit (.int .u8 (.ofNat 122))) fun x7_5 =>
  g48_k1 ro a0 x7_5 T nx
 )
 (
  g48_k1 ro a0 (.lit (.bool false)) T nx
 )
theorem g48_ok (ro : List HT) (a0 : AV) (T : HT) (nx : Nat) : GOk Tryd.prog envE 48 [a0] ro T nx (g48 ro a0 T nx) := by
 refine GOk.of_body Tryd.func48 rfl Tryd.ntmps48 (by kernel_rfl) rfl fun r T' n' h1 w0 base ρ0 its hS hP => ?_
 have X : CtxW envE ρ0 ro r T' n' := trivial
 unfold g48 at h1
 refine sr ?_
 refine as_ ?_
 refine dn ?_
 refine sr ?_
 refine mv ?_
 refine vy (V.ge h1 rfl rfl) fun x4_1 h2 => ?_
 refine mv ?_
 refine ls2 X 0 8 [(2, (.lit (.bool false)))] (g48_k1 ro) 3 ?_ ?_
 ·
  rcases condK_inv h2 with ⟨e, h13⟩ | ⟨e, h13⟩
  ·
   clear h1 h2
   subst e
   refine mv ?_
   refine vy (V.le h13 rfl rfl) fun x7_5 h14 => ?_
   refine pu ?_
   exact la2 hS h14 ⟨rfl, rfl, rfl, trivial⟩
  ·
   clear h1 h2
   subst e
   refine sk ?_
   refine sk ?_
   refine pu ?_
   exact la2 hS h13 ⟨rfl, rfl, rfl, trivial⟩
 ·
  intro y0 y8 T1 n1 ρ its hS h3
  unfold g48_k1 at h3
  clear h1 h2
  refine mv ?_
  refine ls2 X 0 16 [(2, (.lit (.bool false)))] (g48_k2 ro) 7 ?_ ?_
  ·
   rcases condK_inv h3 with ⟨e, h8⟩ | ⟨e, h8⟩
   ·
    clear h3
    subst e
    refine sk ?_
    refine sk ?_
    refine sk ?_
    refine sk ?_
    refine sk ?_
    refine sk ?_
    refine pu ?_
    exact la2 hS h8 ⟨rfl, rfl, rfl, trivial⟩
   ·
    clear h3
    subst e
    refine mv ?_
    refine vy (V.ge h8 rfl rfl) fun x11_3 h9 => ?_
    refine mv ?_
    refine ls2 X 0 15 [(2, (.lit (.bool false))), (9, (.lit (.bool false)))] (g48_k4 ro) 3 ?_ ?_
    ·
     rcases condK_inv h9 with ⟨e, h11⟩ | ⟨e, h11⟩
     ·
      clear h8 h9
      subst e
      refine mv ?_
      refine vy (V.le h11 rfl rfl) fun x14_4 h12 => ?_
      refine pu ?_
      exact la2 hS h12 ⟨rfl, rfl, rfl, rfl, trivial⟩
     ·
      clear h8 h9
      subst e
      refine sk ?_
      refine sk ?_
      refine pu ?_
      exact la2 hS h11 ⟨rfl, rfl, rfl, rfl, trivial⟩
    ·
     intro y0 y15 T4 n4 ρ its hS h10
     unfold g48_k4 at h10
     clear h8 h9
     refine pu ?_
     exact la2 hS h10 ⟨rfl, rfl, rfl, trivial⟩
  ·
   intro y0 y16 T2 n2 ρ its hS h4
   unfold g48_k2 at h4
   clear h3
   refine mv ?_
   refine ls1 X 20 [(2, (.lit (.bool false)))] (g48_k3 ro) 3 ?_ ?_
   ·
    rcases condK_inv h4 with ⟨e, h6⟩ | ⟨e, h6⟩
    ·
     clear h4
     subst e
     refine sk ?_
     refine sk ?_
     refine pu ?_
     exact la1 hS h6 ⟨rfl, rfl, trivial⟩
    ·
     clear h4
     subst e
     refine mv ?_
     refine vy (V.eq h6 rfl rfl) fun x19_2 h7 => ?_
     refine pu ?_
     exact la1 hS h7 ⟨rfl, rfl, trivial⟩
   ·
    intro y20 T3 n3 ρ its hS h5
    unfold g48_k3 at h5
    clear h4
    refine as_ ?_
    refine dn ?_
    refine CV.ret ?_
    cases h5
    exact PV.ret (by simp) Tryd.results48 hS (RS.tmp rfl RS.nil) rfl
noncomputable def g50_k1 (ro : List HT) (y8 : AV) (T1 : HT) (n1 : Nat) : R :=
 .ok (.val y8) T1 n1
noncomputable def g50 (ro : List HT) (a0 : AV) (T : HT) (nx : Nat) : R :=
 geK Tryd.prog 5 (.tmp 3) (.const (.int .u8 (.ofNat 48))) 500003 a0 (.lit (.int .u8 (.ofNat 48))) fun x4_1 =>
 condK 500006 x4_1
 (
  leK Tryd.prog 5 (.tmp 6) (.const (.int .u8 (.ofNat 57))) 500008 a0 (.lit (.int .u8 (.ofNat 57))) fun x7_2 =>
  g50_k1 ro x7_2 T nx
 )
 (
  g50_k1 ro (.lit (.bool false)) T nx
 )
theorem g50_ok (ro : List HT) (a0 : AV) (T : HT) (nx : Nat) : GOk Tryd.prog envE 50 [a0] ro T nx (g50 ro a0 T nx) := by
 refine GOk.of_body Tryd.func50 rfl Tryd.ntmps50 (by kernel_rfl) rfl fun r T' n' h1 w0 base ρ0 its hS hP => ?_
 have X : CtxW envE ρ0 ro r T' n' := trivial
 unfold g50 at h1
 refine sr ?_
 refine as_ ?_
 refine dn ?_
 refine sr ?_
 refine mv ?_
 refine vy (V.ge h1 rfl rfl) fun x4_1 h2 => ?_
 refine mv ?_
 refine ls1 X 8 [(2, (.lit (.bool false)))] (g50_k1 ro) 3 ?_ ?_
 ·
  rcases condK_inv h2 with ⟨e, h4⟩ | ⟨e, h4⟩
  ·
   clear h1 h2
   subst e
   refine mv ?_
   refine vy (V.le h4 rfl rfl) fun x7_2 h5 => ?_
   refine pu ?_
   exact la1 hS h5 ⟨rfl, rfl, trivial⟩
  ·
   clear h1 h2
   subst e
   refine sk ?_
   refine sk ?_
   refine pu ?_
   exact la1 hS h4 ⟨rfl, rfl, trivial⟩
 ·
  intro y8 T1 n1 ρ its hS h3
  unfold g50_k1 at h3
  clear h1 h2
  refine as_ ?_
  refine dn ?_
  refine CV.ret ?_
  cases h3
  exact PV.ret (by simp) Tryd.results50 hS (RS.tmp rfl RS.nil) rfl
noncomputable def g68 (ro : List HT) (T : HT) (nx : Nat) : R :=
 bsK 680002 T nx 17 9 1 [(0, (.lit (.string ⟨⟨[70, 97, 108, 115, 101]⟩⟩))), (1, (.lit (.string ⟨⟨[78, 111, 110, 101]⟩⟩))), (2, (.lit (.string ⟨⟨[84, 114, 117, 101]⟩⟩))), (3, (.lit (.string ⟨⟨[97, 110, 100]⟩⟩))), (4, (.lit (.string ⟨⟨[98, 114, 101, 97, 107]⟩⟩))), (5, (.lit (.string ⟨⟨[99, 111, 110, 116, 105, 110, 117, 101]⟩⟩))), (6, (.lit (.string ⟨⟨[100, 101, 102]⟩⟩))), (7, (.lit (.string ⟨⟨[101, 108, 105, 102]⟩⟩))), (8, (.lit (.string ⟨⟨[101, 108, 115, 101]⟩⟩))), (9, (.lit (.string ⟨⟨[102, 111, 114]⟩⟩))), (10, (.lit (.string ⟨⟨[105, 102]⟩⟩))), (11, (.lit (.string ⟨⟨[105, 110]⟩⟩))), (12, (.lit (.string ⟨⟨[108, 111, 97, 100]⟩⟩))), (13, (.lit (.string ⟨⟨[110, 111, 116]⟩⟩))), (14, (.lit (.string ⟨⟨[111, 114]⟩⟩))), (15, (.lit (.string ⟨⟨[112, 97, 115, 115]⟩⟩))), (16, (.lit (.string ⟨⟨[114, 101, 116, 117, 114, 110]⟩⟩)))] fun x1_1 T1 n1 =>
 .ok (.val x1_1) T1 n1
theorem g68_ok (ro : List HT) (T : HT) (nx : Nat) : GOk Tryd.prog envE 68 [] ro T nx (g68 ro T nx) := by
 refine GOk.of_body Tryd.func68 rfl Tryd.ntmps68 (by kernel_rfl) rfl fun r T' n' h1 w0 base ρ0 its hS hP => ?_
 have X : CtxW envE ρ0 ro r T' n' := trivial
 unfold g68 at h1
 refine sr ?_
 refine as_ ?_
 refine dn ?_
 refine sr ?_
 refine LV.bslice hS h1 rfl rfl Paf.el33 rfl rfl rfl rfl fun x1_1 T1 n1 h2 ρ its hS hdr => ?_
 refine as_ ?_
 refine dn ?_
 refine CV.ret ?_
 cases h2
 exact PV.ret (by simp) Tryd.results68 hS (RS.tmp rfl RS.nil) rfl
noncomputable def g75_k2 (ro : List HT) (lp1 : AV → AV → AV → AV → HT → Nat → R) (y0 y2 y5 y6 y24 : AV) (T3 : HT) (n3 : Nat) : R :=
 condK 750016 y24
 (
  .ok (.val (.lit (.bool false))) T3 n3
 )
 (
  addK Tryd.prog 3 (.tmp 6) (.const (.int .i64 (.ofNat 1))) 750018 y6 (.lit (.int .i64 (.ofNat 1))) fun x25_6 =>
  lp1 y0 y2 y5 x25_6 T3 n3
 )
noncomputable def g75_k3 (ro : List HT) (lp1 : AV → AV → AV → AV → HT → Nat → R) (y0 y2 y5 y6 y23 : AV) (T4 : HT) (n4 : Nat) : R :=
 g75_k2 ro lp1 y0 y2 y5 y6 y23 T4 n4
noncomputable def g75_k4 (ro : List HT) (y2 y33 : AV) (T6 : HT) (n6 : Nat) : R :=
 .ok (.val y33) T6 n6
noncomputable def g75_b1 (ro : List HT) (lp1 : AV → AV → AV → AV → HT → Nat → R) (y0 y2 y5 y6 : AV) (T1 : HT) (n1 : Nat) : R :=
 ltK Tryd.prog 3 (.tmp 6) (.tmp 5) 750006 y6 y5 fun x7_2 =>
 condK 750007 x7_2
 (
  ixK 750012 y0 y6 fun x11_3 =>
  callK (g48 ro x11_3 T1 n1) fun x12_4 T2 n2 =>
  notK 750014 x12_4 fun x13_5 =>
  condK 750020 x13_5
  (
   eqK Tryd.prog 3 (.tmp 15) (.const (.int .i64 (.ofNat 0))) 750022 y6 (.lit (.int .i64 (.ofNat 0))) fun x16_7 =>
   condK 750025 x16_7
   (
    g75_k3 ro lp1 y0 y2 y5 y6 (.lit (.bool true)) T2 n2
   )
   (
    ixK 750029 y0 y6 fun x20_8 =>
    callK (g50 ro x20_8 T2 n2) fun x21_9 T5 n5 =>
    notK 750031 x21_9 fun x22_10 =>
    g75_k3 ro lp1 y0 y2 y5 y6 x22_10 T5 n5
   )
  )
  (
   g75_k2 ro lp1 y0 y2 y5 y6 (.lit (.bool false)) T2 n2
  )
 )
 (
  neSK Tryd.prog 9 (.tmp 26) (.const (.string ⟨⟨[]⟩⟩)) 750035 y0 (.lit (.string ⟨⟨[]⟩⟩)) fun x27_11 =>
  condK 750038 x27_11
  (
   callK (g68 ro T1 n1) fun x29_12 T7 n7 =>
   callK (g54 ro x29_12 y0 T7 n7) fun x31_13 T8 n8 =>
   notK 750042 x31_13 fun x32_14 =>
   g75_k4 ro y2 x32_14 T8 n8
  )
  (
   g75_k4 ro y2 (.lit (.bool false)) T1 n1
  )
 )
noncomputable def g75 (ro : List HT) (a0 : AV) (T : HT) (nx : Nat) : R :=
 lenTK 750003 a0 fun x5_1 =>
 lpf4 750005 (g75_b1 ro) 100000 a0 (.lit (.bool false)) x5_1 (.lit (.int .i64 (.ofNat 0))) T nx
theorem g75_ok (ro : List HT) (a0 : AV) (T : HT) (nx : Nat) : GOk Tryd.prog envE 75 [a0] ro T nx (g75 ro a0 T nx) := by
 refine GOk.of_body Tryd.func75 rfl Tryd.ntmps75 (by kernel_rfl) rfl fun r T' n' h1 w0 base ρ0 its hS hP => ?_
 have X : CtxW envE ρ0 ro r T' n' := trivial
 unfold g75 at h1
 refine sr ?_
 refine as_ ?_
 refine dn ?_
 refine CV.seq ?_
 refine sr ?_
 refine mv ?_
 refine vy (V.lenT h1 rfl Paf.ls9) fun x5_1 h2 => ?_
 refine mv ?_
 refine dn ?_
 refine CV.block ?_
 refine cl4 X 0 2 5 6 [] hS h2 ⟨rfl, rfl, rfl, rfl, trivial⟩ ?_
 intro f1 y0 y2 y5 y6 T1 n1 ρ its hS h3
 unfold g75_b1 at h3
 clear h1 h2
 refine sr ?_
 refine vy (V.lt h3 rfl rfl) fun x7_2 h4 => ?_
 refine dn ?_
 refine CV.seq ?_
 refine CV.cond h4 rfl (fun e h5 => ?_) (fun e h5 => ?_)
 ·
  clear h3 h4
  subst e
  refine CV.skip ?_
  refine PV.thenN ?_
  refine CV.seq ?_
  refine CV.block ?_
  refine sr ?_
  refine mv ?_
  refine as_ ?_
  refine dn ?_
  refine sr ?_
  refine mv ?_
  refine mv ?_
  refine vy (V.ix h5 rfl rfl Paf.st9) fun x11_3 h6 => ?_
  refine LV.call hS h6 (g48_ok _ _ _ _ ) hP rfl rfl rfl rfl fun x12_4 T2 n2 h7 ρ its hS => ?_
  refine vy (V.not h7 rfl) fun x13_5 h8 => ?_
  refine mv ?_
  refine ls5 X 0 2 5 6 24 [] (g75_k2 ro (lpf4 750005 (g75_b1 ro) f1)) 10 ?_ ?_
  ·
   rcases condK_inv h8 with ⟨e, h12⟩ | ⟨e, h12⟩
   ·
    clear h5 h6 h7 h8
    subst e
    refine mv ?_
    refine vy (V.eq h12 rfl rfl) fun x16_7 h13 => ?_
    refine mv ?_
    refine ls5 X 0 2 5 6 23 [(14, (.lit (.bool true)))] (g75_k3 ro (lpf4 750005 (g75_b1 ro) f1)) 6 ?_ ?_
    ·
     rcases condK_inv h13 with ⟨e, h15⟩ | ⟨e, h15⟩
     ·
      clear h12 h13
      subst e
      refine sk ?_
      refine sk ?_
      refine sk ?_
      refine sk ?_
      refine sk ?_
      refine pu ?_
      exact la5 hS h15 ⟨rfl, rfl, rfl, rfl, rfl, rfl, trivial⟩
     ·
      clear h12 h13
      subst e
      refine mv ?_
      refine mv ?_
      refine vy (V.ix h15 rfl rfl Paf.st9) fun x20_8 h16 => ?_
      refine LV.call hS h16 (g50_ok _ _ _ _ ) hP rfl rfl rfl rfl fun x21_9 T5 n5 h17 ρ its hS => ?_
      refine vy (V.not h17 rfl) fun x22_10 h18 => ?_
      refine pu ?_
      exact la5 hS h18 ⟨rfl, rfl, rfl, rfl, rfl, rfl, trivial⟩
    ·
     intro y0 y2 y5 y6 y23 T4 n4 ρ its hS h14
     unfold g75_k3 at h14
     clear h12 h13
     refine pu ?_
     exact la5 hS h14 ⟨rfl, rfl, rfl, rfl, rfl, trivial⟩
   ·
    clear h5 h6 h7 h8
    subst e
    refine sk ?_
    refine sk ?_
    refine sk ?_
    refine sk ?_
    refine sk ?_
    refine sk ?_
    refine sk ?_
    refine sk ?_
    refine sk ?_
    refine pu ?_
    exact la5 hS h12 ⟨rfl, rfl, rfl, rfl, rfl, trivial⟩
  ·
   intro y0 y2 y5 y6 y24 T3 n3 ρ its hS h9
   unfold g75_k2 at h9
   clear h5 h6 h7 h8
   refine dn ?_
   refine CV.cond h9 rfl (fun e h10 => ?_) (fun e h10 => ?_)
   ·
    clear h9
    subst e
    refine sr ?_
    refine as_ ?_
    refine dn ?_
    refine CV.ret ?_
    refine PV.blockR ?_
    refine PV.thenR ?_
    refine PV.thenR ?_
    refine PV.blockR ?_
    refine PV.thenR ?_
    cases h10
    exact PV.ret (by simp) Tryd.results75 hS (RS.tmp rfl RS.nil) rfl
   ·
    clear h9
    subst e
    refine CV.skip ?_
    refine PV.blockN ?_
    refine PV.thenN ?_
    refine CV.region ?_
    refine vy (V.add h10 rfl rfl) fun x25_6 h11 => ?_
    refine mv ?_
    refine LV.done ?_
    exact pb4 hS h11 ⟨rfl, rfl, rfl, rfl, trivial⟩
 ·
  clear h3 h4
  subst e
  refine CV.exit ?_
  refine PV.thenE ?_
  refine PV.thenE ?_
  refine PV.blockE ?_
  refine PV.thenN ?_
  refine sr ?_
  refine mv ?_
  refine vy (V.neS h5 rfl rfl) fun x27_11 h19 => ?_
  refine mv ?_
  refine ls2 X 2 33 [] (g75_k4 ro) 5 ?_ ?_
  ·
   rcases condK_inv h19 with ⟨e, h21⟩ | ⟨e, h21⟩
   ·
    clear h5 h19
    subst e
    refine LV.call hS h21 (g68_ok _ _ _ ) hP rfl rfl rfl rfl fun x29_12 T7 n7 h22 ρ its hS => ?_
    refine mv ?_
    refine LV.call hS h22 (g54_ok _ _ _ _ _ ) hP rfl rfl rfl rfl fun x31_13 T8 n8 h23 ρ its hS => ?_
    refine vy (V.not h23 rfl) fun x32_14 h24 => ?_
    refine pu ?_
    exact la2 hS h24 ⟨rfl, rfl, trivial⟩
   ·
    clear h5 h19
    subst e
    refine sk ?_
    refine sk ?_
    refine sk ?_
    refine sk ?_
    refine pu ?_
    exact la2 hS h21 ⟨rfl, rfl, trivial⟩
  ·
   intro y2 y33 T6 n6 ρ its hS h20
   unfold g75_k4 at h20
   clear h5 h19
   refine as_ ?_
   refine dn ?_
   refine CV.ret ?_
   cases h20
   exact PV.ret (by simp) Tryd.results75 hS (RS.tmp rfl RS.nil) rfl
noncomputable def g61_k2 (ro : List HT) (y0 y2 y3 y4 y6 : AV) (T6 : HT) (n6 : Nat) : R :=
 callK (g57 ro y0 (.lit (.string ⟨⟨[41]⟩⟩)) T6 n6) fun x107_7 T7 n7 =>
 ncK 610020 y0 fun x109_8 =>
 faK 610021 x109_8 3 fun x110_9 =>
 ldK 610022 T7 ro x110_9 fun x111_10 =>
 subK Tryd.prog 3 (.tmp 111) (.const (.int .i64 (.ofNat 1))) 610023 x111_10 (.lit (.int .i64 (.ofNat 1))) fun x112_11 =>
 ncK 610024 y0 fun x113_12 =>
 faK 610025 x113_12 3 fun x114_13 =>
 stK 610026 T7 x114_13 x112_11 fun T8 =>
 callK (g26 ro y0 (.lit (.int .i64 (.ofNat 42))) y3 y4 y6 T8 n7) fun x119_14 T9 n9 =>
 .ok (.val x119_14) T9 n9
noncomputable def g61_k1 (ro : List HT) (y0 y2 y3 y4 y6 : AV) (T5 : HT) (n5 : Nat) : R :=
 lenSK 610034 y6 fun x102_15 =>
 eqK Tryd.prog 3 (.tmp 102) (.const (.int .i64 (.ofNat 0))) 610035 x102_15 (.lit (.int .i64 (.ofNat 0))) fun x103_16 =>
 condK 610036 x103_16
 (
  callK (g30 ro y0 T5 n5) fun x105_17 T10 n10 =>
  g61_k2 ro y0 y2 y3 y4 y6 T10 n10
 )
 (
  g61_k2 ro y0 y2 y3 y4 y6 T5 n5
 )
noncomputable def g61_k5 (ro : List HT) (lp3 : AV → AV → AV → AV → AV → HT → Nat → R) (y0 y2 y3 y4 y6 y7 : AV) (T24 : HT) (n24 : Nat) : R :=
 callK (g22 ro y0 (.lit (.int .i64 (.ofNat 3))) T24 n24) fun x86_36 T25 n25 =>
 exK 610087 x86_36 0 fun x87_37 =>
 exK 610088 x86_36 1 fun x88_38 =>
 callK (g26 ro y0 (.lit (.int .i64 (.ofNat 5))) y7 x87_37 (.lit (.slice none 0 0)) T25 n25) fun x96_39 T26 n26 =>
 bsK 610099 T26 n26 1 3 1 [(0, x96_39)] fun x97_40 T27 n27 =>
 callK (g26 ro y0 (.lit (.int .i64 (.ofNat 46))) y7 x87_37 x97_40 T27 n27) fun x98_41 T28 n28 =>
 bsK 610101 T28 n28 1 3 1 [(0, x98_41)] fun x99_42 T29 n29 =>
 appK 610102 T29 ro n29 3 1 8 y6 x99_42 fun x100_43 T30 n30 =>
 lp3 y0 y2 y3 y4 x100_43 T30 n30
noncomputable def g61_k4 (ro : List HT) (lp3 : AV → AV → AV → AV → AV → HT → Nat → R) (y0 y2 y3 y4 y6 y34 : AV) (T13 : HT) (n13 : Nat) : R :=
 condK 610047 y34
 (
  g61_k1 ro y0 y2 y3 y4 y6 T13 n13
 )
 (
  callK (g41 ro y0 T13 n13) fun x36_21 T14 n14 =>
  callK (g21 ro y0 T14 n14) fun x38_22 T15 n15 =>
  eqK Tryd.prog 3 (.tmp 38) (.const (.int .i64 (.ofNat 1))) 610053 x38_22 (.lit (.int .i64 (.ofNat 1))) fun x39_23 =>
  condK 610054 x39_23
  (
   callK (g22 ro y0 (.lit (.int .i64 (.ofNat 1))) T15 n15) fun x42_24 T16 n16 =>
   exK 610058 x42_24 0 fun x43_25 =>
   exK 610059 x42_24 1 fun x44_26 =>
   callK (g57 ro y0 (.lit (.string ⟨⟨[61]⟩⟩)) T16 n16) fun x46_27 T17 n17 =>
   callK (g22 ro y0 (.lit (.int .i64 (.ofNat 3))) T17 n17) fun x49_28 T18 n18 =>
   exK 610067 x49_28 0 fun x50_29 =>
   exK 610068 x49_28 1 fun x51_30 =>
   callK (g26 ro y0 (.lit (.int .i64 (.ofNat 5))) x51_30 x50_29 (.lit (.slice none 0 0)) T18 n18) fun x59_31 T19 n19 =>
   bsK 610079 T19 n19 1 3 1 [(0, x59_31)] fun x60_32 T20 n20 =>
   callK (g26 ro y0 (.lit (.int .i64 (.ofNat 46))) x36_21 x43_25 x60_32 T20 n20) fun x61_33 T21 n21 =>
   bsK 610081 T21 n21 1 3 1 [(0, x61_33)] fun x62_34 T22 n22 =>
   appK 610082 T22 ro n22 3 1 8 y6 x62_34 fun x63_35 T23 n23 =>
   lp3 y0 y2 y3 y4 x63_35 T23 n23
  )
  (
   callQ 610105 (g21 (T15 :: ro) y0 .nil n15) fun x65_44 =>
   neK Tryd.prog 3 (.tmp 65) (.const (.int .i64 (.ofNat 3))) 610106 x65_44 (.lit (.int .i64 (.ofNat 3))) fun x66_45 =>
   condK 610108 x66_45
   (
    condK 610110 (.lit (.bool true))
    (
     callK (g30 ro y0 T15 n15) fun x83_46 T31 n31 =>
     g61_k5 ro lp3 y0 y2 y3 y4 y6 x36_21 T31 n31
    )
    (
     .bad 0
    )
   )
   (
    ncK 610114 y0 fun x69_47 =>
    faK 610115 x69_47 0 fun x70_48 =>
    ldK 610116 T15 ro x70_48 fun x71_49 =>
    ncK 610118 y0 fun x73_50 =>
    faK 610119 x73_50 1 fun x74_51 =>
    ldK 610120 T15 ro x74_51 fun x75_52 =>
    iaK 610121 x71_49 x75_52 3 fun x76_53 =>
    faK 610122 x76_53 1 fun x77_54 =>
    ldK 610123 T15 ro x77_54 fun x78_55 =>
    callQ 610124 (g75 (T15 :: ro) x78_55 .nil n15) fun x79_56 =>
    notK 610125 x79_56 fun x80_57 =>
    condK 610127 x80_57
    (
     callK (g30 ro y0 T15 n15) fun x83_58 T32 n32 =>
     g61_k5 ro lp3 y0 y2 y3 y4 y6 x36_21 T32 n32
    )
    (
     g61_k5 ro lp3 y0 y2 y3 y4 y6 x36_21 T15 n15
    )
   )
  )
 )
noncomputable def g61_b3 (ro : List HT) (lp3 : AV → AV → AV → AV → AV → HT → Nat → R) (y0 y2 y3 y4 y6 : AV) (T11 : HT) (n11 : Nat) : R :=
 callK (g43 ro y0 (.lit (.string ⟨⟨[44]⟩⟩)) T11 n11) fun x26_18 T12 n12 =>
 condK 610042 x26_18
 (
  lenSK 610044 y6 fun x28_19 =>
  gtK Tryd.prog 3 (.tmp 28) (.const (.int .i64 (.ofNat 0))) 610045 x28_19 (.lit (.int .i64 (.ofNat 0))) fun x29_20 =>
  condK 610130 x29_20
  (
   bsK 610132 T12 n12 1 9 1 [(0, (.lit (.string ⟨⟨[41]⟩⟩)))] fun x32_59 T33 n33 =>
   callK (g35 ro y0 x32_59 T33 n33) fun x33_60 T34 n34 =>
   g61_k4 ro lp3 y0 y2 y3 y4 y6 x33_60 T34 n34
  )
  (
   g61_k4 ro lp3 y0 y2 y3 y4 y6 (.lit (.bool false)) T12 n12
  )
 )
 (
  g61_k1 ro y0 y2 y3 y4 y6 T12 n12
 )
noncomputable def g61 (ro : List HT) (a0 : AV) (T : HT) (nx : Nat) : R :=
 callK (g57 ro a0 (.lit (.string ⟨⟨[108, 111, 97, 100]⟩⟩)) T nx) fun x15_1 T1 n1 =>
 callK (g57 ro a0 (.lit (.string ⟨⟨[40]⟩⟩)) T1 n1) fun x18_2 T2 n2 =>
 callK (g56 ro a0 x18_2 T2 n2) fun x19_3 T3 n3 =>
 callK (g22 ro a0 (.lit (.int .i64 (.ofNat 3))) T3 n3) fun x22_4 T4 n4 =>
 exK 610012 x22_4 0 fun x23_5 =>
 exK 610013 x22_4 1 fun x24_6 =>
 lpf5 610039 (g61_b3 ro) 100000 a0 (.lit (.int .i64 (.ofNat 0))) x15_1 x23_5 (.lit (.slice none 0 0)) T4 n4
theorem g61_ok (ro : List HT) (a0 : AV) (T : HT) (nx : Nat) : GOk Tryd.prog envE 61 [a0] ro T nx (g61 ro a0 T nx) := by
 refine GOk.of_body Tryd.func61 rfl Tryd.ntmps61 (by kernel_rfl) rfl fun r T' n' h1 w0 base ρ0 its hS hP => ?_
 have X : CtxW envE ρ0 ro r T' n' := trivial
 unfold g61 at h1
 refine sr ?_
 refine as_ ?_
 refine dn ?_
 refine sr ?_
 refine mv ?_
 refine LV.call hS h1 (g57_ok _ _ _ _ _ ) hP rfl rfl rfl rfl fun x15_1 T1 n1 h2 ρ its hS => ?_
 refine as_ ?_
 refine dn ?_
 refine sr ?_
 refine mv ?_
 refine mv ?_
 refine LV.call hS h2 (g57_ok _ _ _ _ _ ) hP rfl rfl rfl rfl fun x18_2 T2 n2 h3 ρ its hS => ?_
 refine LV.call hS h3 (g56_ok _ _ _ _ _ ) hP rfl rfl rfl rfl fun x19_3 T3 n3 h4 ρ its hS => ?_
 refine dn ?_
 refine sr ?_
 refine mv ?_
 refine LV.call hS h4 (g22_ok _ _ _ _ _ ) hP rfl rfl rfl rfl fun x22_4 T4 n4 h5 ρ its hS => ?_
 refine mv ?_
 refine vy (V.ex h5 rfl) fun x23_5 h6 => ?_
 refine vy (V.ex h6 rfl) fun x24_6 h7 => ?_
 refine as_ ?_
 refine as_ ?_
 refine dn ?_
 refine sr ?_
 refine as_ ?_
 refine dn ?_
 refine cs5 X 0 2 3 4 6 [] (g61_k1 ro) ?_ ?_
 ·
  refine CV.block ?_
  refine cl5 X 0 2 3 4 6 [] hS h7 ⟨rfl, rfl, rfl, rfl, rfl, trivial⟩ ?_
  intro f3 y0 y2 y3 y4 y6 T11 n11 ρ its hS h23
  unfold g61_b3 at h23
  clear h1 h2 h3 h4 h5 h6 h7
  refine CV.seq ?_
  refine sr ?_
  refine mv ?_
  refine LV.call hS h23 (g43_ok _ _ _ _ _ ) hP rfl rfl rfl rfl fun x26_18 T12 n12 h24 ρ its hS => ?_
  refine dn ?_
  refine CV.cond h24 rfl (fun e h25 => ?_) (fun e h25 => ?_)
  ·
   clear h23 h24
   subst e
   refine CV.skip ?_
   refine PV.thenN ?_
   refine CV.block ?_
   refine CV.seq ?_
   refine sr ?_
   refine mv ?_
   refine vy (V.lenS h25 rfl Paf.ls29) fun x28_19 h26 => ?_
   refine vy (V.gt h26 rfl rfl) fun x29_20 h27 => ?_
   refine mv ?_
   refine ls6 X 0 2 3 4 6 34 [] (g61_k4 ro (lpf5 610039 (g61_b3 ro) f3)) 4 ?_ ?_
   ·
    rcases condK_inv h27 with ⟨e, h73⟩ | ⟨e, h73⟩
    ·
     clear h25 h26 h27
     subst e
     refine mv ?_
     refine LV.bslice hS h73 rfl rfl Paf.el33 rfl rfl rfl rfl fun x32_59 T33 n33 h74 ρ its hS hdr => ?_
     refine LV.call hS h74 (g35_ok _ _ _ _ _ ) hP rfl rfl rfl rfl fun x33_60 T34 n34 h75 ρ its hS => ?_
     refine pu ?_
     exact la6 hS h75 ⟨rfl, rfl, rfl, rfl, rfl, rfl, trivial⟩
    ·
     clear h25 h26 h27
     subst e
     refine sk ?_
     refine sk ?_
     refine sk ?_
     refine pu ?_
     exact la6 hS h73 ⟨rfl, rfl, rfl, rfl, rfl, rfl, trivial⟩
   ·
    intro y0 y2 y3 y4 y6 y34 T13 n13 ρ its hS h28
    unfold g61_k4 at h28
    clear h25 h26 h27
    refine dn ?_
    refine CV.cond h28 rfl (fun e h29 => ?_) (fun e h29 => ?_)
    ·
     clear h28
     subst e
     refine CV.exit ?_
     refine PV.thenE ?_
     refine PV.blockO rfl ?_
     refine PV.thenE ?_
     refine PV.blockE ?_
     exact pa5 hS h29 ⟨rfl, rfl, rfl, rfl, rfl, trivial⟩
    ·
     clear h28
     subst e
     refine CV.skip ?_
     refine PV.thenN ?_
     refine sr ?_
     refine mv ?_
     refine LV.call hS h29 (g41_ok _ _ _ _ ) hP rfl rfl rfl rfl fun x36_21 T14 n14 h30 ρ its hS => ?_
     refine as_ ?_
     refine dn ?_
     refine CV.seq ?_
     refine sr ?_
     refine mv ?_
     refine LV.call hS h30 (g21_ok _ _ _ _ ) hP rfl rfl rfl rfl fun x38_22 T15 n15 h31 ρ its hS => ?_
     refine vy (V.eq h31 rfl rfl) fun x39_23 h32 => ?_
     refine dn ?_
     refine CV.cond h32 rfl (fun e h33 => ?_) (fun e h33 => ?_)
     ·
      clear h29 h30 h31 h32
      subst e
      refine sr ?_
      refine mv ?_
      refine LV.call hS h33 (g22_ok _ _ _ _ _ ) hP rfl rfl rfl rfl fun x42_24 T16 n16 h34 ρ its hS => ?_
      refine mv ?_
      refine vy (V.ex h34 rfl) fun x43_25 h35 => ?_
      refine vy (V.ex h35 rfl) fun x44_26 h36 => ?_
      refine as_ ?_
      refine as_ ?_
      refine dn ?_
      refine sr ?_
      refine mv ?_
      refine LV.call hS h36 (g57_ok _ _ _ _ _ ) hP rfl rfl rfl rfl fun x46_27 T17 n17 h37 ρ its hS => ?_
      refine dn ?_
      refine sr ?_
      refine mv ?_
      refine LV.call hS h37 (g22_ok _ _ _ _ _ ) hP rfl rfl rfl rfl fun x49_28 T18 n18 h38 ρ its hS => ?_
      refine mv ?_
      refine vy (V.ex h38 rfl) fun x50_29 h39 => ?_
      refine vy (V.ex h39 rfl) fun x51_30 h40 => ?_
      refine as_ ?_
      refine as_ ?_
      refine dn ?_
      refine sr ?_
      refine mv ?_
      refine mv ?_
      refine mv ?_
      refine mv ?_
      refine mv ?_
      refine mv ?_
      refine mv ?_
      refine LV.call hS h40 (g26_ok _ _ _ _ _ _ _ _ ) hP rfl rfl rfl rfl fun x59_31 T19 n19 h41 ρ its hS => ?_
      refine LV.bslice hS h41 rfl rfl Paf.el29 rfl rfl rfl rfl fun x60_32 T20 n20 h42 ρ its hS hdr => ?_
      refine LV.call hS h42 (g26_ok _ _ _ _ _ _ _ _ ) hP rfl rfl rfl rfl fun x61_33 T21 n21 h43 ρ its hS => ?_
      refine LV.bslice hS h43 rfl rfl Paf.el29 rfl rfl rfl rfl fun x62_34 T22 n22 h44 ρ its hS hdr => ?_
      refine LV.app hS h44 rfl rfl rfl rfl Paf.el29 rfl rfl rfl fun x63_35 T23 n23 h45 ρ its hS => ?_
      refine as_ ?_
      refine dn ?_
      refine CV.exit ?_
      refine PV.thenE ?_
      refine PV.blockE ?_
      exact pb5 hS h45 ⟨rfl, rfl, rfl, rfl, rfl, trivial⟩
     ·
      clear h29 h30 h31 h32
      subst e
      refine CV.skip ?_
      refine PV.thenN ?_
      refine cs6 X 0 2 3 4 6 7 [] (g61_k5 ro (lpf5 610039 (g61_b3 ro) f3)) ?_ ?_
      ·
       refine CV.seq ?_
       refine CV.regionM [(0, .anywhere), (1, .alone), (2, .anywhere), (3, .anywhere), (4, .anywhere), (5, .anywhere), (6, .anywhere), (7, .held), (8, .anywhere), (9, .anywhere), (10, .anywhere), (11, .held), (12, .held), (13, .held), (14, .held), (15, .alone), (16, .anywhere), (17, .anywhere)] rfl (fun c a a' w hd hq => PanicOk.root (P := Tryd.prog) (fn := Tryd.f61) (w0 := w0) (base := base) (E := envE) (ro := ro) (r := r) (T' := T') (n' := n') (ρ0 := ρ0) c a a' w hd hq) (by kernel_rfl) ?_
       refine MV.step0 (i := 0) rfl (VAL.move rfl) rfl rfl rfl ?_
       refine MV.force (i := 1) rfl ?_
       refine LV.callQ hS h33 (g21_ok _ _ _ _ ) rfl rfl rfl rfl fun x65_44 h55 => ?_
       refine LV.nextM [] (by kernel_rfl) (fun z => absurd rfl z) ?_
       refine MV.lift0 (i := 2) rfl (V.ne h55 rfl rfl) rfl rfl rfl fun x66_45 h56 => ?_
       refine MV.step0 (i := 3) rfl (VAL.move rfl) rfl rfl rfl ?_
       rcases condK_inv h56 with ⟨e, h57⟩ | ⟨e, h57⟩
       ·
        clear h33 h55 h56
        subst e
        refine MV.skip0 (i := 4) rfl rfl rfl rfl ?_
        refine MV.skip0 (i := 5) rfl rfl rfl rfl ?_
        refine MV.skip0 (i := 6) rfl rfl rfl rfl ?_
        refine MV.skip1 (i := 7) rfl (fun _ z => z) rfl rfl rfl [] (by kernel_rfl) ?_
        refine MV.skip0 (i := 8) rfl rfl rfl rfl ?_
        refine MV.skip0 (i := 9) rfl rfl rfl rfl ?_
        refine MV.skip0 (i := 10) rfl rfl rfl rfl ?_
        refine MV.skip1 (i := 11) rfl (fun _ z => z) rfl rfl rfl [7] (by kernel_rfl) ?_
        refine MV.skip1 (i := 12) rfl (fun _ z => z) rfl rfl rfl [] (by kernel_rfl) ?_
        refine MV.skip1 (i := 13) rfl (fun _ z => z) rfl rfl rfl [] (by kernel_rfl) ?_
        refine MV.skip1 (i := 14) rfl (fun _ z => z) rfl rfl rfl [] (by kernel_rfl) ?_
        refine MV.force (i := 15) rfl ?_
        refine sk ?_
        refine LV.nextM [] (by kernel_rfl) (fun z => absurd rfl z) ?_
        refine MV.skip0 (i := 16) rfl rfl rfl rfl ?_
        refine MV.step0 (i := 17) rfl (VAL.pure rfl) rfl rfl rfl ?_
        refine mdn ?_
        refine CV.cond h57 rfl (fun e h58 => ?_) (fun e h58 => ?_)
        ·
         clear h57
         refine CV.region ?_
         refine mv ?_
         refine LV.call hS h58 (g30_ok _ _ _ _ ) hP rfl rfl rfl rfl fun x83_46 T31 n31 h59 ρ its hS => ?_
         refine LV.done ?_
         exact pa6 hS h59 ⟨rfl, rfl, rfl, rfl, rfl, rfl, trivial⟩
        ·
         clear h57
         cases e
       ·
        clear h33 h55 h56
        subst e
        refine MV.step0 (i := 4) rfl (VAL.move rfl) rfl rfl rfl ?_
        refine MV.lift0 (i := 5) rfl (V.nc h57 rfl) rfl rfl rfl fun x69_47 h60 => ?_
        refine MV.lift0 (i := 6) rfl (V.fa h60 rfl Paf.fo49_0) rfl rfl rfl fun x70_48 h61 => ?_
        refine MV.lift1 (i := 7) rfl (fun _ z => z) (V.ld hS h61 rfl Paf.one47) rfl rfl rfl [] (by kernel_rfl) fun x71_49 h62 => ?_
        refine MV.step0 (i := 8) rfl (VAL.move rfl) rfl rfl rfl ?_
        refine MV.lift0 (i := 9) rfl (V.nc h62 rfl) rfl rfl rfl fun x73_50 h63 => ?_
        refine MV.lift0 (i := 10) rfl (V.fa h63 rfl Paf.fo49_1) rfl rfl rfl fun x74_51 h64 => ?_
        refine MV.lift1 (i := 11) rfl (fun _ z => z) (V.ld hS h64 rfl Paf.one3) rfl rfl rfl [7] (by kernel_rfl) fun x75_52 h65 => ?_
        refine MV.lift1 (i := 12) rfl (fun _ z => z) (V.ia h65 rfl rfl Paf.el47) rfl rfl rfl [] (by kernel_rfl) fun x76_53 h66 => ?_
        refine MV.lift1 (i := 13) rfl (fun _ z => z) (V.fa h66 rfl Paf.fo68_1) rfl rfl rfl [] (by kernel_rfl) fun x77_54 h67 => ?_
        refine MV.lift1 (i := 14) rfl (fun _ z => z) (V.ld hS h67 rfl Paf.one9) rfl rfl rfl [] (by kernel_rfl) fun x78_55 h68 => ?_
        refine MV.force (i := 15) rfl ?_
        refine LV.callQ hS h68 (g75_ok _ _ _ _ ) rfl rfl rfl rfl fun x79_56 h69 => ?_
        refine LV.nextM [] (by kernel_rfl) (fun z => absurd rfl z) ?_
        refine MV.lift0 (i := 16) rfl (V.not h69 rfl) rfl rfl rfl fun x80_57 h70 => ?_
        refine MV.step0 (i := 17) rfl (VAL.pure rfl) rfl rfl rfl ?_
        refine mdn ?_
        refine CV.cond h70 rfl (fun e h71 => ?_) (fun e h71 => ?_)
        ·
         clear h57 h60 h61 h62 h63 h64 h65 h66 h67 h68 h69 h70
         subst e
         refine CV.region ?_
         refine mv ?_
         refine LV.call hS h71 (g30_ok _ _ _ _ ) hP rfl rfl rfl rfl fun x83_58 T32 n32 h72 ρ its hS => ?_
         refine LV.done ?_
         exact pa6 hS h72 ⟨rfl, rfl, rfl, rfl, rfl, rfl, trivial⟩
        ·
         clear h57 h60 h61 h62 h63 h64 h65 h66 h67 h68 h69 h70
         subst e
         refine CV.skip ?_
         exact pa6 hS h71 ⟨rfl, rfl, rfl, rfl, rfl, rfl, trivial⟩
      ·
       intro y0 y2 y3 y4 y6 y7 T24 n24 ρ its hS h46
       unfold g61_k5 at h46
       clear h33
       refine sr ?_
       refine mv ?_
       refine LV.call hS h46 (g22_ok _ _ _ _ _ ) hP rfl rfl rfl rfl fun x86_36 T25 n25 h47 ρ its hS => ?_
       refine mv ?_
       refine vy (V.ex h47 rfl) fun x87_37 h48 => ?_
       refine vy (V.ex h48 rfl) fun x88_38 h49 => ?_
       refine as_ ?_
       refine as_ ?_
       refine dn ?_
       refine CV.region ?_
       refine mv ?_
       refine mv ?_
       refine mv ?_
       refine mv ?_
       refine mv ?_
       refine mv ?_
       refine mv ?_
       refine LV.call hS h49 (g26_ok _ _ _ _ _ _ _ _ ) hP rfl rfl rfl rfl fun x96_39 T26 n26 h50 ρ its hS => ?_
       refine LV.bslice hS h50 rfl rfl Paf.el29 rfl rfl rfl rfl fun x97_40 T27 n27 h51 ρ its hS hdr => ?_
       refine LV.call hS h51 (g26_ok _ _ _ _ _ _ _ _ ) hP rfl rfl rfl rfl fun x98_41 T28 n28 h52 ρ its hS => ?_
       refine LV.bslice hS h52 rfl rfl Paf.el29 rfl rfl rfl rfl fun x99_42 T29 n29 h53 ρ its hS hdr => ?_
       refine LV.app hS h53 rfl rfl rfl rfl Paf.el29 rfl rfl rfl fun x100_43 T30 n30 h54 ρ its hS => ?_
       refine as_ ?_
       refine LV.done ?_
       refine PV.blockN ?_
       exact pb5 hS h54 ⟨rfl, rfl, rfl, rfl, rfl, trivial⟩
  ·
   clear h23 h24
   subst e
   refine CV.exit ?_
   refine PV.thenE ?_
   refine PV.thenE ?_
   refine PV.blockE ?_
   exact pa5 hS h25 ⟨rfl, rfl, rfl, rfl, rfl, trivial⟩
 ·
  intro y0 y2 y3 y4 y6 T5 n5 ρ its hS h8
  unfold g61_k1 at h8
  clear h1 h2 h3 h4 h5 h6 h7
  refine cs5 X 0 2 3 4 6 [] (g61_k2 ro) ?_ ?_
  ·
   refine sr ?_
   refine mv ?_
   refine vy (V.lenS h8 rfl Paf.ls29) fun x102_15 h19 => ?_
   refine vy (V.eq h19 rfl rfl) fun x103_16 h20 => ?_
   refine dn ?_
   refine CV.cond h20 rfl (fun e h21 => ?_) (fun e h21 => ?_)
   ·
    clear h8 h19 h20
    subst e
    refine CV.region ?_
    refine mv ?_
    refine LV.call hS h21 (g30_ok _ _ _ _ ) hP rfl rfl rfl rfl fun x105_17 T10 n10 h22 ρ its hS => ?_
    refine LV.done ?_
    exact pa5 hS h22 ⟨rfl, rfl, rfl, rfl, rfl, trivial⟩
   ·
    clear h8 h19 h20
    subst e
    refine CV.skip ?_
    exact pa5 hS h21 ⟨rfl, rfl, rfl, rfl, rfl, trivial⟩
  ·
   intro y0 y2 y3 y4 y6 T6 n6 ρ its hS h9
   unfold g61_k2 at h9
   clear h8
   refine sr ?_
   refine mv ?_
   refine LV.call hS h9 (g57_ok _ _ _ _ _ ) hP rfl rfl rfl rfl fun x107_7 T7 n7 h10 ρ its hS => ?_
   refine dn ?_
   refine sr ?_
   refine mv ?_
   refine vy (V.nc h10 rfl) fun x109_8 h11 => ?_
   refine vy (V.fa h11 rfl Paf.fo49_3) fun x110_9 h12 => ?_
   refine vy (V.ld hS h12 rfl Paf.one3) fun x111_10 h13 => ?_
   refine vy (V.sub h13 rfl rfl) fun x112_11 h14 => ?_
   refine vy (V.nc h14 rfl) fun x113_12 h15 => ?_
   refine vy (V.fa h15 rfl Paf.fo49_3) fun x114_13 h16 => ?_
   refine LV.st hS h16 rfl rfl rfl Paf.siz3 rfl rfl fun T8 its h17 hS => ?_
   refine dn ?_
   refine sr ?_
   refine mv ?_
   refine mv ?_
   refine mv ?_
   refine mv ?_
   refine LV.call hS h17 (g26_ok _ _ _ _ _ _ _ _ ) hP rfl rfl rfl rfl fun x119_14 T9 n9 h18 ρ its hS => ?_
   refine as_ ?_
   refine dn ?_
   refine CV.ret ?_
   cases h18
   exact PV.ret (by simp) Tryd.results61 hS (RS.tmp rfl RS.nil) rfl
noncomputable def g62_k1 (ih : FuncId → List HT → List AV → HT → Nat → R) (ro : List HT) (y0 y5 y25 : AV) (T3 : HT) (n3 : Nat) : R :=
 .ok (.val y25) T3 n3
noncomputable def g62_b2 (ih : FuncId → List HT → List AV → HT → Nat → R) (ro : List HT) (lp2 : AV → AV → AV → AV → AV → AV → HT → Nat → R) (y0 y4 y5 y27 y28 y29 : AV) (T4 : HT) (n4 : Nat) : R :=
 ltK Tryd.prog 3 (.tmp 29) (.tmp 28) 620031 y29 y28 fun x30_19 =>
 condK 620032 x30_19
 (
  iaK 620033 y27 y29 1 fun x31_20 =>
  ldK 620034 T4 ro x31_20 fun x32_21 =>
  callK (ih 62 ro [y0, x32_21] T4 n4) fun x35_22 T5 n5 =>
  notK 620039 x35_22 fun x36_23 =>
  condK 620040 x36_23
  (
   .ok (.val (.lit (.bool false))) T5 n5
  )
  (
   addK Tryd.prog 3 (.tmp 29) (.const (.int .i64 (.ofNat 1))) 620042 y29 (.lit (.int .i64 (.ofNat 1))) fun x37_24 =>
   lp2 y0 y4 y5 y27 y28 x37_24 T5 n5
  )
 )
 (
  faK 620044 y5 4 fun x38_25 =>
  ldK 620045 T4 ro x38_25 fun x39_26 =>
  lenSK 620046 x39_26 fun x40_27 =>
  gtK Tryd.prog 3 (.tmp 40) (.const (.int .i64 (.ofNat 0))) 620047 x40_27 (.lit (.int .i64 (.ofNat 0))) fun x41_28 =>
  .ok (.val x41_28) T4 n4
 )
noncomputable def g62 (ih : FuncId → List HT → List AV → HT → Nat → R) (ro : List HT) (a0 a1 : AV) (T : HT) (nx : Nat) : R :=
 ncK 620003 a0 fun x9_1 =>
 faK 620004 x9_1 2 fun x10_2 =>
 ldK 620005 T ro x10_2 fun x11_3 =>
 iaK 620007 x11_3 a1 5 fun x13_4 =>
 ldAK 620008 T ro x13_4 5 fun x14_5 =>
 newK T nx (.obj [.lit (.int .i64 0), .lit (.int .i64 0), .lit (.int .i64 0), .lit (.string ⟨#[]⟩), .lit (.slice none 0 0)] 31) fun x5_6 T1 n1 =>
 stAK 620010 T1 x5_6 x14_5 5 fun T2 =>
 faK 620011 x5_6 0 fun x15_7 =>
 ldK 620012 T2 ro x15_7 fun x16_8 =>
 neK Tryd.prog 3 (.tmp 16) (.const (.int .i64 (.ofNat 8))) 620013 x16_8 (.lit (.int .i64 (.ofNat 8))) fun x17_9 =>
 condK 620014 x17_9
 (
  faK 620015 x5_6 0 fun x18_10 =>
  ldK 620016 T2 ro x18_10 fun x19_11 =>
  eqK Tryd.prog 3 (.tmp 19) (.const (.int .i64 (.ofNat 6))) 620017 x19_11 (.lit (.int .i64 (.ofNat 6))) fun x20_12 =>
  condK 620020 x20_12
  (
   g62_k1 ih ro a0 x5_6 (.lit (.bool true)) T2 n1
  )
  (
   faK 620022 x5_6 0 fun x22_13 =>
   ldK 620023 T2 ro x22_13 fun x23_14 =>
   eqK Tryd.prog 3 (.tmp 23) (.const (.int .i64 (.ofNat 13))) 620024 x23_14 (.lit (.int .i64 (.ofNat 13))) fun x24_15 =>
   g62_k1 ih ro a0 x5_6 x24_15 T2 n1
  )
 )
 (
  faK 620026 x5_6 4 fun x26_16 =>
  ldK 620027 T2 ro x26_16 fun x27_17 =>
  lenSK 620028 x27_17 fun x28_18 =>
  lpf6 620030 (g62_b2 ih ro) 100000 a0 (.lit (.bool false)) x5_6 x27_17 x28_18 (.lit (.int .i64 (.ofNat 0))) T2 n1
 )
theorem g62_ok (ih : FuncId → List HT → List AV → HT → Nat → R) (hI : ∀ f ro args T nx, GOk Tryd.prog envE f args ro T nx (ih f ro args T nx)) (ro : List HT) (a0 a1 : AV) (T : HT) (nx : Nat) : GOk Tryd.prog envE 62 [a0, a1] ro T nx (g62 ih ro a0 a1 T nx) := by
 refine GOk.of_body Tryd.func62 rfl Tryd.ntmps62 (by kernel_rfl) rfl fun r T' n' h1 w0 base ρ0 its hS hP => ?_
 have X : CtxW envE ρ0 ro r T' n' := trivial
 unfold g62 at h1
 refine sr ?_
 refine as_ ?_
 refine dn ?_
 refine sr ?_
 refine mv ?_
 refine vy (V.nc h1 rfl) fun x9_1 h2 => ?_
 refine vy (V.fa h2 rfl Paf.fo49_2) fun x10_2 h3 => ?_
 refine vy (V.ld hS h3 rfl Paf.one23) fun x11_3 h4 => ?_
 refine mv ?_
 refine vy (V.ia h4 rfl rfl Paf.el23) fun x13_4 h5 => ?_
 refine vy (V.ldA hS h5 rfl Paf.agg31) fun x14_5 h6 => ?_
 refine LV.alloc hS h6 rfl Paf.zr31 rfl rfl rfl fun x5_6 T1 n1 h7 ρ its hS hdr => ?_
 refine LV.stA hS h7 rfl rfl rfl Paf.agg31 rfl rfl rfl fun T2 its h8 hS => ?_
 refine dn ?_
 refine CV.seq ?_
 refine sr ?_
 refine vy (V.fa h8 rfl Paf.fo31_0) fun x15_7 h9 => ?_
 refine vy (V.ld hS h9 rfl Paf.one3) fun x16_8 h10 => ?_
 refine vy (V.ne h10 rfl rfl) fun x17_9 h11 => ?_
 refine dn ?_
 refine CV.cond h11 rfl (fun e h12 => ?_) (fun e h12 => ?_)
 ·
  clear h1 h2 h3 h4 h5 h6 h7 h8 h9 h10 h11
  subst e
  refine sr ?_
  refine vy (V.fa h12 rfl Paf.fo31_0) fun x18_10 h13 => ?_
  refine vy (V.ld hS h13 rfl Paf.one3) fun x19_11 h14 => ?_
  refine vy (V.eq h14 rfl rfl) fun x20_12 h15 => ?_
  refine mv ?_
  refine ls3 X 0 5 25 [(4, (.lit (.bool false)))] (g62_k1 ih ro) 4 ?_ ?_
  ·
   rcases condK_inv h15 with ⟨e, h17⟩ | ⟨e, h17⟩
   ·
    clear h12 h13 h14 h15
    subst e
    refine sk ?_
    refine sk ?_
    refine sk ?_
    refine pu ?_
    exact la3 hS h17 ⟨rfl, rfl, rfl, rfl, trivial⟩
   ·
    clear h12 h13 h14 h15
    subst e
    refine vy (V.fa h17 rfl Paf.fo31_0) fun x22_13 h18 => ?_
    refine vy (V.ld hS h18 rfl Paf.one3) fun x23_14 h19 => ?_
    refine vy (V.eq h19 rfl rfl) fun x24_15 h20 => ?_
    refine pu ?_
    exact la3 hS h20 ⟨rfl, rfl, rfl, rfl, trivial⟩
  ·
   intro y0 y5 y25 T3 n3 ρ its hS h16
   unfold g62_k1 at h16
   clear h12 h13 h14 h15
   refine as_ ?_
   refine dn ?_
   refine CV.ret ?_
   refine PV.thenR ?_
   cases h16
   exact PV.ret (by simp) Tryd.results62 hS (RS.tmp rfl RS.nil) rfl
 ·
  clear h1 h2 h3 h4 h5 h6 h7 h8 h9 h10 h11
  subst e
  refine CV.skip ?_
  refine PV.thenN ?_
  refine CV.seq ?_
  refine sr ?_
  refine vy (V.fa h12 rfl Paf.fo31_4) fun x26_16 h21 => ?_
  refine vy (V.ld hS h21 rfl Paf.one29) fun x27_17 h22 => ?_
  refine vy (V.lenS h22 rfl Paf.ls29) fun x28_18 h23 => ?_
  refine mv ?_
  refine dn ?_
  refine CV.block ?_
  refine cl6 X 0 4 5 27 28 29 [] hS h23 ⟨rfl, rfl, rfl, rfl, rfl, rfl, trivial⟩ ?_
  intro f2 y0 y4 y5 y27 y28 y29 T4 n4 ρ its hS h24
  unfold g62_b2 at h24
  clear h12 h21 h22 h23
  refine sr ?_
  refine vy (V.lt h24 rfl rfl) fun x30_19 h25 => ?_
  refine dn ?_
  refine CV.seq ?_
  refine CV.cond h25 rfl (fun e h26 => ?_) (fun e h26 => ?_)
  ·
   clear h24 h25
   subst e
   refine CV.skip ?_
   refine PV.thenN ?_
   refine CV.seq ?_
   refine CV.block ?_
   refine sr ?_
   refine vy (V.ia h26 rfl rfl Paf.el29) fun x31_20 h27 => ?_
   refine vy (V.ld hS h27 rfl Paf.one3) fun x32_21 h28 => ?_
   refine as_ ?_
   refine dn ?_
   refine sr ?_
   refine mv ?_
   refine mv ?_
   refine LV.call hS h28 (hI _ _ _ _ _) hP rfl rfl rfl rfl fun x35_22 T5 n5 h29 ρ its hS => ?_
   refine vy (V.not h29 rfl) fun x36_23 h30 => ?_
   refine dn ?_
   refine CV.cond h30 rfl (fun e h31 => ?_) (fun e h31 => ?_)
   ·
    clear h26 h27 h28 h29 h30
    subst e
    refine sr ?_
    refine as_ ?_
    refine dn ?_
    refine CV.ret ?_
    refine PV.blockR ?_
    refine PV.thenR ?_
    refine PV.thenR ?_
    refine PV.blockR ?_
    refine PV.thenR ?_
    cases h31
    exact PV.ret (by simp) Tryd.results62 hS (RS.tmp rfl RS.nil) rfl
   ·
    clear h26 h27 h28 h29 h30
    subst e
    refine CV.skip ?_
    refine PV.blockN ?_
    refine PV.thenN ?_
    refine CV.region ?_
    refine vy (V.add h31 rfl rfl) fun x37_24 h32 => ?_
    refine mv ?_
    refine LV.done ?_
    exact pb6 hS h32 ⟨rfl, rfl, rfl, rfl, rfl, rfl, trivial⟩
  ·
   clear h24 h25
   subst e
   refine CV.exit ?_
   refine PV.thenE ?_
   refine PV.thenE ?_
   refine PV.blockE ?_
   refine PV.thenN ?_
   refine sr ?_
   refine vy (V.fa h26 rfl Paf.fo31_4) fun x38_25 h33 => ?_
   refine vy (V.ld hS h33 rfl Paf.one29) fun x39_26 h34 => ?_
   refine vy (V.lenS h34 rfl Paf.ls29) fun x40_27 h35 => ?_
   refine vy (V.gt h35 rfl rfl) fun x41_28 h36 => ?_
   refine as_ ?_
   refine dn ?_
   refine CV.ret ?_
   cases h36
   exact PV.ret (by simp) Tryd.results62 hS (RS.tmp rfl RS.nil) rfl
noncomputable def ap1 (ih : FuncId → List HT → List AV → HT → Nat → R) (f : FuncId) (ro : List HT) (args : List AV) (T : HT) (nx : Nat) : R :=
  bif Nat.beq f 62 then (match args with | [a0, a1] => g62 ih ro a0 a1 T nx | _ => .bad 1) else .bad 2
noncomputable def scc1 (fuel : Nat) : FuncId → List HT → List AV → HT → Nat → R :=
  Nat.rec (motive := fun _ => FuncId → List HT → List AV → HT → Nat → R) (fun _ _ _ _ _ => .bad 3) (fun _ ih => ap1 ih) fuel
theorem ap1_ok (ih : FuncId → List HT → List AV → HT → Nat → R) (hI : ∀ f ro args T nx, GOk Tryd.prog envE f args ro T nx (ih f ro args T nx)) (f : FuncId) (ro : List HT) (args : List AV) (T : HT) (nx : Nat) : GOk Tryd.prog envE f args ro T nx (ap1 ih f ro args T nx) := by
  unfold ap1
  refine bif_go (fun hb => ?_) (fun _ => ?_)
  · obtain rfl := beqT hb
    split
    · exact g62_ok _ hI _ _ _ _ _ 
    · exact GOk.bad
  exact GOk.bad
theorem scc1_ok : ∀ (fuel : Nat) (f : FuncId) (ro : List HT) (args : List AV) (T : HT) (nx : Nat), GOk Tryd.prog envE f args ro T nx (scc1 fuel f ro args T nx)
  | 0, _, _, _, _, _ => GOk.bad
  | fuel + 1, f, ro, args, T, nx => ap1_ok (scc1 fuel) (scc1_ok fuel) f ro args T nx
noncomputable def g59 (ro : List HT) (a0 a1 : AV) (T : HT) (nx : Nat) : R :=
 ncK 590003 a0 fun x6_1 =>
 faK 590004 x6_1 1 fun x7_2 =>
 ldK 590005 T ro x7_2 fun x8_3 =>
 addK Tryd.prog 3 (.tmp 8) (.const (.int .i64 (.ofNat 1))) 590006 x8_3 (.lit (.int .i64 (.ofNat 1))) fun x9_4 =>
 ncK 590008 a0 fun x11_5 =>
 faK 590009 x11_5 0 fun x12_6 =>
 ldK 590010 T ro x12_6 fun x13_7 =>
 lenSK 590011 x13_7 fun x14_8 =>
 ltK Tryd.prog 3 (.tmp 9) (.tmp 14) 590012 x9_4 x14_8 fun x15_9 =>
 condK 590014 x15_9
 (
  ncK 590016 a0 fun x18_10 =>
  faK 590017 x18_10 0 fun x19_11 =>
  ldK 590018 T ro x19_11 fun x20_12 =>
  ncK 590020 a0 fun x22_13 =>
  faK 590021 x22_13 1 fun x23_14 =>
  ldK 590022 T ro x23_14 fun x24_15 =>
  addK Tryd.prog 3 (.tmp 24) (.const (.int .i64 (.ofNat 1))) 590023 x24_15 (.lit (.int .i64 (.ofNat 1))) fun x25_16 =>
  iaK 590024 x20_12 x25_16 3 fun x26_17 =>
  faK 590025 x26_17 0 fun x27_18 =>
  ldK 590026 T ro x27_18 fun x28_19 =>
  eqK Tryd.prog 3 (.tmp 28) (.const (.int .i64 (.ofNat 4))) 590027 x28_19 (.lit (.int .i64 (.ofNat 4))) fun x29_20 =>
  condK 590030 x29_20
  (
   ncK 590032 a0 fun x33_21 =>
   faK 590033 x33_21 0 fun x34_22 =>
   ldK 590034 T ro x34_22 fun x35_23 =>
   ncK 590036 a0 fun x37_24 =>
   faK 590037 x37_24 1 fun x38_25 =>
   ldK 590038 T ro x38_25 fun x39_26 =>
   addK Tryd.prog 3 (.tmp 39) (.const (.int .i64 (.ofNat 1))) 590039 x39_26 (.lit (.int .i64 (.ofNat 1))) fun x40_27 =>
   iaK 590040 x35_23 x40_27 3 fun x41_28 =>
   faK 590041 x41_28 1 fun x42_29 =>
   ldK 590042 T ro x42_29 fun x43_30 =>
   eqSK Tryd.prog 9 (.tmp 43) (.tmp 44) 590044 x43_30 a1 fun x45_31 =>
   .ok (.val x45_31) T nx
  )
  (
   .ok (.val (.lit (.bool false))) T nx
  )
 )
 (
  condK 590051 (.lit (.bool false))
  (
   .bad 0
  )
  (
   .ok (.val (.lit (.bool false))) T nx
  )
 )
theorem g59_ok (ro : List HT) (a0 a1 : AV) (T : HT) (nx : Nat) : GOk Tryd.prog envE 59 [a0, a1] ro T nx (g59 ro a0 a1 T nx) := by
 refine GOk.of_body Tryd.func59 rfl Tryd.ntmps59 (by kernel_rfl) rfl fun r T' n' h1 w0 base ρ0 its hS hP => ?_
 have X : CtxW envE ρ0 ro r T' n' := trivial
 unfold g59 at h1
 refine sr ?_
 refine as_ ?_
 refine dn ?_
 refine CV.seq ?_
 refine CV.regionM [(0, .anywhere), (1, .anywhere), (2, .anywhere), (3, .held), (4, .held), (5, .anywhere), (6, .anywhere), (7, .anywhere), (8, .held), (9, .held), (10, .held), (11, .held), (12, .held), (13, .held), (14, .held), (15, .held), (16, .anywhere), (17, .anywhere), (18, .anywhere), (19, .held), (20, .held), (21, .held), (22, .held), (23, .held), (24, .held), (25, .held), (26, .held), (27, .held), (28, .held), (29, .held), (30, .held), (31, .anywhere), (32, .anywhere), (33, .anywhere), (34, .held), (35, .held), (36, .held), (37, .held), (38, .held), (39, .anywhere), (40, .held), (41, .held), (42, .held)] rfl (fun c a a' w hd hq => PanicOk.root (P := Tryd.prog) (fn := Tryd.f59) (w0 := w0) (base := base) (E := envE) (ro := ro) (r := r) (T' := T') (n' := n') (ρ0 := ρ0) c a a' w hd hq) (by kernel_rfl) ?_
 refine MV.step0 (i := 0) rfl (VAL.move rfl) rfl rfl rfl ?_
 refine MV.lift0 (i := 1) rfl (V.nc h1 rfl) rfl rfl rfl fun x6_1 h2 => ?_
 refine MV.lift0 (i := 2) rfl (V.fa h2 rfl Paf.fo49_1) rfl rfl rfl fun x7_2 h3 => ?_
 refine MV.lift1 (i := 3) rfl (fun _ z => z) (V.ld hS h3 rfl Paf.one3) rfl rfl rfl [] (by kernel_rfl) fun x8_3 h4 => ?_
 refine MV.lift1 (i := 4) rfl (fun _ z => z) (V.add h4 rfl rfl) rfl rfl rfl [] (by kernel_rfl) fun x9_4 h5 => ?_
 refine MV.step0 (i := 5) rfl (VAL.move rfl) rfl rfl rfl ?_
 refine MV.lift0 (i := 6) rfl (V.nc h5 rfl) rfl rfl rfl fun x11_5 h6 => ?_
 refine MV.lift0 (i := 7) rfl (V.fa h6 rfl Paf.fo49_0) rfl rfl rfl fun x12_6 h7 => ?_
 refine MV.lift1 (i := 8) rfl (fun _ z => z) (V.ld hS h7 rfl Paf.one47) rfl rfl rfl [4] (by kernel_rfl) fun x13_7 h8 => ?_
 refine MV.lift1 (i := 9) rfl (fun _ z => z) (V.lenS h8 rfl Paf.ls47) rfl rfl rfl [4] (by kernel_rfl) fun x14_8 h9 => ?_
 refine MV.lift1 (i := 10) rfl (fun _ z => z) (V.lt h9 rfl rfl) rfl rfl rfl [] (by kernel_rfl) fun x15_9 h10 => ?_
 refine MV.step1 (i := 11) rfl (fun _ z => z) (VAL.move rfl) rfl rfl rfl [] (by kernel_rfl) ?_
 rcases condK_inv h10 with ⟨e, h11⟩ | ⟨e, h11⟩
 ·
  clear h1 h2 h3 h4 h5 h6 h7 h8 h9 h10
  subst e
  refine MV.step1 (i := 12) rfl (fun _ z => z) (VAL.move rfl) rfl rfl rfl [] (by kernel_rfl) ?_
  refine MV.lift1 (i := 13) rfl (fun _ z => z) (V.nc h11 rfl) rfl rfl rfl [] (by kernel_rfl) fun x18_10 h12 => ?_
  refine MV.lift1 (i := 14) rfl (fun _ z => z) (V.fa h12 rfl Paf.fo49_0) rfl rfl rfl [] (by kernel_rfl) fun x19_11 h13 => ?_
  refine MV.lift1 (i := 15) rfl (fun _ z => z) (V.ld hS h13 rfl Paf.one47) rfl rfl rfl [] (by kernel_rfl) fun x20_12 h14 => ?_
  refine MV.step0 (i := 16) rfl (VAL.move rfl) rfl rfl rfl ?_
  refine MV.lift0 (i := 17) rfl (V.nc h14 rfl) rfl rfl rfl fun x22_13 h15 => ?_
  refine MV.lift0 (i := 18) rfl (V.fa h15 rfl Paf.fo49_1) rfl rfl rfl fun x23_14 h16 => ?_
  refine MV.lift1 (i := 19) rfl (fun _ z => z) (V.ld hS h16 rfl Paf.one3) rfl rfl rfl [15] (by kernel_rfl) fun x24_15 h17 => ?_
  refine MV.lift1 (i := 20) rfl (fun _ z => z) (V.add h17 rfl rfl) rfl rfl rfl [15] (by kernel_rfl) fun x25_16 h18 => ?_
  refine MV.lift1 (i := 21) rfl (fun _ z => z) (V.ia h18 rfl rfl Paf.el47) rfl rfl rfl [] (by kernel_rfl) fun x26_17 h19 => ?_
  refine MV.lift1 (i := 22) rfl (fun _ z => z) (V.fa h19 rfl Paf.fo68_0) rfl rfl rfl [] (by kernel_rfl) fun x27_18 h20 => ?_
  refine MV.lift1 (i := 23) rfl (fun _ z => z) (V.ld hS h20 rfl Paf.one3) rfl rfl rfl [] (by kernel_rfl) fun x28_19 h21 => ?_
  refine MV.lift1 (i := 24) rfl (fun _ z => z) (V.eq h21 rfl rfl) rfl rfl rfl [] (by kernel_rfl) fun x29_20 h22 => ?_
  refine MV.step1 (i := 25) rfl (fun _ z => z) (VAL.pure rfl) rfl rfl rfl [] (by kernel_rfl) ?_
  refine MV.step1 (i := 26) rfl (fun _ z => z) (VAL.move rfl) rfl rfl rfl [] (by kernel_rfl) ?_
  rcases condK_inv h22 with ⟨e, h23⟩ | ⟨e, h23⟩
  ·
   clear h11 h12 h13 h14 h15 h16 h17 h18 h19 h20 h21 h22
   subst e
   refine MV.step1 (i := 27) rfl (fun _ z => z) (VAL.move rfl) rfl rfl rfl [] (by kernel_rfl) ?_
   refine MV.lift1 (i := 28) rfl (fun _ z => z) (V.nc h23 rfl) rfl rfl rfl [] (by kernel_rfl) fun x33_21 h24 => ?_
   refine MV.lift1 (i := 29) rfl (fun _ z => z) (V.fa h24 rfl Paf.fo49_0) rfl rfl rfl [] (by kernel_rfl) fun x34_22 h25 => ?_
   refine MV.lift1 (i := 30) rfl (fun _ z => z) (V.ld hS h25 rfl Paf.one47) rfl rfl rfl [] (by kernel_rfl) fun x35_23 h26 => ?_
   refine MV.step0 (i := 31) rfl (VAL.move rfl) rfl rfl rfl ?_
   refine MV.lift0 (i := 32) rfl (V.nc h26 rfl) rfl rfl rfl fun x37_24 h27 => ?_
   refine MV.lift0 (i := 33) rfl (V.fa h27 rfl Paf.fo49_1) rfl rfl rfl fun x38_25 h28 => ?_
   refine MV.lift1 (i := 34) rfl (fun _ z => z) (V.ld hS h28 rfl Paf.one3) rfl rfl rfl [30] (by kernel_rfl) fun x39_26 h29 => ?_
   refine MV.lift1 (i := 35) rfl (fun _ z => z) (V.add h29 rfl rfl) rfl rfl rfl [30] (by kernel_rfl) fun x40_27 h30 => ?_
   refine MV.lift1 (i := 36) rfl (fun _ z => z) (V.ia h30 rfl rfl Paf.el47) rfl rfl rfl [] (by kernel_rfl) fun x41_28 h31 => ?_
   refine MV.lift1 (i := 37) rfl (fun _ z => z) (V.fa h31 rfl Paf.fo68_1) rfl rfl rfl [] (by kernel_rfl) fun x42_29 h32 => ?_
   refine MV.lift1 (i := 38) rfl (fun _ z => z) (V.ld hS h32 rfl Paf.one9) rfl rfl rfl [] (by kernel_rfl) fun x43_30 h33 => ?_
   refine MV.step0 (i := 39) rfl (VAL.move rfl) rfl rfl rfl ?_
   refine MV.lift1 (i := 40) rfl (fun _ z => z) (V.eqS h33 rfl rfl) rfl rfl rfl [] (by kernel_rfl) fun x45_31 h34 => ?_
   refine MV.step1 (i := 41) rfl (fun _ z => z) (VAL.pure rfl) rfl rfl rfl [] (by kernel_rfl) ?_
   refine MV.step1 (i := 42) rfl (fun _ z => z) (VAL.assign rfl) rfl rfl rfl [] (by kernel_rfl) ?_
   refine mdn ?_
   refine CV.ret ?_
   cases h34
   exact PV.ret (by simp) Tryd.results59 hS (RS.tmp rfl RS.nil) rfl
  ·
   clear h11 h12 h13 h14 h15 h16 h17 h18 h19 h20 h21 h22
   subst e
   refine MV.skip1 (i := 27) rfl (fun _ z => z) rfl rfl rfl [] (by kernel_rfl) ?_
   refine MV.skip1 (i := 28) rfl (fun _ z => z) rfl rfl rfl [] (by kernel_rfl) ?_
   refine MV.skip1 (i := 29) rfl (fun _ z => z) rfl rfl rfl [] (by kernel_rfl) ?_
   refine MV.skip1 (i := 30) rfl (fun _ z => z) rfl rfl rfl [] (by kernel_rfl) ?_
   refine MV.skip0 (i := 31) rfl rfl rfl rfl ?_
   refine MV.skip0 (i := 32) rfl rfl rfl rfl ?_
   refine MV.skip0 (i := 33) rfl rfl rfl rfl ?_
   refine MV.skip1 (i := 34) rfl (fun _ z => z) rfl rfl rfl [30] (by kernel_rfl) ?_
   refine MV.skip1 (i := 35) rfl (fun _ z => z) rfl rfl rfl [30] (by kernel_rfl) ?_
   refine MV.skip1 (i := 36) rfl (fun _ z => z) rfl rfl rfl [] (by kernel_rfl) ?_
   refine MV.skip1 (i := 37) rfl (fun _ z => z) rfl rfl rfl [] (by kernel_rfl) ?_
   refine MV.skip1 (i := 38) rfl (fun _ z => z) rfl rfl rfl [] (by kernel_rfl) ?_
   refine MV.skip0 (i := 39) rfl rfl rfl rfl ?_
   refine MV.skip1 (i := 40) rfl (fun _ z => z) rfl rfl rfl [] (by kernel_rfl) ?_
   refine MV.step1 (i := 41) rfl (fun _ z => z) (VAL.pure rfl) rfl rfl rfl [] (by kernel_rfl) ?_
   refine MV.step1 (i := 42) rfl (fun _ z => z) (VAL.assign rfl) rfl rfl rfl [] (by kernel_rfl) ?_
   refine mdn ?_
   refine CV.ret ?_
   cases h23
   exact PV.ret (by simp) Tryd.results59 hS (RS.tmp rfl RS.nil) rfl
 ·
  clear h1 h2 h3 h4 h5 h6 h7 h8 h9 h10
  subst e
  refine MV.skip1 (i := 12) rfl (fun _ z => z) rfl rfl rfl [] (by kernel_rfl) ?_
  refine MV.skip1 (i := 13) rfl (fun _ z => z) rfl rfl rfl [] (by kernel_rfl) ?_
  refine MV.skip1 (i := 14) rfl (fun _ z => z) rfl rfl rfl [] (by kernel_rfl) ?_
  refine MV.skip1 (i := 15) rfl (fun _ z => z) rfl rfl rfl [] (by kernel_rfl) ?_
  refine MV.skip0 (i := 16) rfl rfl rfl rfl ?_
  refine MV.skip0 (i := 17) rfl rfl rfl rfl ?_
  refine MV.skip0 (i := 18) rfl rfl rfl rfl ?_
  refine MV.skip1 (i := 19) rfl (fun _ z => z) rfl rfl rfl [15] (by kernel_rfl) ?_
  refine MV.skip1 (i := 20) rfl (fun _ z => z) rfl rfl rfl [15] (by kernel_rfl) ?_
  refine MV.skip1 (i := 21) rfl (fun _ z => z) rfl rfl rfl [] (by kernel_rfl) ?_
  refine MV.skip1 (i := 22) rfl (fun _ z => z) rfl rfl rfl [] (by kernel_rfl) ?_
  refine MV.skip1 (i := 23) rfl (fun _ z => z) rfl rfl rfl [] (by kernel_rfl) ?_
  refine MV.skip1 (i := 24) rfl (fun _ z => z) rfl rfl rfl [] (by kernel_rfl) ?_
  refine MV.step1 (i := 25) rfl (fun _ z => z) (VAL.pure rfl) rfl rfl rfl [] (by kernel_rfl) ?_
  refine MV.step1 (i := 26) rfl (fun _ z => z) (VAL.move rfl) rfl rfl rfl [] (by kernel_rfl) ?_
  rcases condK_inv h11 with ⟨e, h35⟩ | ⟨e, h35⟩
  ·
   clear h11
   cases e
  ·
   clear h11
   refine MV.skip1 (i := 27) rfl (fun _ z => z) rfl rfl rfl [] (by kernel_rfl) ?_
   refine MV.skip1 (i := 28) rfl (fun _ z => z) rfl rfl rfl [] (by kernel_rfl) ?_
   refine MV.skip1 (i := 29) rfl (fun _ z => z) rfl rfl rfl [] (by kernel_rfl) ?_
   refine MV.skip1 (i := 30) rfl (fun _ z => z) rfl rfl rfl [] (by kernel_rfl) ?_
   refine MV.skip0 (i := 31) rfl rfl rfl rfl ?_
   refine MV.skip0 (i := 32) rfl rfl rfl rfl ?_
   refine MV.skip0 (i := 33) rfl rfl rfl rfl ?_
   refine MV.skip1 (i := 34) rfl (fun _ z => z) rfl rfl rfl [30] (by kernel_rfl) ?_
   refine MV.skip1 (i := 35) rfl (fun _ z => z) rfl rfl rfl [30] (by kernel_rfl) ?_
   refine MV.skip1 (i := 36) rfl (fun _ z => z) rfl rfl rfl [] (by kernel_rfl) ?_
   refine MV.skip1 (i := 37) rfl (fun _ z => z) rfl rfl rfl [] (by kernel_rfl) ?_
   refine MV.skip1 (i := 38) rfl (fun _ z => z) rfl rfl rfl [] (by kernel_rfl) ?_
   refine MV.skip0 (i := 39) rfl rfl rfl rfl ?_
   refine MV.skip1 (i := 40) rfl (fun _ z => z) rfl rfl rfl [] (by kernel_rfl) ?_
   refine MV.step1 (i := 41) rfl (fun _ z => z) (VAL.pure rfl) rfl rfl rfl [] (by kernel_rfl) ?_
   refine MV.step1 (i := 42) rfl (fun _ z => z) (VAL.assign rfl) rfl rfl rfl [] (by kernel_rfl) ?_
   refine mdn ?_
   refine CV.ret ?_
   cases h35
   exact PV.ret (by simp) Tryd.results59 hS (RS.tmp rfl RS.nil) rfl
noncomputable def g13 (ih : FuncId → List HT → List AV → HT → Nat → R) (ro : List HT) (a0 : AV) (T : HT) (nx : Nat) : R :=
 callK (ih 14 ro [a0] T nx) fun x3_1 T1 n1 =>
 .ok (.val (.tup [])) T1 n1
theorem g13_ok (ih : FuncId → List HT → List AV → HT → Nat → R) (hI : ∀ f ro args T nx, GOk Tryd.prog envE f args ro T nx (ih f ro args T nx)) (ro : List HT) (a0 : AV) (T : HT) (nx : Nat) : GOk Tryd.prog envE 13 [a0] ro T nx (g13 ih ro a0 T nx) := by
 refine GOk.of_body Tryd.func13 rfl Tryd.ntmps13 (by kernel_rfl) rfl fun r T' n' h1 w0 base ρ0 its hS hP => ?_
 have X : CtxW envE ρ0 ro r T' n' := trivial
 unfold g13 at h1
 refine CV.region ?_
 refine mv ?_
 refine LV.call hS h1 (hI _ _ _ _ _) hP rfl rfl rfl rfl fun x3_1 T1 n1 h2 ρ its hS => ?_
 refine LV.done ?_
 cases h2
 exact PV.ret (by simp) Tryd.results13 hS RS.nil rfl
noncomputable def g14_k2 (ih : FuncId → List HT → List AV → HT → Nat → R) (ro : List HT) (y0 y2 : AV) (T6 : HT) (n6 : Nat) : R :=
 ncK 140015 y0 fun x19_6 =>
 faK 140016 x19_6 2 fun x20_7 =>
 ldK 140017 T6 ro x20_7 fun x21_8 =>
 iaK 140019 y2 (.lit (.int .i64 (.ofNat 0))) 1 fun x23_9 =>
 ldK 140020 T6 ro x23_9 fun x24_10 =>
 iaK 140021 x21_8 x24_10 5 fun x25_11 =>
 faK 140022 x25_11 2 fun x26_12 =>
 ldK 140023 T6 ro x26_12 fun x27_13 =>
 callK (g26 ro y0 (.lit (.int .i64 (.ofNat 47))) x27_13 (.lit (.string ⟨⟨[]⟩⟩)) y2 T6 n6) fun x29_14 T7 n7 =>
 .ok (.val (.tup [])) T7 n7
noncomputable def g14_b1 (ih : FuncId → List HT → List AV → HT → Nat → R) (ro : List HT) (lp1 : AV → AV → HT → Nat → R) (y0 y2 : AV) (T1 : HT) (n1 : Nat) : R :=
 callK (g21 ro y0 T1 n1) fun x4_1 T2 n2 =>
 neK Tryd.prog 3 (.tmp 4) (.const (.int .i64 (.ofNat 8))) 140005 x4_1 (.lit (.int .i64 (.ofNat 8))) fun x5_2 =>
 condK 140006 x5_2
 (
  callK (ih 25 ro [y0, (.lit (.bool true))] T2 n2) fun x8_3 T3 n3 =>
  bsK 140010 T3 n3 1 3 1 [(0, x8_3)] fun x9_4 T4 n4 =>
  appK 140011 T4 ro n4 3 1 8 y2 x9_4 fun x10_5 T5 n5 =>
  lp1 y0 x10_5 T5 n5
 )
 (
  lenSK 140027 y2 fun x12_15 =>
  eqK Tryd.prog 3 (.tmp 12) (.const (.int .i64 (.ofNat 0))) 140028 x12_15 (.lit (.int .i64 (.ofNat 0))) fun x13_16 =>
  condK 140029 x13_16
  (
   callK (g26 ro y0 (.lit (.int .i64 (.ofNat 38))) (.lit (.int .i64 (.ofNat 0))) (.lit (.string ⟨⟨[]⟩⟩)) (.lit (.slice none 0 0)) T2 n2) fun x15_17 T8 n8 =>
   bsK 140032 T8 n8 1 3 1 [(0, x15_17)] fun x16_18 T9 n9 =>
   g14_k2 ih ro y0 x16_18 T9 n9
  )
  (
   g14_k2 ih ro y0 y2 T2 n2
  )
 )
noncomputable def g14 (ih : FuncId → List HT → List AV → HT → Nat → R) (ro : List HT) (a0 : AV) (T : HT) (nx : Nat) : R :=
 lpf2 140002 (g14_b1 ih ro) 100000 a0 (.lit (.slice none 0 0)) T nx
theorem g14_ok (ih : FuncId → List HT → List AV → HT → Nat → R) (hI : ∀ f ro args T nx, GOk Tryd.prog envE f args ro T nx (ih f ro args T nx)) (ro : List HT) (a0 : AV) (T : HT) (nx : Nat) : GOk Tryd.prog envE 14 [a0] ro T nx (g14 ih ro a0 T nx) := by
 refine GOk.of_body Tryd.func14 rfl Tryd.ntmps14 (by kernel_rfl) rfl fun r T' n' h1 w0 base ρ0 its hS hP => ?_
 have X : CtxW envE ρ0 ro r T' n' := trivial
 unfold g14 at h1
 refine sr ?_
 refine as_ ?_
 refine dn ?_
 refine CV.seq ?_
 refine CV.block ?_
 refine cl2 X 0 2 [] hS h1 ⟨rfl, rfl, trivial⟩ ?_
 intro f1 y0 y2 T1 n1 ρ its hS h2
 unfold g14_b1 at h2
 clear h1
 refine CV.seq ?_
 refine sr ?_
 refine mv ?_
 refine LV.call hS h2 (g21_ok _ _ _ _ ) hP rfl rfl rfl rfl fun x4_1 T2 n2 h3 ρ its hS => ?_
 refine vy (V.ne h3 rfl rfl) fun x5_2 h4 => ?_
 refine dn ?_
 refine CV.cond h4 rfl (fun e h5 => ?_) (fun e h5 => ?_)
 ·
  clear h2 h3 h4
  subst e
  refine CV.skip ?_
  refine PV.thenN ?_
  refine CV.block ?_
  refine CV.region ?_
  refine mv ?_
  refine mv ?_
  refine LV.call hS h5 (hI _ _ _ _ _) hP rfl rfl rfl rfl fun x8_3 T3 n3 h6 ρ its hS => ?_
  refine LV.bslice hS h6 rfl rfl Paf.el29 rfl rfl rfl rfl fun x9_4 T4 n4 h7 ρ its hS hdr => ?_
  refine LV.app hS h7 rfl rfl rfl rfl Paf.el29 rfl rfl rfl fun x10_5 T5 n5 h8 ρ its hS => ?_
  refine as_ ?_
  refine LV.done ?_
  refine PV.blockN ?_
  exact pb2 hS h8 ⟨rfl, rfl, trivial⟩
 ·
  clear h2 h3 h4
  subst e
  refine CV.exit ?_
  refine PV.thenE ?_
  refine PV.thenE ?_
  refine PV.blockE ?_
  refine PV.thenN ?_
  refine cs2 X 0 2 [] (g14_k2 ih ro) ?_ ?_
  ·
   refine sr ?_
   refine mv ?_
   refine vy (V.lenS h5 rfl Paf.ls29) fun x12_15 h19 => ?_
   refine vy (V.eq h19 rfl rfl) fun x13_16 h20 => ?_
   refine dn ?_
   refine CV.cond h20 rfl (fun e h21 => ?_) (fun e h21 => ?_)
   ·
    clear h5 h19 h20
    subst e
    refine CV.region ?_
    refine mv ?_
    refine LV.call hS h21 (g26_ok _ _ _ _ _ _ _ _ ) hP rfl rfl rfl rfl fun x15_17 T8 n8 h22 ρ its hS => ?_
    refine LV.bslice hS h22 rfl rfl Paf.el29 rfl rfl rfl rfl fun x16_18 T9 n9 h23 ρ its hS hdr => ?_
    refine as_ ?_
    refine LV.done ?_
    exact pa2 hS h23 ⟨rfl, rfl, trivial⟩
   ·
    clear h5 h19 h20
    subst e
    refine CV.skip ?_
    exact pa2 hS h21 ⟨rfl, rfl, trivial⟩
  ·
   intro y0 y2 T6 n6 ρ its hS h9
   unfold g14_k2 at h9
   clear h5
   refine CV.regionM [(0, .anywhere), (1, .anywhere), (2, .anywhere), (3, .anywhere), (4, .held), (5, .anywhere), (6, .anywhere), (7, .held), (8, .held), (9, .held), (10, .held), (11, .anywhere), (12, .alone)] rfl (fun c a a' w hd hq => PanicOk.root (P := Tryd.prog) (fn := Tryd.f14) (w0 := w0) (base := base) (E := envE) (ro := ro) (r := r) (T' := T') (n' := n') (ρ0 := ρ0) c a a' w hd hq) (by kernel_rfl) ?_
   refine MV.step0 (i := 0) rfl (VAL.move rfl) rfl rfl rfl ?_
   refine MV.step0 (i := 1) rfl (VAL.move rfl) rfl rfl rfl ?_
   refine MV.lift0 (i := 2) rfl (V.nc h9 rfl) rfl rfl rfl fun x19_6 h10 => ?_
   refine MV.lift0 (i := 3) rfl (V.fa h10 rfl Paf.fo49_2) rfl rfl rfl fun x20_7 h11 => ?_
   refine MV.lift1 (i := 4) rfl (fun _ z => z) (V.ld hS h11 rfl Paf.one23) rfl rfl rfl [] (by kernel_rfl) fun x21_8 h12 => ?_
   refine MV.step0 (i := 5) rfl (VAL.move rfl) rfl rfl rfl ?_
   refine MV.lift0 (i := 6) rfl (V.ia h12 rfl rfl Paf.el29) rfl rfl rfl fun x23_9 h13 => ?_
   refine MV.lift1 (i := 7) rfl (fun _ z => z) (V.ld hS h13 rfl Paf.one3) rfl rfl rfl [4] (by kernel_rfl) fun x24_10 h14 => ?_
   refine MV.lift1 (i := 8) rfl (fun _ z => z) (V.ia h14 rfl rfl Paf.el23) rfl rfl rfl [] (by kernel_rfl) fun x25_11 h15 => ?_
   refine MV.lift1 (i := 9) rfl (fun _ z => z) (V.fa h15 rfl Paf.fo31_2) rfl rfl rfl [] (by kernel_rfl) fun x26_12 h16 => ?_
   refine MV.lift1 (i := 10) rfl (fun _ z => z) (V.ld hS h16 rfl Paf.one3) rfl rfl rfl [] (by kernel_rfl) fun x27_13 h17 => ?_
   refine MV.step0 (i := 11) rfl (VAL.move rfl) rfl rfl rfl ?_
   refine MV.force (i := 12) rfl ?_
   refine LV.call hS h17 (g26_ok _ _ _ _ _ _ _ _ ) hP rfl rfl rfl rfl fun x29_14 T7 n7 h18 ρ its hS => ?_
   refine LV.nextM [] (by kernel_rfl) (fun z => absurd rfl z) ?_
   refine MV.done ?_
   cases h18
   exact PV.ret (by simp) Tryd.results14 hS RS.nil rfl
noncomputable def g19_k1 (ih : FuncId → List HT → List AV → HT → Nat → R) (ro : List HT) (y0 : AV) (T2 : HT) (n2 : Nat) : R :=
 callK (g22 ro y0 (.lit (.int .i64 (.ofNat 8))) T2 n2) fun x15_2 T3 n3 =>
 .ok (.val (.tup [])) T3 n3
noncomputable def g19 (ih : FuncId → List HT → List AV → HT → Nat → R) (ro : List HT) (a0 : AV) (T : HT) (nx : Nat) : R :=
 callK (ih 20 ro [a0] T nx) fun x3_1 T1 n1 =>
 callK (g21 ro a0 T1 n1) fun x5_3 T4 n4 =>
 eqK Tryd.prog 3 (.tmp 5) (.const (.int .i64 (.ofNat 5))) 190007 x5_3 (.lit (.int .i64 (.ofNat 5))) fun x6_4 =>
 condK 190008 x6_4
 (
  ncK 190010 a0 fun x8_5 =>
  faK 190011 x8_5 1 fun x9_6 =>
  ldK 190012 T4 ro x9_6 fun x10_7 =>
  addK Tryd.prog 3 (.tmp 10) (.const (.int .i64 (.ofNat 1))) 190013 x10_7 (.lit (.int .i64 (.ofNat 1))) fun x11_8 =>
  ncK 190014 a0 fun x12_9 =>
  faK 190015 x12_9 1 fun x13_10 =>
  stK 190016 T4 x13_10 x11_8 fun T5 =>
  g19_k1 ih ro a0 T5 n4
 )
 (
  g19_k1 ih ro a0 T4 n4
 )
theorem g19_ok (ih : FuncId → List HT → List AV → HT → Nat → R) (hI : ∀ f ro args T nx, GOk Tryd.prog envE f args ro T nx (ih f ro args T nx)) (ro : List HT) (a0 : AV) (T : HT) (nx : Nat) : GOk Tryd.prog envE 19 [a0] ro T nx (g19 ih ro a0 T nx) := by
 refine GOk.of_body Tryd.func19 rfl Tryd.ntmps19 (by kernel_rfl) rfl fun r T' n' h1 w0 base ρ0 its hS hP => ?_
 have X : CtxW envE ρ0 ro r T' n' := trivial
 unfold g19 at h1
 refine sr ?_
 refine mv ?_
 refine LV.call hS h1 (hI _ _ _ _ _) hP rfl rfl rfl rfl fun x3_1 T1 n1 h2 ρ its hS => ?_
 refine dn ?_
 refine cs1 X 0 [] (g19_k1 ih ro) ?_ ?_
 ·
  refine sr ?_
  refine mv ?_
  refine LV.call hS h2 (g21_ok _ _ _ _ ) hP rfl rfl rfl rfl fun x5_3 T4 n4 h5 ρ its hS => ?_
  refine vy (V.eq h5 rfl rfl) fun x6_4 h6 => ?_
  refine dn ?_
  refine CV.cond h6 rfl (fun e h7 => ?_) (fun e h7 => ?_)
  ·
   clear h1 h2 h5 h6
   subst e
   refine CV.region ?_
   refine mv ?_
   refine vy (V.nc h7 rfl) fun x8_5 h8 => ?_
   refine vy (V.fa h8 rfl Paf.fo49_1) fun x9_6 h9 => ?_
   refine vy (V.ld hS h9 rfl Paf.one3) fun x10_7 h10 => ?_
   refine vy (V.add h10 rfl rfl) fun x11_8 h11 => ?_
   refine vy (V.nc h11 rfl) fun x12_9 h12 => ?_
   refine vy (V.fa h12 rfl Paf.fo49_1) fun x13_10 h13 => ?_
   refine LV.st hS h13 rfl rfl rfl Paf.siz3 rfl rfl fun T5 its h14 hS => ?_
   refine LV.done ?_
   exact pa1 hS h14 ⟨rfl, trivial⟩
  ·
   clear h1 h2 h5 h6
   subst e
   refine CV.skip ?_
   exact pa1 hS h7 ⟨rfl, trivial⟩
 ·
  intro y0 T2 n2 ρ its hS h3
  unfold g19_k1 at h3
  clear h1 h2
  refine CV.region ?_
  refine mv ?_
  refine LV.call hS h3 (g22_ok _ _ _ _ _ ) hP rfl rfl rfl rfl fun x15_2 T3 n3 h4 ρ its hS => ?_
  refine LV.done ?_
  cases h4
  exact PV.ret (by simp) Tryd.results19 hS RS.nil rfl
noncomputable def g20 (ih : FuncId → List HT → List AV → HT → Nat → R) (ro : List HT) (a0 : AV) (T : HT) (nx : Nat) : R :=
 callK (ih 29 ro [a0] T nx) fun x7_1 T1 n1 =>
 exK 200005 x7_1 0 fun x8_2 =>
 exK 200006 x7_1 1 fun x9_3 =>
 .ok (.val x8_2) T1 n1
theorem g20_ok (ih : FuncId → List HT → List AV → HT → Nat → R) (hI : ∀ f ro args T nx, GOk Tryd.prog envE f args ro T nx (ih f ro args T nx)) (ro : List HT) (a0 : AV) (T : HT) (nx : Nat) : GOk Tryd.prog envE 20 [a0] ro T nx (g20 ih ro a0 T nx) := by
 refine GOk.of_body Tryd.func20 rfl Tryd.ntmps20 (by kernel_rfl) rfl fun r T' n' h1 w0 base ρ0 its hS hP => ?_
 have X : CtxW envE ρ0 ro r T' n' := trivial
 unfold g20 at h1
 refine sr ?_
 refine as_ ?_
 refine dn ?_
 refine sr ?_
 refine mv ?_
 refine LV.call hS h1 (hI _ _ _ _ _) hP rfl rfl rfl rfl fun x7_1 T1 n1 h2 ρ its hS => ?_
 refine mv ?_
 refine vy (V.ex h2 rfl) fun x8_2 h3 => ?_
 refine vy (V.ex h3 rfl) fun x9_3 h4 => ?_
 refine as_ ?_
 refine as_ ?_
 refine dn ?_
 refine sr ?_
 refine mv ?_
 refine as_ ?_
 refine dn ?_
 refine CV.ret ?_
 cases h4
 exact PV.ret (by simp) Tryd.results20 hS (RS.tmp rfl RS.nil) rfl
noncomputable def g25_k1 (ih : FuncId → List HT → List AV → HT → Nat → R) (ro : List HT) (y0 y1 y4 : AV) (T9 : HT) (n9 : Nat) : R :=
 callK (ih 38 ro [y0] T9 n9) fun x27_9 T10 n10 =>
 .ok (.val x27_9) T10 n10
noncomputable def g25 (ih : FuncId → List HT → List AV → HT → Nat → R) (ro : List HT) (a0 a1 : AV) (T : HT) (nx : Nat) : R :=
 bsK 250003 T nx 1 9 1 [(0, (.lit (.string ⟨⟨[105, 102]⟩⟩)))] fun x8_1 T1 n1 =>
 callK (g35 ro a0 x8_1 T1 n1) fun x9_2 T2 n2 =>
 condK 250006 x9_2
 (
  callK (ih 36 ro [a0] T2 n2) fun x11_3 T3 n3 =>
  .ok (.val x11_3) T3 n3
 )
 (
  bsK 250011 T2 n2 1 9 1 [(0, (.lit (.string ⟨⟨[102, 111, 114]⟩⟩)))] fun x14_4 T4 n4 =>
  callK (g35 ro a0 x14_4 T4 n4) fun x15_5 T5 n5 =>
  condK 250014 x15_5
  (
   callK (ih 37 ro [a0] T5 n5) fun x17_6 T6 n6 =>
   .ok (.val x17_6) T6 n6
  )
  (
   bsK 250019 T5 n5 1 9 1 [(0, (.lit (.string ⟨⟨[100, 101, 102]⟩⟩)))] fun x20_7 T7 n7 =>
   callK (g35 ro a0 x20_7 T7 n7) fun x21_8 T8 n8 =>
   condK 250022 x21_8
   (
    notK 250027 a1 fun x23_10 =>
    condK 250028 x23_10
    (
     callK (g30 ro a0 T8 n8) fun x25_11 T11 n11 =>
     g25_k1 ih ro a0 a1 (.lit (.int .i64 (.ofNat 0))) T11 n11
    )
    (
     g25_k1 ih ro a0 a1 (.lit (.int .i64 (.ofNat 0))) T8 n8
    )
   )
   (
    callK (ih 39 ro [a0, a1] T8 n8) fun x30_12 T12 n12 =>
    callK (g22 ro a0 (.lit (.int .i64 (.ofNat 5))) T12 n12) fun x32_13 T13 n13 =>
    .ok (.val x30_12) T13 n13
   )
  )
 )
theorem g25_ok (ih : FuncId → List HT → List AV → HT → Nat → R) (hI : ∀ f ro args T nx, GOk Tryd.prog envE f args ro T nx (ih f ro args T nx)) (ro : List HT) (a0 a1 : AV) (T : HT) (nx : Nat) : GOk Tryd.prog envE 25 [a0, a1] ro T nx (g25 ih ro a0 a1 T nx) := by
 refine GOk.of_body Tryd.func25 rfl Tryd.ntmps25 (by kernel_rfl) rfl fun r T' n' h1 w0 base ρ0 its hS hP => ?_
 have X : CtxW envE ρ0 ro r T' n' := trivial
 unfold g25 at h1
 refine sr ?_
 refine as_ ?_
 refine dn ?_
 refine CV.seq ?_
 refine CV.block ?_
 refine sr ?_
 refine mv ?_
 refine LV.bslice hS h1 rfl rfl Paf.el33 rfl rfl rfl rfl fun x8_1 T1 n1 h2 ρ its hS hdr => ?_
 refine LV.call hS h2 (g35_ok _ _ _ _ _ ) hP rfl rfl rfl rfl fun x9_2 T2 n2 h3 ρ its hS => ?_
 refine as_ ?_
 refine dn ?_
 refine CV.cond h3 rfl (fun e h4 => ?_) (fun e h4 => ?_)
 ·
  clear h1 h2 h3
  subst e
  refine sr ?_
  refine mv ?_
  refine LV.call hS h4 (hI _ _ _ _ _) hP rfl rfl rfl rfl fun x11_3 T3 n3 h5 ρ its hS => ?_
  refine as_ ?_
  refine dn ?_
  refine CV.ret ?_
  refine PV.blockR ?_
  refine PV.thenR ?_
  cases h5
  exact PV.ret (by simp) Tryd.results25 hS (RS.tmp rfl RS.nil) rfl
 ·
  clear h1 h2 h3
  subst e
  refine sr ?_
  refine mv ?_
  refine LV.bslice hS h4 rfl rfl Paf.el33 rfl rfl rfl rfl fun x14_4 T4 n4 h6 ρ its hS hdr => ?_
  refine LV.call hS h6 (g35_ok _ _ _ _ _ ) hP rfl rfl rfl rfl fun x15_5 T5 n5 h7 ρ its hS => ?_
  refine as_ ?_
  refine dn ?_
  refine CV.cond h7 rfl (fun e h8 => ?_) (fun e h8 => ?_)
  ·
   clear h4 h6 h7
   subst e
   refine sr ?_
   refine mv ?_
   refine LV.call hS h8 (hI _ _ _ _ _) hP rfl rfl rfl rfl fun x17_6 T6 n6 h9 ρ its hS => ?_
   refine as_ ?_
   refine dn ?_
   refine CV.ret ?_
   refine PV.blockR ?_
   refine PV.thenR ?_
   cases h9
   exact PV.ret (by simp) Tryd.results25 hS (RS.tmp rfl RS.nil) rfl
  ·
   clear h4 h6 h7
   subst e
   refine sr ?_
   refine mv ?_
   refine LV.bslice hS h8 rfl rfl Paf.el33 rfl rfl rfl rfl fun x20_7 T7 n7 h10 ρ its hS hdr => ?_
   refine LV.call hS h10 (g35_ok _ _ _ _ _ ) hP rfl rfl rfl rfl fun x21_8 T8 n8 h11 ρ its hS => ?_
   refine as_ ?_
   refine dn ?_
   refine CV.cond h11 rfl (fun e h12 => ?_) (fun e h12 => ?_)
   ·
    clear h8 h10 h11
    subst e
    refine cs3 X 0 1 4 [] (g25_k1 ih ro) ?_ ?_
    ·
     refine sr ?_
     refine mv ?_
     refine vy (V.not h12 rfl) fun x23_10 h15 => ?_
     refine dn ?_
     refine CV.cond h15 rfl (fun e h16 => ?_) (fun e h16 => ?_)
     ·
      clear h12 h15
      subst e
      refine CV.region ?_
      refine mv ?_
      refine LV.call hS h16 (g30_ok _ _ _ _ ) hP rfl rfl rfl rfl fun x25_11 T11 n11 h17 ρ its hS => ?_
      refine LV.done ?_
      exact pa3 hS h17 ⟨rfl, rfl, rfl, trivial⟩
     ·
      clear h12 h15
      subst e
      refine CV.skip ?_
      exact pa3 hS h16 ⟨rfl, rfl, rfl, trivial⟩
    ·
     intro y0 y1 y4 T9 n9 ρ its hS h13
     unfold g25_k1 at h13
     clear h12
     refine sr ?_
     refine mv ?_
     refine LV.call hS h13 (hI _ _ _ _ _) hP rfl rfl rfl rfl fun x27_9 T10 n10 h14 ρ its hS => ?_
     refine as_ ?_
     refine dn ?_
     refine CV.ret ?_
     refine PV.blockR ?_
     refine PV.thenR ?_
     cases h14
     exact PV.ret (by simp) Tryd.results25 hS (RS.tmp rfl RS.nil) rfl
   ·
    clear h8 h10 h11
    subst e
    refine CV.skip ?_
    refine PV.blockN ?_
    refine PV.thenN ?_
    refine sr ?_
    refine mv ?_
    refine mv ?_
    refine LV.call hS h12 (hI _ _ _ _ _) hP rfl rfl rfl rfl fun x30_12 T12 n12 h18 ρ its hS => ?_
    refine as_ ?_
    refine dn ?_
    refine sr ?_
    refine mv ?_
    refine LV.call hS h18 (g22_ok _ _ _ _ _ ) hP rfl rfl rfl rfl fun x32_13 T13 n13 h19 ρ its hS => ?_
    refine dn ?_
    refine sr ?_
    refine mv ?_
    refine as_ ?_
    refine dn ?_
    refine CV.ret ?_
    cases h19
    exact PV.ret (by simp) Tryd.results25 hS (RS.tmp rfl RS.nil) rfl

end Go.Proofs.YtdepmlcnllofiaaDoor.Pa
