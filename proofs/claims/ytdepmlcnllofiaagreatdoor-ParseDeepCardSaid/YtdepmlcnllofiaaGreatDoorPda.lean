/-
  Proved here: plain functions that do what the program's functions do, each with its proof.
-/
import Derived.Test.YtdepmlcnllofiaaGreatDoorPdf
namespace Go.Proofs.YtdepmlcnllofiaaGreatDoor.Pd
open Go.EY Go.EX Go.SX Go.RowKit
def envE : List (Nat × AV) := [(5, (.iface 253 (.opq 0))), (4, (.iface 253 (.opq 1))), (2, (.iface 253 (.opq 2))), (6, (.iface 253 (.opq 3))), (7, (.iface 253 (.opq 4))), (8, (.iface 253 (.opq 5))), (9, (.iface 253 (.opq 6))), (3, (.iface 253 (.opq 7))), (10, (.iface 253 (.opq 8))), (0, (.iface 253 (.opq 9))), (11, (.iface 253 (.opq 10))), (12, (.iface 253 (.opq 11))), (1, (.iface 253 (.opq 12))), (13, (.iface 253 (.opq 13))), (14, (.iface 253 (.opq 14))), (15, (.iface 253 (.opq 15))), (16, (.iface 253 (.opq 16)))]
noncomputable def bld32 (ps : List (Nat × AV)) : Option AV := (placesA Tryz.prog 32).bind fun q => (fillA q.2 (q.1.map .lit) ps).map .agg
noncomputable def bld36 (ps : List (Nat × AV)) : Option AV := (placesA Tryz.prog 36).bind fun q => (fillA q.2 (q.1.map .lit) ps).map .agg
noncomputable def bld69 (ps : List (Nat × AV)) : Option AV := (placesA Tryz.prog 69).bind fun q => (fillA q.2 (q.1.map .lit) ps).map .agg
noncomputable def bld74 (ps : List (Nat × AV)) : Option AV := (placesA Tryz.prog 74).bind fun q => (fillA q.2 (q.1.map .lit) ps).map .agg
noncomputable def bld98 (ps : List (Nat × AV)) : Option AV := (placesA Tryz.prog 98).bind fun q => (fillA q.2 (q.1.map .lit) ps).map .agg
noncomputable def bld123 (ps : List (Nat × AV)) : Option AV := (placesA Tryz.prog 123).bind fun q => (fillA q.2 (q.1.map .lit) ps).map .agg
noncomputable def bld139 (ps : List (Nat × AV)) : Option AV := (placesA Tryz.prog 139).bind fun q => (fillA q.2 (q.1.map .lit) ps).map .agg
noncomputable def bld168 (ps : List (Nat × AV)) : Option AV := (placesA Tryz.prog 168).bind fun q => (fillA q.2 (q.1.map .lit) ps).map .agg
noncomputable def g50 (ro : List HT) (a0 : AV) (T : HT) (nx : Nat) : R :=
 ncK 500003 a0 fun x4_1 =>
 faK 500004 x4_1 0 fun x5_2 =>
 ldK 500005 T ro x5_2 fun x6_3 =>
 ncK 500007 a0 fun x8_4 =>
 faK 500008 x8_4 1 fun x9_5 =>
 ldK 500009 T ro x9_5 fun x10_6 =>
 iaK 500010 x6_3 x10_6 3 fun x11_7 =>
 faK 500011 x11_7 0 fun x12_8 =>
 ldK 500012 T ro x12_8 fun x13_9 =>
 .ok (.val x13_9) T nx
theorem g50_ok (ro : List HT) (a0 : AV) (T : HT) (nx : Nat) : GOk Tryz.prog envE 50 [a0] ro T nx (g50 ro a0 T nx) := by
 refine GOk.of_body Tryz.func50 rfl Tryz.ntmps50 (by kernel_rfl) rfl fun r T' n' h1 w0 base ρ0 its hS hP => ?_
 have X : CtxW envE ρ0 ro r T' n' := trivial
 unfold g50 at h1
 refine sr ?_
 refine as_ ?_
 refine dn ?_
 refine CV.seq ?_
 refine CV.regionM [(0, .anywhere), (1, .anywhere), (2, .anywhere), (3, .held), (4, .anywhere), (5, .anywhere), (6, .anywhere), (7, .held), (8, .held), (9, .held), (10, .held), (11, .held)] rfl (fun c a a' w hd hq => PanicOk.root (P := Tryz.prog) (fn := Tryz.f50) (w0 := w0) (base := base) (E := envE) (ro := ro) (r := r) (T' := T') (n' := n') (ρ0 := ρ0) c a a' w hd hq) (by kernel_rfl) ?_
 refine MV.step0 (i := 0) rfl (VAL.move rfl) rfl rfl rfl ?_
 refine MV.lift0 (i := 1) rfl (V.nc h1 rfl) rfl rfl rfl fun x4_1 h2 => ?_
 refine MV.lift0 (i := 2) rfl (V.fa h2 rfl Pdf.fo98_0) rfl rfl rfl fun x5_2 h3 => ?_
 refine MV.lift1 (i := 3) rfl (fun _ z => z) (V.ld hS h3 rfl Pdf.one96) rfl rfl rfl [] (by kernel_rfl) fun x6_3 h4 => ?_
 refine MV.step0 (i := 4) rfl (VAL.move rfl) rfl rfl rfl ?_
 refine MV.lift0 (i := 5) rfl (V.nc h4 rfl) rfl rfl rfl fun x8_4 h5 => ?_
 refine MV.lift0 (i := 6) rfl (V.fa h5 rfl Pdf.fo98_1) rfl rfl rfl fun x9_5 h6 => ?_
 refine MV.lift1 (i := 7) rfl (fun _ z => z) (V.ld hS h6 rfl Pdf.one3) rfl rfl rfl [3] (by kernel_rfl) fun x10_6 h7 => ?_
 refine MV.lift1 (i := 8) rfl (fun _ z => z) (V.ia h7 rfl rfl Pdf.el96) rfl rfl rfl [] (by kernel_rfl) fun x11_7 h8 => ?_
 refine MV.lift1 (i := 9) rfl (fun _ z => z) (V.fa h8 rfl Pdf.fo139_0) rfl rfl rfl [] (by kernel_rfl) fun x12_8 h9 => ?_
 refine MV.lift1 (i := 10) rfl (fun _ z => z) (V.ld hS h9 rfl Pdf.one3) rfl rfl rfl [] (by kernel_rfl) fun x13_9 h10 => ?_
 refine MV.step1 (i := 11) rfl (fun _ z => z) (VAL.assign rfl) rfl rfl rfl [] (by kernel_rfl) ?_
 refine mdn ?_
 refine CV.ret ?_
 cases h10
 exact PV.ret (by simp) Tryz.results50 hS (RS.tmp rfl RS.nil) rfl
noncomputable def g51_k1 (ro : List HT) (y4 y5 y6 : AV) (T4 : HT) (n4 : Nat) : R :=
 faK 510021 y6 1 fun x32_12 =>
 ldK 510022 T4 ro x32_12 fun x33_13 =>
 faK 510023 y6 2 fun x34_14 =>
 ldK 510024 T4 ro x34_14 fun x35_15 =>
 .ok (.val (.tup [x33_13, x35_15])) T4 n4
noncomputable def g51 (ro : List HT) (a0 a1 : AV) (T : HT) (nx : Nat) : R :=
 callK (g50 ro a0 T nx) fun x8_1 T1 n1 =>
 neK Tryz.prog 3 (.tmp 8) (.tmp 9) 510006 x8_1 a1 fun x10_2 =>
 condK 510007 x10_2
 (
  .bad 510008
 )
 (
  ncK 510010 a0 fun x14_3 =>
  faK 510011 x14_3 0 fun x15_4 =>
  ldK 510012 T1 ro x15_4 fun x16_5 =>
  ncK 510014 a0 fun x18_6 =>
  faK 510015 x18_6 1 fun x19_7 =>
  ldK 510016 T1 ro x19_7 fun x20_8 =>
  iaK 510017 x16_5 x20_8 3 fun x21_9 =>
  ldAK 510018 T1 ro x21_9 3 fun x22_10 =>
  newK T1 n1 (.obj [.lit (.int .i64 0), .lit (.string ⟨#[]⟩), .lit (.int .i64 0)] 139) fun x6_11 T2 n2 =>
  stAK 510020 T2 x6_11 x22_10 3 fun T3 =>
  neK Tryz.prog 3 (.tmp 23) (.const (.int .i64 (.ofNat 8))) 510028 a1 (.lit (.int .i64 (.ofNat 8))) fun x24_16 =>
  condK 510029 x24_16
  (
   fldK 510031 T3 ro a0 1 fun x28_17 =>
   addK Tryz.prog 3 (.tmp 28) (.const (.int .i64 (.ofNat 1))) 510032 x28_17 (.lit (.int .i64 (.ofNat 1))) fun x29_18 =>
   faK 510033 a0 1 fun x31_19 =>
   stK 510034 T3 x31_19 x29_18 fun T5 =>
   g51_k1 ro (.lit (.string ⟨⟨[]⟩⟩)) (.lit (.int .i64 (.ofNat 0))) x6_11 T5 n2
  )
  (
   g51_k1 ro (.lit (.string ⟨⟨[]⟩⟩)) (.lit (.int .i64 (.ofNat 0))) x6_11 T3 n2
  )
 )
theorem g51_ok (ro : List HT) (a0 a1 : AV) (T : HT) (nx : Nat) : GOk Tryz.prog envE 51 [a0, a1] ro T nx (g51 ro a0 a1 T nx) := by
 refine GOk.of_body Tryz.func51 rfl Tryz.ntmps51 (by kernel_rfl) rfl fun r T' n' h1 w0 base ρ0 its hS hP => ?_
 have X : CtxW envE ρ0 ro r T' n' := trivial
 unfold g51 at h1
 refine sr ?_
 refine as_ ?_
 refine as_ ?_
 refine dn ?_
 refine CV.seq ?_
 refine sr ?_
 refine mv ?_
 refine LV.call hS h1 (g50_ok _ _ _ _ ) hP rfl rfl rfl rfl fun x8_1 T1 n1 h2 ρ its hS => ?_
 refine mv ?_
 refine vy (V.ne h2 rfl rfl) fun x10_2 h3 => ?_
 refine dn ?_
 refine CV.cond h3 rfl (fun e h4 => ?_) (fun e h4 => ?_)
 ·
  clear h1 h2 h3
  subst e
  cases h4
 ·
  clear h1 h2 h3
  subst e
  refine CV.skip ?_
  refine PV.thenN ?_
  refine CV.seq ?_
  refine CV.regionM [(0, .anywhere), (1, .anywhere), (2, .anywhere), (3, .held), (4, .anywhere), (5, .anywhere), (6, .anywhere), (7, .held), (8, .held), (9, .held), (10, .alone), (11, .alone)] rfl (fun c a a' w hd hq => PanicOk.root (P := Tryz.prog) (fn := Tryz.f51) (w0 := w0) (base := base) (E := envE) (ro := ro) (r := r) (T' := T') (n' := n') (ρ0 := ρ0) c a a' w hd hq) (by kernel_rfl) ?_
  refine MV.step0 (i := 0) rfl (VAL.move rfl) rfl rfl rfl ?_
  refine MV.lift0 (i := 1) rfl (V.nc h4 rfl) rfl rfl rfl fun x14_3 h5 => ?_
  refine MV.lift0 (i := 2) rfl (V.fa h5 rfl Pdf.fo98_0) rfl rfl rfl fun x15_4 h6 => ?_
  refine MV.lift1 (i := 3) rfl (fun _ z => z) (V.ld hS h6 rfl Pdf.one96) rfl rfl rfl [] (by kernel_rfl) fun x16_5 h7 => ?_
  refine MV.step0 (i := 4) rfl (VAL.move rfl) rfl rfl rfl ?_
  refine MV.lift0 (i := 5) rfl (V.nc h7 rfl) rfl rfl rfl fun x18_6 h8 => ?_
  refine MV.lift0 (i := 6) rfl (V.fa h8 rfl Pdf.fo98_1) rfl rfl rfl fun x19_7 h9 => ?_
  refine MV.lift1 (i := 7) rfl (fun _ z => z) (V.ld hS h9 rfl Pdf.one3) rfl rfl rfl [3] (by kernel_rfl) fun x20_8 h10 => ?_
  refine MV.lift1 (i := 8) rfl (fun _ z => z) (V.ia h10 rfl rfl Pdf.el96) rfl rfl rfl [] (by kernel_rfl) fun x21_9 h11 => ?_
  refine MV.lift1 (i := 9) rfl (fun _ z => z) (V.ldA hS h11 rfl Pdf.agg139) rfl rfl rfl [] (by kernel_rfl) fun x22_10 h12 => ?_
  refine MV.force (i := 10) rfl ?_
  refine LV.alloc hS h12 rfl Pdf.zr139 rfl rfl rfl fun x6_11 T2 n2 h13 ρ its hS hdr => ?_
  refine LV.nextM [9] (by kernel_rfl) (fun _ => hdr) ?_
  refine MV.force (i := 11) rfl ?_
  refine LV.stA hS h13 rfl rfl rfl Pdf.agg139 rfl rfl rfl fun T3 its h14 hS => ?_
  refine LV.nextM [] (by kernel_rfl) (fun z => absurd rfl z) ?_
  refine mdn ?_
  refine cs3 X 4 5 6 [] (g51_k1 ro) ?_ ?_
  ·
   refine sr ?_
   refine mv ?_
   refine vy (V.ne h14 rfl rfl) fun x24_16 h20 => ?_
   refine dn ?_
   refine CV.cond h20 rfl (fun e h21 => ?_) (fun e h21 => ?_)
   ·
    clear h4 h5 h6 h7 h8 h9 h10 h11 h12 h13 h14 h20
    subst e
    refine CV.region ?_
    refine mv ?_
    refine fl hS h21 Pdf.fo98_1 Pdf.one3 fun x28_17 h22 => ?_
    refine vy (V.add h22 rfl rfl) fun x29_18 h23 => ?_
    refine fa2 h23 Pdf.fo98_1 fun x31_19 h24 => ?_
    refine LV.st hS h24 rfl rfl rfl Pdf.siz3 rfl rfl fun T5 its h25 hS => ?_
    refine LV.done ?_
    exact pa3 hS h25 ⟨rfl, rfl, rfl, trivial⟩
   ·
    clear h4 h5 h6 h7 h8 h9 h10 h11 h12 h13 h14 h20
    subst e
    refine CV.skip ?_
    exact pa3 hS h21 ⟨rfl, rfl, rfl, trivial⟩
  ·
   intro y4 y5 y6 T4 n4 ρ its hS h15
   unfold g51_k1 at h15
   clear h4 h5 h6 h7 h8 h9 h10 h11 h12 h13 h14
   refine CV.seq ?_
   refine CV.regionM [(0, .anywhere), (1, .held), (2, .anywhere), (3, .held), (4, .held), (5, .held)] rfl (fun c a a' w hd hq => PanicOk.root (P := Tryz.prog) (fn := Tryz.f51) (w0 := w0) (base := base) (E := envE) (ro := ro) (r := r) (T' := T') (n' := n') (ρ0 := ρ0) c a a' w hd hq) (by kernel_rfl) ?_
   refine MV.lift0 (i := 0) rfl (V.fa h15 rfl Pdf.fo139_1) rfl rfl rfl fun x32_12 h16 => ?_
   refine MV.lift1 (i := 1) rfl (fun _ z => z) (V.ld hS h16 rfl Pdf.one9) rfl rfl rfl [] (by kernel_rfl) fun x33_13 h17 => ?_
   refine MV.lift0 (i := 2) rfl (V.fa h17 rfl Pdf.fo139_2) rfl rfl rfl fun x34_14 h18 => ?_
   refine MV.lift1 (i := 3) rfl (fun _ z => z) (V.ld hS h18 rfl Pdf.one3) rfl rfl rfl [1] (by kernel_rfl) fun x35_15 h19 => ?_
   refine MV.step1 (i := 4) rfl (fun _ z => z) (VAL.assign rfl) rfl rfl rfl [3] (by kernel_rfl) ?_
   refine MV.step1 (i := 5) rfl (fun _ z => z) (VAL.assign rfl) rfl rfl rfl [] (by kernel_rfl) ?_
   refine mdn ?_
   refine CV.ret ?_
   cases h19
   exact PV.ret (by simp) Tryz.results51 hS (RS.tmp rfl (RS.tmp rfl RS.nil)) rfl
noncomputable def g147_b1 (ro : List HT) (lp1 : AV → AV → AV → AV → AV → HT → Nat → R) (y0 y1 y4 y7 y8 : AV) (T1 : HT) (n1 : Nat) : R :=
 ltK Tryz.prog 3 (.tmp 8) (.tmp 7) 1470006 y8 y7 fun x9_2 =>
 condK 1470007 x9_2
 (
  iaK 1470013 y0 y8 1 fun x14_3 =>
  ldK 1470014 T1 ro x14_3 fun x15_4 =>
  eqSK Tryz.prog 9 (.tmp 11) (.tmp 15) 1470015 y1 x15_4 fun x16_5 =>
  condK 1470016 x16_5
  (
   .ok (.val y8) T1 n1
  )
  (
   addK Tryz.prog 3 (.tmp 8) (.const (.int .i64 (.ofNat 1))) 1470019 y8 (.lit (.int .i64 (.ofNat 1))) fun x18_6 =>
   lp1 y0 y1 y4 y7 x18_6 T1 n1
  )
 )
 (
  .ok (.val (.lit (.int .i64 (.negSucc 0)))) T1 n1
 )
noncomputable def g147 (ro : List HT) (a0 a1 : AV) (T : HT) (nx : Nat) : R :=
 lenSK 1470003 a0 fun x7_1 =>
 lpf5 1470005 (g147_b1 ro) 100000 a0 a1 (.lit (.int .i64 (.ofNat 0))) x7_1 (.lit (.int .i64 (.ofNat 0))) T nx
theorem g147_ok (ro : List HT) (a0 a1 : AV) (T : HT) (nx : Nat) : GOk Tryz.prog envE 147 [a0, a1] ro T nx (g147 ro a0 a1 T nx) := by
 refine GOk.of_body Tryz.func147 rfl Tryz.ntmps147 (by kernel_rfl) rfl fun r T' n' h1 w0 base ρ0 its hS hP => ?_
 have X : CtxW envE ρ0 ro r T' n' := trivial
 unfold g147 at h1
 refine sr ?_
 refine as_ ?_
 refine dn ?_
 refine CV.seq ?_
 refine sr ?_
 refine mv ?_
 refine vy (V.lenS h1 rfl Pdf.ls46) fun x7_1 h2 => ?_
 refine mv ?_
 refine dn ?_
 refine CV.block ?_
 refine cl5 X 0 1 4 7 8 [] hS h2 ⟨rfl, rfl, rfl, rfl, rfl, trivial⟩ ?_
 intro f1 y0 y1 y4 y7 y8 T1 n1 ρ its hS h3
 unfold g147_b1 at h3
 clear h1 h2
 refine sr ?_
 refine vy (V.lt h3 rfl rfl) fun x9_2 h4 => ?_
 refine dn ?_
 refine CV.seq ?_
 refine CV.cond h4 rfl (fun e h5 => ?_) (fun e h5 => ?_)
 ·
  clear h3 h4
  subst e
  refine CV.skip ?_
  refine PV.thenN ?_
  refine CV.seq ?_
  refine CV.block ?_
  refine sr ?_
  refine mv ?_
  refine as_ ?_
  refine dn ?_
  refine sr ?_
  refine mv ?_
  refine mv ?_
  refine mv ?_
  refine vy (V.ia h5 rfl rfl Pdf.el46) fun x14_3 h6 => ?_
  refine vy (V.ld hS h6 rfl Pdf.one9) fun x15_4 h7 => ?_
  refine vy (V.eqS h7 rfl rfl) fun x16_5 h8 => ?_
  refine dn ?_
  refine CV.cond h8 rfl (fun e h9 => ?_) (fun e h9 => ?_)
  ·
   clear h5 h6 h7 h8
   subst e
   refine sr ?_
   refine mv ?_
   refine as_ ?_
   refine dn ?_
   refine CV.ret ?_
   refine PV.blockR ?_
   refine PV.thenR ?_
   refine PV.thenR ?_
   refine PV.blockR ?_
   refine PV.thenR ?_
   cases h9
   exact PV.ret (by simp) Tryz.results147 hS (RS.tmp rfl RS.nil) rfl
  ·
   clear h5 h6 h7 h8
   subst e
   refine CV.skip ?_
   refine PV.blockN ?_
   refine PV.thenN ?_
   refine CV.region ?_
   refine vy (V.add h9 rfl rfl) fun x18_6 h10 => ?_
   refine mv ?_
   refine LV.done ?_
   exact pb5 hS h10 ⟨rfl, rfl, rfl, rfl, rfl, trivial⟩
 ·
  clear h3 h4
  subst e
  refine CV.exit ?_
  refine PV.thenE ?_
  refine PV.thenE ?_
  refine PV.blockE ?_
  refine PV.thenN ?_
  refine sr ?_
  refine as_ ?_
  refine dn ?_
  refine CV.ret ?_
  cases h5
  exact PV.ret (by simp) Tryz.results147 hS (RS.tmp rfl RS.nil) rfl
noncomputable def g87 (ro : List HT) (a0 a1 : AV) (T : HT) (nx : Nat) : R :=
 callK (g147 ro a0 a1 T nx) fun x7_1 T1 n1 =>
 geK Tryz.prog 3 (.tmp 7) (.const (.int .i64 (.ofNat 0))) 870005 x7_1 (.lit (.int .i64 (.ofNat 0))) fun x8_2 =>
 .ok (.val x8_2) T1 n1
theorem g87_ok (ro : List HT) (a0 a1 : AV) (T : HT) (nx : Nat) : GOk Tryz.prog envE 87 [a0, a1] ro T nx (g87 ro a0 a1 T nx) := by
 refine GOk.of_body Tryz.func87 rfl Tryz.ntmps87 (by kernel_rfl) rfl fun r T' n' h1 w0 base ρ0 its hS hP => ?_
 have X : CtxW envE ρ0 ro r T' n' := trivial
 unfold g87 at h1
 refine sr ?_
 refine as_ ?_
 refine dn ?_
 refine sr ?_
 refine mv ?_
 refine mv ?_
 refine LV.call hS h1 (g147_ok _ _ _ _ _ ) hP rfl rfl rfl rfl fun x7_1 T1 n1 h2 ρ its hS => ?_
 refine vy (V.ge h2 rfl rfl) fun x8_2 h3 => ?_
 refine as_ ?_
 refine dn ?_
 refine CV.ret ?_
 cases h3
 exact PV.ret (by simp) Tryz.results87 hS (RS.tmp rfl RS.nil) rfl
noncomputable def g99 (ro : List HT) (a0 a1 : AV) (T : HT) (nx : Nat) : R :=
 callQ 990003 (g50 (T :: ro) a0 .nil nx) fun x6_1 =>
 eqK Tryz.prog 3 (.tmp 6) (.const (.int .i64 (.ofNat 4))) 990004 x6_1 (.lit (.int .i64 (.ofNat 4))) fun x7_2 =>
 condK 990006 x7_2
 (
  ncK 990009 a0 fun x11_3 =>
  faK 990010 x11_3 0 fun x12_4 =>
  ldK 990011 T ro x12_4 fun x13_5 =>
  ncK 990013 a0 fun x15_6 =>
  faK 990014 x15_6 1 fun x16_7 =>
  ldK 990015 T ro x16_7 fun x17_8 =>
  iaK 990016 x13_5 x17_8 3 fun x18_9 =>
  faK 990017 x18_9 1 fun x19_10 =>
  ldK 990018 T ro x19_10 fun x20_11 =>
  callQ 990019 (g87 (T :: ro) a1 x20_11 .nil nx) fun x21_12 =>
  .ok (.val x21_12) T nx
 )
 (
  .ok (.val (.lit (.bool false))) T nx
 )
theorem g99_ok (ro : List HT) (a0 a1 : AV) (T : HT) (nx : Nat) : GOk Tryz.prog envE 99 [a0, a1] ro T nx (g99 ro a0 a1 T nx) := by
 refine GOk.of_body Tryz.func99 rfl Tryz.ntmps99 (by kernel_rfl) rfl fun r T' n' h1 w0 base ρ0 its hS hP => ?_
 have X : CtxW envE ρ0 ro r T' n' := trivial
 unfold g99 at h1
 refine sr ?_
 refine as_ ?_
 refine dn ?_
 refine CV.seq ?_
 refine CV.regionM [(0, .anywhere), (1, .alone), (2, .anywhere), (3, .anywhere), (4, .anywhere), (5, .anywhere), (6, .anywhere), (7, .anywhere), (8, .held), (9, .anywhere), (10, .anywhere), (11, .anywhere), (12, .held), (13, .held), (14, .held), (15, .held), (16, .alone), (17, .anywhere), (18, .anywhere)] rfl (fun c a a' w hd hq => PanicOk.root (P := Tryz.prog) (fn := Tryz.f99) (w0 := w0) (base := base) (E := envE) (ro := ro) (r := r) (T' := T') (n' := n') (ρ0 := ρ0) c a a' w hd hq) (by kernel_rfl) ?_
 refine MV.step0 (i := 0) rfl (VAL.move rfl) rfl rfl rfl ?_
 refine MV.force (i := 1) rfl ?_
 refine LV.callQ hS h1 (g50_ok _ _ _ _ ) rfl rfl rfl rfl fun x6_1 h2 => ?_
 refine LV.nextM [] (by kernel_rfl) (fun z => absurd rfl z) ?_
 refine MV.lift0 (i := 2) rfl (V.eq h2 rfl rfl) rfl rfl rfl fun x7_2 h3 => ?_
 refine MV.step0 (i := 3) rfl (VAL.move rfl) rfl rfl rfl ?_
 rcases condK_inv h3 with ⟨e, h4⟩ | ⟨e, h4⟩
 ·
  clear h1 h2 h3
  subst e
  refine MV.step0 (i := 4) rfl (VAL.move rfl) rfl rfl rfl ?_
  refine MV.step0 (i := 5) rfl (VAL.move rfl) rfl rfl rfl ?_
  refine MV.lift0 (i := 6) rfl (V.nc h4 rfl) rfl rfl rfl fun x11_3 h5 => ?_
  refine MV.lift0 (i := 7) rfl (V.fa h5 rfl Pdf.fo98_0) rfl rfl rfl fun x12_4 h6 => ?_
  refine MV.lift1 (i := 8) rfl (fun _ z => z) (V.ld hS h6 rfl Pdf.one96) rfl rfl rfl [] (by kernel_rfl) fun x13_5 h7 => ?_
  refine MV.step0 (i := 9) rfl (VAL.move rfl) rfl rfl rfl ?_
  refine MV.lift0 (i := 10) rfl (V.nc h7 rfl) rfl rfl rfl fun x15_6 h8 => ?_
  refine MV.lift0 (i := 11) rfl (V.fa h8 rfl Pdf.fo98_1) rfl rfl rfl fun x16_7 h9 => ?_
  refine MV.lift1 (i := 12) rfl (fun _ z => z) (V.ld hS h9 rfl Pdf.one3) rfl rfl rfl [8] (by kernel_rfl) fun x17_8 h10 => ?_
  refine MV.lift1 (i := 13) rfl (fun _ z => z) (V.ia h10 rfl rfl Pdf.el96) rfl rfl rfl [] (by kernel_rfl) fun x18_9 h11 => ?_
  refine MV.lift1 (i := 14) rfl (fun _ z => z) (V.fa h11 rfl Pdf.fo139_1) rfl rfl rfl [] (by kernel_rfl) fun x19_10 h12 => ?_
  refine MV.lift1 (i := 15) rfl (fun _ z => z) (V.ld hS h12 rfl Pdf.one9) rfl rfl rfl [] (by kernel_rfl) fun x20_11 h13 => ?_
  refine MV.force (i := 16) rfl ?_
  refine LV.callQ hS h13 (g87_ok _ _ _ _ _ ) rfl rfl rfl rfl fun x21_12 h14 => ?_
  refine LV.nextM [] (by kernel_rfl) (fun z => absurd rfl z) ?_
  refine MV.step0 (i := 17) rfl (VAL.pure rfl) rfl rfl rfl ?_
  refine MV.step0 (i := 18) rfl (VAL.assign rfl) rfl rfl rfl ?_
  refine mdn ?_
  refine CV.ret ?_
  cases h14
  exact PV.ret (by simp) Tryz.results99 hS (RS.tmp rfl RS.nil) rfl
 ·
  clear h1 h2 h3
  subst e
  refine MV.skip0 (i := 4) rfl rfl rfl rfl ?_
  refine MV.skip0 (i := 5) rfl rfl rfl rfl ?_
  refine MV.skip0 (i := 6) rfl rfl rfl rfl ?_
  refine MV.skip0 (i := 7) rfl rfl rfl rfl ?_
  refine MV.skip1 (i := 8) rfl (fun _ z => z) rfl rfl rfl [] (by kernel_rfl) ?_
  refine MV.skip0 (i := 9) rfl rfl rfl rfl ?_
  refine MV.skip0 (i := 10) rfl rfl rfl rfl ?_
  refine MV.skip0 (i := 11) rfl rfl rfl rfl ?_
  refine MV.skip1 (i := 12) rfl (fun _ z => z) rfl rfl rfl [8] (by kernel_rfl) ?_
  refine MV.skip1 (i := 13) rfl (fun _ z => z) rfl rfl rfl [] (by kernel_rfl) ?_
  refine MV.skip1 (i := 14) rfl (fun _ z => z) rfl rfl rfl [] (by kernel_rfl) ?_
  refine MV.skip1 (i := 15) rfl (fun _ z => z) rfl rfl rfl [] (by kernel_rfl) ?_
  refine MV.force (i := 16) rfl ?_
  refine sk ?_
  refine LV.nextM [] (by kernel_rfl) (fun z => absurd rfl z) ?_
  refine MV.step0 (i := 17) rfl (VAL.pure rfl) rfl rfl rfl ?_
  refine MV.step0 (i := 18) rfl (VAL.assign rfl) rfl rfl rfl ?_
  refine mdn ?_
  refine CV.ret ?_
  cases h4
  exact PV.ret (by simp) Tryz.results99 hS (RS.tmp rfl RS.nil) rfl
noncomputable def g65 (ro : List HT) (a0 a1 a2 a3 a4 : AV) (T : HT) (nx : Nat) : R :=
 fldK 650004 T ro a0 2 fun x15_1 =>
 optK 650009 (bld32 [(0, a1), (2, a2), (3, a3), (4, a4)]) fun x20_2 =>
 bsK 650010 T nx 1 32 5 [(0, x20_2)] fun x21_3 T1 n1 =>
 appK 650011 T1 ro n1 32 5 64 x15_1 x21_3 fun x22_4 T2 n2 =>
 faK 650012 a0 2 fun x24_5 =>
 stK 650013 T2 x24_5 x22_4 fun T3 =>
 fldK 650015 T3 ro a0 2 fun x28_6 =>
 lenSK 650016 x28_6 fun x29_7 =>
 subK Tryz.prog 3 (.tmp 29) (.const (.int .i64 (.ofNat 1))) 650017 x29_7 (.lit (.int .i64 (.ofNat 1))) fun x30_8 =>
 .ok (.val x30_8) T3 n2
theorem g65_ok (ro : List HT) (a0 a1 a2 a3 a4 : AV) (T : HT) (nx : Nat) : GOk Tryz.prog envE 65 [a0, a1, a2, a3, a4] ro T nx (g65 ro a0 a1 a2 a3 a4 T nx) := by
 refine GOk.of_body Tryz.func65 rfl Tryz.ntmps65 (by kernel_rfl) rfl fun r T' n' h1 w0 base ρ0 its hS hP => ?_
 have X : CtxW envE ρ0 ro r T' n' := trivial
 unfold g65 at h1
 refine sr ?_
 refine as_ ?_
 refine dn ?_
 refine sr ?_
 refine mv ?_
 refine mv ?_
 refine fl hS h1 Pdf.fo98_2 Pdf.one23 fun x15_1 h2 => ?_
 refine mv ?_
 refine mv ?_
 refine mv ?_
 refine mv ?_
 refine vy (V.bld h2 rfl) fun x20_2 h3 => ?_
 refine LV.bslice hS h3 rfl rfl Pdf.el23 rfl rfl rfl rfl fun x21_3 T1 n1 h4 ρ its hS hdr => ?_
 refine LV.app hS h4 rfl rfl rfl rfl Pdf.el23 rfl rfl rfl fun x22_4 T2 n2 h5 ρ its hS => ?_
 refine fa2 h5 Pdf.fo98_2 fun x24_5 h6 => ?_
 refine LV.st hS h6 rfl rfl rfl Pdf.siz23 rfl rfl fun T3 its h7 hS => ?_
 refine dn ?_
 refine sr ?_
 refine mv ?_
 refine fl hS h7 Pdf.fo98_2 Pdf.one23 fun x28_6 h8 => ?_
 refine vy (V.lenS h8 rfl Pdf.ls23) fun x29_7 h9 => ?_
 refine vy (V.sub h9 rfl rfl) fun x30_8 h10 => ?_
 refine as_ ?_
 refine dn ?_
 refine CV.ret ?_
 cases h10
 exact PV.ret (by simp) Tryz.results65 hS (RS.tmp rfl RS.nil) rfl
noncomputable def g129 (ro : List HT) (a0 : AV) (T : HT) (nx : Nat) : R :=
 ncK 1290003 a0 fun x4_1 =>
 faK 1290004 x4_1 0 fun x5_2 =>
 ldK 1290005 T ro x5_2 fun x6_3 =>
 ncK 1290007 a0 fun x8_4 =>
 faK 1290008 x8_4 1 fun x9_5 =>
 ldK 1290009 T ro x9_5 fun x10_6 =>
 iaK 1290010 x6_3 x10_6 3 fun x11_7 =>
 faK 1290011 x11_7 2 fun x12_8 =>
 ldK 1290012 T ro x12_8 fun x13_9 =>
 .ok (.val x13_9) T nx
theorem g129_ok (ro : List HT) (a0 : AV) (T : HT) (nx : Nat) : GOk Tryz.prog envE 129 [a0] ro T nx (g129 ro a0 T nx) := by
 refine GOk.of_body Tryz.func129 rfl Tryz.ntmps129 (by kernel_rfl) rfl fun r T' n' h1 w0 base ρ0 its hS hP => ?_
 have X : CtxW envE ρ0 ro r T' n' := trivial
 unfold g129 at h1
 refine sr ?_
 refine as_ ?_
 refine dn ?_
 refine CV.seq ?_
 refine CV.regionM [(0, .anywhere), (1, .anywhere), (2, .anywhere), (3, .held), (4, .anywhere), (5, .anywhere), (6, .anywhere), (7, .held), (8, .held), (9, .held), (10, .held), (11, .held)] rfl (fun c a a' w hd hq => PanicOk.root (P := Tryz.prog) (fn := Tryz.f129) (w0 := w0) (base := base) (E := envE) (ro := ro) (r := r) (T' := T') (n' := n') (ρ0 := ρ0) c a a' w hd hq) (by kernel_rfl) ?_
 refine MV.step0 (i := 0) rfl (VAL.move rfl) rfl rfl rfl ?_
 refine MV.lift0 (i := 1) rfl (V.nc h1 rfl) rfl rfl rfl fun x4_1 h2 => ?_
 refine MV.lift0 (i := 2) rfl (V.fa h2 rfl Pdf.fo98_0) rfl rfl rfl fun x5_2 h3 => ?_
 refine MV.lift1 (i := 3) rfl (fun _ z => z) (V.ld hS h3 rfl Pdf.one96) rfl rfl rfl [] (by kernel_rfl) fun x6_3 h4 => ?_
 refine MV.step0 (i := 4) rfl (VAL.move rfl) rfl rfl rfl ?_
 refine MV.lift0 (i := 5) rfl (V.nc h4 rfl) rfl rfl rfl fun x8_4 h5 => ?_
 refine MV.lift0 (i := 6) rfl (V.fa h5 rfl Pdf.fo98_1) rfl rfl rfl fun x9_5 h6 => ?_
 refine MV.lift1 (i := 7) rfl (fun _ z => z) (V.ld hS h6 rfl Pdf.one3) rfl rfl rfl [3] (by kernel_rfl) fun x10_6 h7 => ?_
 refine MV.lift1 (i := 8) rfl (fun _ z => z) (V.ia h7 rfl rfl Pdf.el96) rfl rfl rfl [] (by kernel_rfl) fun x11_7 h8 => ?_
 refine MV.lift1 (i := 9) rfl (fun _ z => z) (V.fa h8 rfl Pdf.fo139_2) rfl rfl rfl [] (by kernel_rfl) fun x12_8 h9 => ?_
 refine MV.lift1 (i := 10) rfl (fun _ z => z) (V.ld hS h9 rfl Pdf.one3) rfl rfl rfl [] (by kernel_rfl) fun x13_9 h10 => ?_
 refine MV.step1 (i := 11) rfl (fun _ z => z) (VAL.assign rfl) rfl rfl rfl [] (by kernel_rfl) ?_
 refine mdn ?_
 refine CV.ret ?_
 cases h10
 exact PV.ret (by simp) Tryz.results129 hS (RS.tmp rfl RS.nil) rfl
noncomputable def g133 (ro : List HT) (a0 a1 : AV) (T : HT) (nx : Nat) : R :=
 optK 1330003 (bld74 [(0, a0), (1, a1)]) fun x6_1 =>
 boxK 1330004 T nx x6_1 74 fun x7_2 T1 n1 =>
 optK 1330005 (bld123 [(0, x7_2)]) fun x8_3 =>
 panK 1330007 (.iface 123 x8_3) T1 n1
theorem g133_ok (ro : List HT) (a0 a1 : AV) (T : HT) (nx : Nat) : GOk Tryz.prog envE 133 [a0, a1] ro T nx (g133 ro a0 a1 T nx) := by
 refine GOk.of_body Tryz.func133 rfl Tryz.ntmps133 (by kernel_rfl) rfl fun r T' n' h1 w0 base ρ0 its hS hP => ?_
 have X : CtxW envE ρ0 ro r T' n' := trivial
 unfold g133 at h1
 refine CV.region ?_
 refine mv ?_
 refine mv ?_
 refine vy (V.bld h1 rfl) fun x6_1 h2 => ?_
 refine LV.box hS h2 rfl rfl rfl rfl rfl fun x7_2 T1 n1 h3 ρ its hS hdr => ?_
 refine vy (V.bld h3 rfl) fun x8_3 h4 => ?_
 refine sv (VAL.mkI rfl Pdf.ni123) ?_
 exact LV.panic hS h4 hP rfl rfl rfl
noncomputable def g176_k1 (ro : List HT) (y0 : AV) (T1 : HT) (n1 : Nat) : R :=
 fldK 1760002 T1 ro y0 3 fun x15_1 =>
 addK Tryz.prog 3 (.tmp 15) (.const (.int .i64 (.ofNat 1))) 1760003 x15_1 (.lit (.int .i64 (.ofNat 1))) fun x16_2 =>
 faK 1760004 y0 3 fun x18_3 =>
 stK 1760005 T1 x18_3 x16_2 fun T2 =>
 .ok (.val (.tup [])) T2 n1
noncomputable def g176 (ro : List HT) (a0 a1 : AV) (T : HT) (nx : Nat) : R :=
 fldK 1760007 T ro a0 3 fun x7_4 =>
 geK Tryz.prog 3 (.tmp 7) (.const (.int .i64 (.ofNat 60))) 1760008 x7_4 (.lit (.int .i64 (.ofNat 60))) fun x8_5 =>
 condK 1760009 x8_5
 (
  callK (g133 ro a1 (.iface 253 (.opq 7)) T nx) fun x11_6 T3 n3 =>
  g176_k1 ro a0 T3 n3
 )
 (
  g176_k1 ro a0 T nx
 )
theorem g176_ok (ro : List HT) (a0 a1 : AV) (T : HT) (nx : Nat) : GOk Tryz.prog envE 176 [a0, a1] ro T nx (g176 ro a0 a1 T nx) := by
 refine GOk.of_body Tryz.func176 rfl Tryz.ntmps176 (by kernel_rfl) rfl fun r T' n' h1 w0 base ρ0 its hS hP => ?_
 have X : CtxW envE ρ0 ro r T' n' := trivial
 unfold g176 at h1
 refine cs1 X 0 [] (g176_k1 ro) ?_ ?_
 ·
  refine sr ?_
  refine mv ?_
  refine fl hS h1 Pdf.fo98_3 Pdf.one3 fun x7_4 h7 => ?_
  refine vy (V.ge h7 rfl rfl) fun x8_5 h8 => ?_
  refine dn ?_
  refine CV.cond h8 rfl (fun e h9 => ?_) (fun e h9 => ?_)
  ·
   clear h1 h7 h8
   subst e
   refine CV.region ?_
   refine mv ?_
   refine sv (VAL.ldG hS (by rfl) Pdf.one25) ?_
   refine LV.call hS h9 (g133_ok _ _ _ _ _ ) hP rfl rfl rfl rfl fun x11_6 T3 n3 h10 ρ its hS => ?_
   refine LV.done ?_
   exact pa1 hS h10 ⟨rfl, trivial⟩
  ·
   clear h1 h7 h8
   subst e
   refine CV.skip ?_
   exact pa1 hS h9 ⟨rfl, trivial⟩
 ·
  intro y0 T1 n1 ρ its hS h2
  unfold g176_k1 at h2
  clear h1
  refine CV.region ?_
  refine mv ?_
  refine fl hS h2 Pdf.fo98_3 Pdf.one3 fun x15_1 h3 => ?_
  refine vy (V.add h3 rfl rfl) fun x16_2 h4 => ?_
  refine fa2 h4 Pdf.fo98_3 fun x18_3 h5 => ?_
  refine LV.st hS h5 rfl rfl rfl Pdf.siz3 rfl rfl fun T2 its h6 hS => ?_
  refine LV.done ?_
  cases h6
  exact PV.ret (by simp) Tryz.results176 hS RS.nil rfl
noncomputable def g131 (ro : List HT) (a0 a1 : AV) (T : HT) (nx : Nat) : R :=
 bsK 1310004 T nx 1 9 1 [(0, a1)] fun x7_1 T1 n1 =>
 callK (g99 ro a0 x7_1 T1 n1) fun x8_2 T2 n2 =>
 notK 1310006 x8_2 fun x9_3 =>
 condK 1310007 x9_3
 (
  .ok (.val (.lit (.bool false))) T2 n2
 )
 (
  fldK 1310010 T2 ro a0 1 fun x13_4 =>
  addK Tryz.prog 3 (.tmp 13) (.const (.int .i64 (.ofNat 1))) 1310011 x13_4 (.lit (.int .i64 (.ofNat 1))) fun x14_5 =>
  faK 1310012 a0 1 fun x16_6 =>
  stK 1310013 T2 x16_6 x14_5 fun T3 =>
  .ok (.val (.lit (.bool true))) T3 n2
 )
theorem g131_ok (ro : List HT) (a0 a1 : AV) (T : HT) (nx : Nat) : GOk Tryz.prog envE 131 [a0, a1] ro T nx (g131 ro a0 a1 T nx) := by
 refine GOk.of_body Tryz.func131 rfl Tryz.ntmps131 (by kernel_rfl) rfl fun r T' n' h1 w0 base ρ0 its hS hP => ?_
 have X : CtxW envE ρ0 ro r T' n' := trivial
 unfold g131 at h1
 refine sr ?_
 refine as_ ?_
 refine dn ?_
 refine CV.seq ?_
 refine sr ?_
 refine mv ?_
 refine mv ?_
 refine LV.bslice hS h1 rfl rfl Pdf.el46 rfl rfl rfl rfl fun x7_1 T1 n1 h2 ρ its hS hdr => ?_
 refine LV.call hS h2 (g99_ok _ _ _ _ _ ) hP rfl rfl rfl rfl fun x8_2 T2 n2 h3 ρ its hS => ?_
 refine vy (V.not h3 rfl) fun x9_3 h4 => ?_
 refine dn ?_
 refine CV.cond h4 rfl (fun e h5 => ?_) (fun e h5 => ?_)
 ·
  clear h1 h2 h3 h4
  subst e
  refine sr ?_
  refine as_ ?_
  refine dn ?_
  refine CV.ret ?_
  refine PV.thenR ?_
  cases h5
  exact PV.ret (by simp) Tryz.results131 hS (RS.tmp rfl RS.nil) rfl
 ·
  clear h1 h2 h3 h4
  subst e
  refine CV.skip ?_
  refine PV.thenN ?_
  refine sr ?_
  refine mv ?_
  refine fl hS h5 Pdf.fo98_1 Pdf.one3 fun x13_4 h6 => ?_
  refine vy (V.add h6 rfl rfl) fun x14_5 h7 => ?_
  refine fa2 h7 Pdf.fo98_1 fun x16_6 h8 => ?_
  refine LV.st hS h8 rfl rfl rfl Pdf.siz3 rfl rfl fun T3 its h9 hS => ?_
  refine dn ?_
  refine sr ?_
  refine as_ ?_
  refine dn ?_
  refine CV.ret ?_
  cases h9
  exact PV.ret (by simp) Tryz.results131 hS (RS.tmp rfl RS.nil) rfl
noncomputable def g177 (ro : List HT) (a0 a1 : AV) (T : HT) (nx : Nat) : R :=
 callK (g129 ro a0 T nx) fun x7_1 T1 n1 =>
 callK (g131 ro a0 a1 T1 n1) fun x10_2 T2 n2 =>
 notK 1770008 x10_2 fun x11_3 =>
 condK 1770009 x11_3
 (
  .bad 1770010
 )
 (
  .ok (.val x7_1) T2 n2
 )
theorem g177_ok (ro : List HT) (a0 a1 : AV) (T : HT) (nx : Nat) : GOk Tryz.prog envE 177 [a0, a1] ro T nx (g177 ro a0 a1 T nx) := by
 refine GOk.of_body Tryz.func177 rfl Tryz.ntmps177 (by kernel_rfl) rfl fun r T' n' h1 w0 base ρ0 its hS hP => ?_
 have X : CtxW envE ρ0 ro r T' n' := trivial
 unfold g177 at h1
 refine sr ?_
 refine as_ ?_
 refine dn ?_
 refine sr ?_
 refine mv ?_
 refine LV.call hS h1 (g129_ok _ _ _ _ ) hP rfl rfl rfl rfl fun x7_1 T1 n1 h2 ρ its hS => ?_
 refine as_ ?_
 refine dn ?_
 refine CV.seq ?_
 refine sr ?_
 refine mv ?_
 refine mv ?_
 refine LV.call hS h2 (g131_ok _ _ _ _ _ ) hP rfl rfl rfl rfl fun x10_2 T2 n2 h3 ρ its hS => ?_
 refine vy (V.not h3 rfl) fun x11_3 h4 => ?_
 refine dn ?_
 refine CV.cond h4 rfl (fun e h5 => ?_) (fun e h5 => ?_)
 ·
  clear h1 h2 h3 h4
  subst e
  cases h5
 ·
  clear h1 h2 h3 h4
  subst e
  refine CV.skip ?_
  refine PV.thenN ?_
  refine sr ?_
  refine mv ?_
  refine as_ ?_
  refine dn ?_
  refine CV.ret ?_
  cases h5
  exact PV.ret (by simp) Tryz.results177 hS (RS.tmp rfl RS.nil) rfl
noncomputable def g236 (ro : List HT) (T : HT) (nx : Nat) : R :=
 bsK 2360003 T nx 14 9 1 [(0, (.lit (.string ⟨⟨[111, 114]⟩⟩))), (1, (.lit (.string ⟨⟨[97, 110, 100]⟩⟩))), (2, (.lit (.string ⟨⟨[61, 61]⟩⟩))), (3, (.lit (.string ⟨⟨[33, 61]⟩⟩))), (4, (.lit (.string ⟨⟨[60]⟩⟩))), (5, (.lit (.string ⟨⟨[60, 61]⟩⟩))), (6, (.lit (.string ⟨⟨[62]⟩⟩))), (7, (.lit (.string ⟨⟨[62, 61]⟩⟩))), (8, (.lit (.string ⟨⟨[105, 110]⟩⟩))), (9, (.lit (.string ⟨⟨[43]⟩⟩))), (10, (.lit (.string ⟨⟨[45]⟩⟩))), (11, (.lit (.string ⟨⟨[42]⟩⟩))), (12, (.lit (.string ⟨⟨[47, 47]⟩⟩))), (13, (.lit (.string ⟨⟨[37]⟩⟩)))] fun x2_1 T1 n1 =>
 bsK 2360004 T1 n1 14 3 1 [(0, (.lit (.int .i64 (.ofNat 19)))), (1, (.lit (.int .i64 (.ofNat 18)))), (2, (.lit (.int .i64 (.ofNat 26)))), (3, (.lit (.int .i64 (.ofNat 27)))), (4, (.lit (.int .i64 (.ofNat 28)))), (5, (.lit (.int .i64 (.ofNat 29)))), (6, (.lit (.int .i64 (.ofNat 30)))), (7, (.lit (.int .i64 (.ofNat 31)))), (8, (.lit (.int .i64 (.ofNat 32)))), (9, (.lit (.int .i64 (.ofNat 21)))), (10, (.lit (.int .i64 (.ofNat 22)))), (11, (.lit (.int .i64 (.ofNat 23)))), (12, (.lit (.int .i64 (.ofNat 24)))), (13, (.lit (.int .i64 (.ofNat 25))))] fun x3_2 T2 n2 =>
 .ok (.val (.tup [x2_1, x3_2])) T2 n2
theorem g236_ok (ro : List HT) (T : HT) (nx : Nat) : GOk Tryz.prog envE 236 [] ro T nx (g236 ro T nx) := by
 refine GOk.of_body Tryz.func236 rfl Tryz.ntmps236 (by kernel_rfl) rfl fun r T' n' h1 w0 base ρ0 its hS hP => ?_
 have X : CtxW envE ρ0 ro r T' n' := trivial
 unfold g236 at h1
 refine sr ?_
 refine as_ ?_
 refine as_ ?_
 refine dn ?_
 refine sr ?_
 refine LV.bslice hS h1 rfl rfl Pdf.el46 rfl rfl rfl rfl fun x2_1 T1 n1 h2 ρ its hS hdr => ?_
 refine LV.bslice hS h2 rfl rfl Pdf.el30 rfl rfl rfl rfl fun x3_2 T2 n2 h3 ρ its hS hdr => ?_
 refine as_ ?_
 refine as_ ?_
 refine dn ?_
 refine CV.ret ?_
 cases h3
 exact PV.ret (by simp) Tryz.results236 hS (RS.tmp rfl (RS.tmp rfl RS.nil)) rfl
noncomputable def g231 (ro : List HT) (a0 : AV) (T : HT) (nx : Nat) : R :=
 callK (g236 ro T nx) fun x6_1 T1 n1 =>
 exK 2310004 x6_1 0 fun x7_2 =>
 exK 2310005 x6_1 1 fun x8_3 =>
 callK (g147 ro x7_2 a0 T1 n1) fun x12_4 T2 n2 =>
 iaK 2310012 x8_3 x12_4 1 fun x13_5 =>
 ldK 2310013 T2 ro x13_5 fun x14_6 =>
 .ok (.val x14_6) T2 n2
theorem g231_ok (ro : List HT) (a0 : AV) (T : HT) (nx : Nat) : GOk Tryz.prog envE 231 [a0] ro T nx (g231 ro a0 T nx) := by
 refine GOk.of_body Tryz.func231 rfl Tryz.ntmps231 (by kernel_rfl) rfl fun r T' n' h1 w0 base ρ0 its hS hP => ?_
 have X : CtxW envE ρ0 ro r T' n' := trivial
 unfold g231 at h1
 refine sr ?_
 refine as_ ?_
 refine dn ?_
 refine sr ?_
 refine LV.call hS h1 (g236_ok _ _ _ ) hP rfl rfl rfl rfl fun x6_1 T1 n1 h2 ρ its hS => ?_
 refine mv ?_
 refine vy (V.ex h2 rfl) fun x7_2 h3 => ?_
 refine vy (V.ex h3 rfl) fun x8_3 h4 => ?_
 refine as_ ?_
 refine as_ ?_
 refine dn ?_
 refine sr ?_
 refine mv ?_
 refine mv ?_
 refine mv ?_
 refine LV.call hS h4 (g147_ok _ _ _ _ _ ) hP rfl rfl rfl rfl fun x12_4 T2 n2 h5 ρ its hS => ?_
 refine vy (V.ia h5 rfl rfl Pdf.el30) fun x13_5 h6 => ?_
 refine vy (V.ld hS h6 rfl Pdf.one3) fun x14_6 h7 => ?_
 refine as_ ?_
 refine dn ?_
 refine CV.ret ?_
 cases h7
 exact PV.ret (by simp) Tryz.results231 hS (RS.tmp rfl RS.nil) rfl
noncomputable def g132_k2 (ro : List HT) (y15 : AV) (T3 : HT) (n3 : Nat) : R :=
 .ok (.val y15) T3 n3
noncomputable def g132_k1 (ro : List HT) (y0 y10 : AV) (T2 : HT) (n2 : Nat) : R :=
 condK 1320008 y10
 (
  g132_k2 ro (.lit (.bool true)) T2 n2
 )
 (
  bsK 1320011 T2 n2 6 9 1 [(0, (.lit (.string ⟨⟨[41]⟩⟩))), (1, (.lit (.string ⟨⟨[93]⟩⟩))), (2, (.lit (.string ⟨⟨[125]⟩⟩))), (3, (.lit (.string ⟨⟨[61]⟩⟩))), (4, (.lit (.string ⟨⟨[43, 61]⟩⟩))), (5, (.lit (.string ⟨⟨[58]⟩⟩)))] fun x13_3 T4 n4 =>
  callK (g99 ro y0 x13_3 T4 n4) fun x14_4 T5 n5 =>
  g132_k2 ro x14_4 T5 n5
 )
noncomputable def g132 (ro : List HT) (a0 : AV) (T : HT) (nx : Nat) : R :=
 callK (g50 ro a0 T nx) fun x4_1 T1 n1 =>
 eqK Tryz.prog 3 (.tmp 4) (.const (.int .i64 (.ofNat 5))) 1320004 x4_1 (.lit (.int .i64 (.ofNat 5))) fun x5_2 =>
 condK 1320014 x5_2
 (
  g132_k1 ro a0 (.lit (.bool true)) T1 n1
 )
 (
  callK (g50 ro a0 T1 n1) fun x8_5 T6 n6 =>
  eqK Tryz.prog 3 (.tmp 8) (.const (.int .i64 (.ofNat 8))) 1320018 x8_5 (.lit (.int .i64 (.ofNat 8))) fun x9_6 =>
  g132_k1 ro a0 x9_6 T6 n6
 )
theorem g132_ok (ro : List HT) (a0 : AV) (T : HT) (nx : Nat) : GOk Tryz.prog envE 132 [a0] ro T nx (g132 ro a0 T nx) := by
 refine GOk.of_body Tryz.func132 rfl Tryz.ntmps132 (by kernel_rfl) rfl fun r T' n' h1 w0 base ρ0 its hS hP => ?_
 have X : CtxW envE ρ0 ro r T' n' := trivial
 unfold g132 at h1
 refine sr ?_
 refine as_ ?_
 refine dn ?_
 refine sr ?_
 refine mv ?_
 refine LV.call hS h1 (g50_ok _ _ _ _ ) hP rfl rfl rfl rfl fun x4_1 T1 n1 h2 ρ its hS => ?_
 refine vy (V.eq h2 rfl rfl) fun x5_2 h3 => ?_
 refine mv ?_
 refine ls2 X 0 10 [(2, (.lit (.bool false)))] (g132_k1 ro) 4 ?_ ?_
 ·
  rcases condK_inv h3 with ⟨e, h9⟩ | ⟨e, h9⟩
  ·
   clear h1 h2 h3
   subst e
   refine sk ?_
   refine sk ?_
   refine sk ?_
   refine pu ?_
   exact la2 hS h9 ⟨rfl, rfl, rfl, trivial⟩
  ·
   clear h1 h2 h3
   subst e
   refine mv ?_
   refine LV.call hS h9 (g50_ok _ _ _ _ ) hP rfl rfl rfl rfl fun x8_5 T6 n6 h10 ρ its hS => ?_
   refine vy (V.eq h10 rfl rfl) fun x9_6 h11 => ?_
   refine pu ?_
   exact la2 hS h11 ⟨rfl, rfl, rfl, trivial⟩
 ·
  intro y0 y10 T2 n2 ρ its hS h4
  unfold g132_k1 at h4
  clear h1 h2 h3
  refine mv ?_
  refine ls1 X 15 [(2, (.lit (.bool false)))] (g132_k2 ro) 4 ?_ ?_
  ·
   rcases condK_inv h4 with ⟨e, h6⟩ | ⟨e, h6⟩
   ·
    clear h4
    subst e
    refine sk ?_
    refine sk ?_
    refine sk ?_
    refine pu ?_
    exact la1 hS h6 ⟨rfl, rfl, trivial⟩
   ·
    clear h4
    subst e
    refine mv ?_
    refine LV.bslice hS h6 rfl rfl Pdf.el46 rfl rfl rfl rfl fun x13_3 T4 n4 h7 ρ its hS hdr => ?_
    refine LV.call hS h7 (g99_ok _ _ _ _ _ ) hP rfl rfl rfl rfl fun x14_4 T5 n5 h8 ρ its hS => ?_
    refine pu ?_
    exact la1 hS h8 ⟨rfl, rfl, trivial⟩
  ·
   intro y15 T3 n3 ρ its hS h5
   unfold g132_k2 at h5
   clear h4
   refine as_ ?_
   refine dn ?_
   refine CV.ret ?_
   cases h5
   exact PV.ret (by simp) Tryz.results132 hS (RS.tmp rfl RS.nil) rfl
noncomputable def g182_k1 (ih : FuncId → List HT → List AV → HT → Nat → R) (ro : List HT) (y0 y5 y25 : AV) (T3 : HT) (n3 : Nat) : R :=
 .ok (.val y25) T3 n3
noncomputable def g182_b2 (ih : FuncId → List HT → List AV → HT → Nat → R) (ro : List HT) (lp2 : AV → AV → AV → AV → AV → AV → HT → Nat → R) (y0 y4 y5 y27 y28 y29 : AV) (T4 : HT) (n4 : Nat) : R :=
 ltK Tryz.prog 3 (.tmp 29) (.tmp 28) 1820029 y29 y28 fun x30_17 =>
 condK 1820030 x30_17
 (
  iaK 1820031 y27 y29 1 fun x31_18 =>
  ldK 1820032 T4 ro x31_18 fun x32_19 =>
  callK (ih 182 ro [y0, x32_19] T4 n4) fun x35_20 T5 n5 =>
  notK 1820037 x35_20 fun x36_21 =>
  condK 1820038 x36_21
  (
   .bad 1820039
  )
  (
   addK Tryz.prog 3 (.tmp 29) (.const (.int .i64 (.ofNat 1))) 1820040 y29 (.lit (.int .i64 (.ofNat 1))) fun x37_22 =>
   lp2 y0 y4 y5 y27 y28 x37_22 T5 n5
  )
 )
 (
  faK 1820042 y5 4 fun x38_23 =>
  ldK 1820043 T4 ro x38_23 fun x39_24 =>
  lenSK 1820044 x39_24 fun x40_25 =>
  gtK Tryz.prog 3 (.tmp 40) (.const (.int .i64 (.ofNat 0))) 1820045 x40_25 (.lit (.int .i64 (.ofNat 0))) fun x41_26 =>
  .ok (.val x41_26) T4 n4
 )
noncomputable def g182 (ih : FuncId → List HT → List AV → HT → Nat → R) (ro : List HT) (a0 a1 : AV) (T : HT) (nx : Nat) : R :=
 fldK 1820003 T ro a0 2 fun x11_1 =>
 iaK 1820005 x11_1 a1 5 fun x13_2 =>
 ldAK 1820006 T ro x13_2 5 fun x14_3 =>
 newK T nx (.obj [.lit (.int .i64 0), .lit (.int .i64 0), .lit (.int .i64 0), .lit (.string ⟨#[]⟩), .lit (.slice none 0 0)] 32) fun x5_4 T1 n1 =>
 stAK 1820008 T1 x5_4 x14_3 5 fun T2 =>
 faK 1820009 x5_4 0 fun x15_5 =>
 ldK 1820010 T2 ro x15_5 fun x16_6 =>
 neK Tryz.prog 3 (.tmp 16) (.const (.int .i64 (.ofNat 8))) 1820011 x16_6 (.lit (.int .i64 (.ofNat 8))) fun x17_7 =>
 condK 1820012 x17_7
 (
  faK 1820013 x5_4 0 fun x18_8 =>
  ldK 1820014 T2 ro x18_8 fun x19_9 =>
  eqK Tryz.prog 3 (.tmp 19) (.const (.int .i64 (.ofNat 6))) 1820015 x19_9 (.lit (.int .i64 (.ofNat 6))) fun x20_10 =>
  condK 1820018 x20_10
  (
   g182_k1 ih ro a0 x5_4 (.lit (.bool true)) T2 n1
  )
  (
   faK 1820020 x5_4 0 fun x22_11 =>
   ldK 1820021 T2 ro x22_11 fun x23_12 =>
   eqK Tryz.prog 3 (.tmp 23) (.const (.int .i64 (.ofNat 13))) 1820022 x23_12 (.lit (.int .i64 (.ofNat 13))) fun x24_13 =>
   g182_k1 ih ro a0 x5_4 x24_13 T2 n1
  )
 )
 (
  faK 1820024 x5_4 4 fun x26_14 =>
  ldK 1820025 T2 ro x26_14 fun x27_15 =>
  lenSK 1820026 x27_15 fun x28_16 =>
  lpf6 1820028 (g182_b2 ih ro) 100000 a0 (.lit (.bool false)) x5_4 x27_15 x28_16 (.lit (.int .i64 (.ofNat 0))) T2 n1
 )
theorem g182_ok (ih : FuncId → List HT → List AV → HT → Nat → R) (hI : ∀ f ro args T nx, GOk Tryz.prog envE f args ro T nx (ih f ro args T nx)) (ro : List HT) (a0 a1 : AV) (T : HT) (nx : Nat) : GOk Tryz.prog envE 182 [a0, a1] ro T nx (g182 ih ro a0 a1 T nx) := by
 refine GOk.of_body Tryz.func182 rfl Tryz.ntmps182 (by kernel_rfl) rfl fun r T' n' h1 w0 base ρ0 its hS hP => ?_
 have X : CtxW envE ρ0 ro r T' n' := trivial
 unfold g182 at h1
 refine sr ?_
 refine as_ ?_
 refine dn ?_
 refine sr ?_
 refine mv ?_
 refine fl hS h1 Pdf.fo98_2 Pdf.one23 fun x11_1 h2 => ?_
 refine mv ?_
 refine vy (V.ia h2 rfl rfl Pdf.el23) fun x13_2 h3 => ?_
 refine vy (V.ldA hS h3 rfl Pdf.agg32) fun x14_3 h4 => ?_
 refine LV.alloc hS h4 rfl Pdf.zr32 rfl rfl rfl fun x5_4 T1 n1 h5 ρ its hS hdr => ?_
 refine LV.stA hS h5 rfl rfl rfl Pdf.agg32 rfl rfl rfl fun T2 its h6 hS => ?_
 refine dn ?_
 refine CV.seq ?_
 refine sr ?_
 refine vy (V.fa h6 rfl Pdf.fo32_0) fun x15_5 h7 => ?_
 refine vy (V.ld hS h7 rfl Pdf.one3) fun x16_6 h8 => ?_
 refine vy (V.ne h8 rfl rfl) fun x17_7 h9 => ?_
 refine dn ?_
 refine CV.cond h9 rfl (fun e h10 => ?_) (fun e h10 => ?_)
 ·
  clear h1 h2 h3 h4 h5 h6 h7 h8 h9
  subst e
  refine sr ?_
  refine vy (V.fa h10 rfl Pdf.fo32_0) fun x18_8 h11 => ?_
  refine vy (V.ld hS h11 rfl Pdf.one3) fun x19_9 h12 => ?_
  refine vy (V.eq h12 rfl rfl) fun x20_10 h13 => ?_
  refine mv ?_
  refine ls3 X 0 5 25 [(4, (.lit (.bool false)))] (g182_k1 ih ro) 4 ?_ ?_
  ·
   rcases condK_inv h13 with ⟨e, h15⟩ | ⟨e, h15⟩
   ·
    clear h10 h11 h12 h13
    subst e
    refine sk ?_
    refine sk ?_
    refine sk ?_
    refine pu ?_
    exact la3 hS h15 ⟨rfl, rfl, rfl, rfl, trivial⟩
   ·
    clear h10 h11 h12 h13
    subst e
    refine vy (V.fa h15 rfl Pdf.fo32_0) fun x22_11 h16 => ?_
    refine vy (V.ld hS h16 rfl Pdf.one3) fun x23_12 h17 => ?_
    refine vy (V.eq h17 rfl rfl) fun x24_13 h18 => ?_
    refine pu ?_
    exact la3 hS h18 ⟨rfl, rfl, rfl, rfl, trivial⟩
  ·
   intro y0 y5 y25 T3 n3 ρ its hS h14
   unfold g182_k1 at h14
   clear h10 h11 h12 h13
   refine as_ ?_
   refine dn ?_
   refine CV.ret ?_
   refine PV.thenR ?_
   cases h14
   exact PV.ret (by simp) Tryz.results182 hS (RS.tmp rfl RS.nil) rfl
 ·
  clear h1 h2 h3 h4 h5 h6 h7 h8 h9
  subst e
  refine CV.skip ?_
  refine PV.thenN ?_
  refine CV.seq ?_
  refine sr ?_
  refine vy (V.fa h10 rfl Pdf.fo32_4) fun x26_14 h19 => ?_
  refine vy (V.ld hS h19 rfl Pdf.one30) fun x27_15 h20 => ?_
  refine vy (V.lenS h20 rfl Pdf.ls30) fun x28_16 h21 => ?_
  refine mv ?_
  refine dn ?_
  refine CV.block ?_
  refine cl6 X 0 4 5 27 28 29 [] hS h21 ⟨rfl, rfl, rfl, rfl, rfl, rfl, trivial⟩ ?_
  intro f2 y0 y4 y5 y27 y28 y29 T4 n4 ρ its hS h22
  unfold g182_b2 at h22
  clear h10 h19 h20 h21
  refine sr ?_
  refine vy (V.lt h22 rfl rfl) fun x30_17 h23 => ?_
  refine dn ?_
  refine CV.seq ?_
  refine CV.cond h23 rfl (fun e h24 => ?_) (fun e h24 => ?_)
  ·
   clear h22 h23
   subst e
   refine CV.skip ?_
   refine PV.thenN ?_
   refine CV.seq ?_
   refine CV.block ?_
   refine sr ?_
   refine vy (V.ia h24 rfl rfl Pdf.el30) fun x31_18 h25 => ?_
   refine vy (V.ld hS h25 rfl Pdf.one3) fun x32_19 h26 => ?_
   refine as_ ?_
   refine dn ?_
   refine sr ?_
   refine mv ?_
   refine mv ?_
   refine LV.call hS h26 (hI _ _ _ _ _) hP rfl rfl rfl rfl fun x35_20 T5 n5 h27 ρ its hS => ?_
   refine vy (V.not h27 rfl) fun x36_21 h28 => ?_
   refine dn ?_
   refine CV.cond h28 rfl (fun e h29 => ?_) (fun e h29 => ?_)
   ·
    clear h24 h25 h26 h27 h28
    subst e
    cases h29
   ·
    clear h24 h25 h26 h27 h28
    subst e
    refine CV.skip ?_
    refine PV.blockN ?_
    refine PV.thenN ?_
    refine CV.region ?_
    refine vy (V.add h29 rfl rfl) fun x37_22 h30 => ?_
    refine mv ?_
    refine LV.done ?_
    exact pb6 hS h30 ⟨rfl, rfl, rfl, rfl, rfl, rfl, trivial⟩
  ·
   clear h22 h23
   subst e
   refine CV.exit ?_
   refine PV.thenE ?_
   refine PV.thenE ?_
   refine PV.blockE ?_
   refine PV.thenN ?_
   refine sr ?_
   refine vy (V.fa h24 rfl Pdf.fo32_4) fun x38_23 h31 => ?_
   refine vy (V.ld hS h31 rfl Pdf.one30) fun x39_24 h32 => ?_
   refine vy (V.lenS h32 rfl Pdf.ls30) fun x40_25 h33 => ?_
   refine vy (V.gt h33 rfl rfl) fun x41_26 h34 => ?_
   refine as_ ?_
   refine dn ?_
   refine CV.ret ?_
   cases h34
   exact PV.ret (by simp) Tryz.results182 hS (RS.tmp rfl RS.nil) rfl
noncomputable def ap1 (ih : FuncId → List HT → List AV → HT → Nat → R) (f : FuncId) (ro : List HT) (args : List AV) (T : HT) (nx : Nat) : R :=
  Bool.rec (motive := fun _ => R) (.bad 2) (List.rec (motive := fun _ => R) (.bad 1) (fun a0 l0 _ => List.rec (motive := fun _ => R) (.bad 1) (fun a1 l1 _ => List.rec (motive := fun _ => R) (g182 ih ro a0 a1 T nx) (fun _ _ _ => .bad 1) l1) l0) args) (Nat.beq f 182)
noncomputable def scc1 (fuel : Nat) : FuncId → List HT → List AV → HT → Nat → R :=
  Nat.rec (motive := fun _ => FuncId → List HT → List AV → HT → Nat → R) (fun _ _ _ _ _ => .bad 3) (fun _ ih => ap1 ih) fuel
theorem ap1_ok (ih : FuncId → List HT → List AV → HT → Nat → R) (hI : ∀ f ro args T nx, GOk Tryz.prog envE f args ro T nx (ih f ro args T nx)) (f : FuncId) (ro : List HT) (args : List AV) (T : HT) (nx : Nat) : GOk Tryz.prog envE f args ro T nx (ap1 ih f ro args T nx) := by
  unfold ap1
  refine recb_go (fun hb => ?_) (fun _ => ?_)
  · obtain rfl := beqT hb
    rcases args with _ | ⟨a0, l0⟩
    · exact GOk.bad
    rcases l0 with _ | ⟨a1, l1⟩
    · exact GOk.bad
    rcases l1 with _ | ⟨_, _⟩
    · exact g182_ok _ hI _ _ _ _ _ 
    · exact GOk.bad
  · exact GOk.bad
theorem scc1_ok : ∀ (fuel : Nat) (f : FuncId) (ro : List HT) (args : List AV) (T : HT) (nx : Nat), GOk Tryz.prog envE f args ro T nx (scc1 fuel f ro args T nx)
  | 0, _, _, _, _, _ => GOk.bad
  | fuel + 1, f, ro, args, T, nx => ap1_ok (scc1 fuel) (scc1_ok fuel) f ro args T nx
noncomputable def g117_k1 (ro : List HT) (y8 : AV) (T1 : HT) (n1 : Nat) : R :=
 .ok (.val y8) T1 n1
noncomputable def g117 (ro : List HT) (a0 : AV) (T : HT) (nx : Nat) : R :=
 geK Tryz.prog 3 (.tmp 3) (.const (.int .i64 (.ofNat 35))) 1170003 a0 (.lit (.int .i64 (.ofNat 35))) fun x4_1 =>
 condK 1170006 x4_1
 (
  leK Tryz.prog 3 (.tmp 6) (.const (.int .i64 (.ofNat 45))) 1170008 a0 (.lit (.int .i64 (.ofNat 45))) fun x7_2 =>
  g117_k1 ro x7_2 T nx
 )
 (
  g117_k1 ro (.lit (.bool false)) T nx
 )
theorem g117_ok (ro : List HT) (a0 : AV) (T : HT) (nx : Nat) : GOk Tryz.prog envE 117 [a0] ro T nx (g117 ro a0 T nx) := by
 refine GOk.of_body Tryz.func117 rfl Tryz.ntmps117 (by kernel_rfl) rfl fun r T' n' h1 w0 base ρ0 its hS hP => ?_
 have X : CtxW envE ρ0 ro r T' n' := trivial
 unfold g117 at h1
 refine sr ?_
 refine as_ ?_
 refine dn ?_
 refine sr ?_
 refine mv ?_
 refine vy (V.ge h1 rfl rfl) fun x4_1 h2 => ?_
 refine mv ?_
 refine ls1 X 8 [(2, (.lit (.bool false)))] (g117_k1 ro) 3 ?_ ?_
 ·
  rcases condK_inv h2 with ⟨e, h4⟩ | ⟨e, h4⟩
  ·
   clear h1 h2
   subst e
   refine mv ?_
   refine vy (V.le h4 rfl rfl) fun x7_2 h5 => ?_
   refine pu ?_
   exact la1 hS h5 ⟨rfl, rfl, trivial⟩
  ·
   clear h1 h2
   subst e
   refine sk ?_
   refine sk ?_
   refine pu ?_
   exact la1 hS h4 ⟨rfl, rfl, trivial⟩
 ·
  intro y8 T1 n1 ρ its hS h3
  unfold g117_k1 at h3
  clear h1 h2
  refine as_ ?_
  refine dn ?_
  refine CV.ret ?_
  cases h3
  exact PV.ret (by simp) Tryz.results117 hS (RS.tmp rfl RS.nil) rfl
noncomputable def g116 (ro : List HT) (a0 : AV) (T : HT) (nx : Nat) : R :=
 boxK 1160001 T nx a0 32 fun x1_1 T1 n1 =>
 faK 1160003 x1_1 0 fun x3_2 =>
 ldK 1160004 T1 ro x3_2 fun x4_3 =>
 callK (g117 ro x4_3 T1 n1) fun x5_4 T2 n2 =>
 .ok (.val x5_4) T2 n2
theorem g116_ok (ro : List HT) (a0 : AV) (T : HT) (nx : Nat) : GOk Tryz.prog envE 116 [a0] ro T nx (g116 ro a0 T nx) := by
 refine GOk.of_body Tryz.func116 rfl Tryz.ntmps116 (by kernel_rfl) rfl fun r T' n' h1 w0 base ρ0 its hS hP => ?_
 have X : CtxW envE ρ0 ro r T' n' := trivial
 unfold g116 at h1
 refine sr ?_
 refine LV.box hS h1 rfl rfl rfl rfl rfl fun x1_1 T1 n1 h2 ρ its hS hdr => ?_
 refine as_ ?_
 refine dn ?_
 refine sr ?_
 refine vy (V.fa h2 rfl Pdf.fo32_0) fun x3_2 h3 => ?_
 refine vy (V.ld hS h3 rfl Pdf.one3) fun x4_3 h4 => ?_
 refine LV.call hS h4 (g117_ok _ _ _ _ ) hP rfl rfl rfl rfl fun x5_4 T2 n2 h5 ρ its hS => ?_
 refine as_ ?_
 refine dn ?_
 refine CV.ret ?_
 cases h5
 exact PV.ret (by simp) Tryz.results116 hS (RS.tmp rfl RS.nil) rfl
noncomputable def g111_k3 (ro : List HT) (y16 : AV) (T3 : HT) (n3 : Nat) : R :=
 .ok (.val y16) T3 n3
noncomputable def g111_k2 (ro : List HT) (y0 y12 : AV) (T2 : HT) (n2 : Nat) : R :=
 condK 1110008 y12
 (
  neK Tryz.prog 3 (.tmp 14) (.const (.int .i64 (.ofNat 15))) 1110010 y0 (.lit (.int .i64 (.ofNat 15))) fun x15_2 =>
  g111_k3 ro x15_2 T2 n2
 )
 (
  g111_k3 ro (.lit (.bool false)) T2 n2
 )
noncomputable def g111_k1 (ro : List HT) (y0 y8 : AV) (T1 : HT) (n1 : Nat) : R :=
 condK 1110013 y8
 (
  neK Tryz.prog 3 (.tmp 10) (.const (.int .i64 (.ofNat 11))) 1110015 y0 (.lit (.int .i64 (.ofNat 11))) fun x11_3 =>
  g111_k2 ro y0 x11_3 T1 n1
 )
 (
  g111_k2 ro y0 (.lit (.bool false)) T1 n1
 )
noncomputable def g111 (ro : List HT) (a0 : AV) (T : HT) (nx : Nat) : R :=
 geK Tryz.prog 3 (.tmp 3) (.const (.int .i64 (.ofNat 1))) 1110003 a0 (.lit (.int .i64 (.ofNat 1))) fun x4_1 =>
 condK 1110018 x4_1
 (
  leK Tryz.prog 3 (.tmp 6) (.const (.int .i64 (.ofNat 34))) 1110020 a0 (.lit (.int .i64 (.ofNat 34))) fun x7_4 =>
  g111_k1 ro a0 x7_4 T nx
 )
 (
  g111_k1 ro a0 (.lit (.bool false)) T nx
 )
theorem g111_ok (ro : List HT) (a0 : AV) (T : HT) (nx : Nat) : GOk Tryz.prog envE 111 [a0] ro T nx (g111 ro a0 T nx) := by
 refine GOk.of_body Tryz.func111 rfl Tryz.ntmps111 (by kernel_rfl) rfl fun r T' n' h1 w0 base ρ0 its hS hP => ?_
 have X : CtxW envE ρ0 ro r T' n' := trivial
 unfold g111 at h1
 refine sr ?_
 refine as_ ?_
 refine dn ?_
 refine sr ?_
 refine mv ?_
 refine vy (V.ge h1 rfl rfl) fun x4_1 h2 => ?_
 refine mv ?_
 refine ls2 X 0 8 [(2, (.lit (.bool false)))] (g111_k1 ro) 3 ?_ ?_
 ·
  rcases condK_inv h2 with ⟨e, h10⟩ | ⟨e, h10⟩
  ·
   clear h1 h2
   subst e
   refine mv ?_
   refine vy (V.le h10 rfl rfl) fun x7_4 h11 => ?_
   refine pu ?_
   exact la2 hS h11 ⟨rfl, rfl, rfl, trivial⟩
  ·
   clear h1 h2
   subst e
   refine sk ?_
   refine sk ?_
   refine pu ?_
   exact la2 hS h10 ⟨rfl, rfl, rfl, trivial⟩
 ·
  intro y0 y8 T1 n1 ρ its hS h3
  unfold g111_k1 at h3
  clear h1 h2
  refine mv ?_
  refine ls2 X 0 12 [(2, (.lit (.bool false)))] (g111_k2 ro) 3 ?_ ?_
  ·
   rcases condK_inv h3 with ⟨e, h8⟩ | ⟨e, h8⟩
   ·
    clear h3
    subst e
    refine mv ?_
    refine vy (V.ne h8 rfl rfl) fun x11_3 h9 => ?_
    refine pu ?_
    exact la2 hS h9 ⟨rfl, rfl, rfl, trivial⟩
   ·
    clear h3
    subst e
    refine sk ?_
    refine sk ?_
    refine pu ?_
    exact la2 hS h8 ⟨rfl, rfl, rfl, trivial⟩
  ·
   intro y0 y12 T2 n2 ρ its hS h4
   unfold g111_k2 at h4
   clear h3
   refine mv ?_
   refine ls1 X 16 [(2, (.lit (.bool false)))] (g111_k3 ro) 3 ?_ ?_
   ·
    rcases condK_inv h4 with ⟨e, h6⟩ | ⟨e, h6⟩
    ·
     clear h4
     subst e
     refine mv ?_
     refine vy (V.ne h6 rfl rfl) fun x15_2 h7 => ?_
     refine pu ?_
     exact la1 hS h7 ⟨rfl, rfl, trivial⟩
    ·
     clear h4
     subst e
     refine sk ?_
     refine sk ?_
     refine pu ?_
     exact la1 hS h6 ⟨rfl, rfl, trivial⟩
   ·
    intro y16 T3 n3 ρ its hS h5
    unfold g111_k3 at h5
    clear h4
    refine as_ ?_
    refine dn ?_
    refine CV.ret ?_
    cases h5
    exact PV.ret (by simp) Tryz.results111 hS (RS.tmp rfl RS.nil) rfl
noncomputable def g183 (ro : List HT) (a0 : AV) (T : HT) (nx : Nat) : R :=
 boxK 1830001 T nx a0 32 fun x1_1 T1 n1 =>
 faK 1830003 x1_1 0 fun x3_2 =>
 ldK 1830004 T1 ro x3_2 fun x4_3 =>
 callK (g111 ro x4_3 T1 n1) fun x5_4 T2 n2 =>
 .ok (.val x5_4) T2 n2
theorem g183_ok (ro : List HT) (a0 : AV) (T : HT) (nx : Nat) : GOk Tryz.prog envE 183 [a0] ro T nx (g183 ro a0 T nx) := by
 refine GOk.of_body Tryz.func183 rfl Tryz.ntmps183 (by kernel_rfl) rfl fun r T' n' h1 w0 base ρ0 its hS hP => ?_
 have X : CtxW envE ρ0 ro r T' n' := trivial
 unfold g183 at h1
 refine sr ?_
 refine LV.box hS h1 rfl rfl rfl rfl rfl fun x1_1 T1 n1 h2 ρ its hS hdr => ?_
 refine as_ ?_
 refine dn ?_
 refine sr ?_
 refine vy (V.fa h2 rfl Pdf.fo32_0) fun x3_2 h3 => ?_
 refine vy (V.ld hS h3 rfl Pdf.one3) fun x4_3 h4 => ?_
 refine LV.call hS h4 (g111_ok _ _ _ _ ) hP rfl rfl rfl rfl fun x5_4 T2 n2 h5 ρ its hS => ?_
 refine as_ ?_
 refine dn ?_
 refine CV.ret ?_
 cases h5
 exact PV.ret (by simp) Tryz.results183 hS (RS.tmp rfl RS.nil) rfl
noncomputable def g78 (ro : List HT) (a0 : AV) (T : HT) (nx : Nat) : R :=
 callK (g129 ro a0 T nx) fun x3_1 T1 n1 =>
 keepK 780004 T T1 [] <|
 callK (g133 ro x3_1 (.iface 253 (.opq 1)) T1 n1) fun x5_2 T2 n2 =>
 .ok (.val (.tup [])) T2 n2
theorem g78_ok (ro : List HT) (a0 : AV) (T : HT) (nx : Nat) : GOk Tryz.prog envE 78 [a0] ro T nx (g78 ro a0 T nx) := by
 refine GOk.of_body Tryz.func78 rfl Tryz.ntmps78 (by kernel_rfl) rfl fun r T' n' h1 w0 base ρ0 its hS hP => ?_
 have X : CtxW envE ρ0 ro r T' n' := trivial
 unfold g78 at h1
 refine CV.regionMS hS [] [(0, .anywhere), (2, .held), (1, .alone), (3, .alone)] rfl (fun c a a' w hd hq => PanicOk.root (P := Tryz.prog) (fn := Tryz.f78) (w0 := w0) (base := base) (E := envE) (ro := ro) (r := r) (T' := T') (n' := n') (ρ0 := ρ0) c a a' w hd hq) (by kernel_rfl) ?_
 have hK := KeepS.start [] hS
 have hR := hS
 have hP0 := hP
 replace hP := PK.up hR hP
 replace hS := hR.root
 refine MV.step0 (i := 0) rfl (VAL.move rfl) rfl rfl rfl ?_
 refine MV.step1 (i := 2) rfl hK (VAL.ldGQ hS (by rfl) Pdf.one25) rfl rfl rfl [] (by kernel_rfl) ?_
 refine MV.force (i := 1) rfl ?_
 refine LV.call hS h1 (g129_ok _ _ _ _ ) hP rfl rfl rfl rfl fun x3_1 T1 n1 h2 ρ its hS => ?_
 obtain ⟨hK, h3⟩ := KeepS.step hR hS h2
 refine LV.nextM [2] (by kernel_rfl) (fun _ => hK) ?_
 refine MV.force (i := 3) rfl ?_
 refine LV.call hS h3 (g133_ok _ _ _ _ _ ) hP rfl rfl rfl rfl fun x5_2 T2 n2 h4 ρ its hS => ?_
 refine LV.nextM [] (by kernel_rfl) (fun z => absurd rfl z) ?_
 replace hS := hR.up hS
 replace hP := hP0
 refine MV.done ?_
 cases h4
 exact PV.ret (by simp) Tryz.results78 hS RS.nil rfl
noncomputable def g34 (ih : FuncId → List HT → List AV → HT → Nat → R) (ro : List HT) (a0 : AV) (T : HT) (nx : Nat) : R :=
 callK (ih 35 ro [a0] T nx) fun x3_1 T1 n1 =>
 .ok (.val (.tup [])) T1 n1
theorem g34_ok (ih : FuncId → List HT → List AV → HT → Nat → R) (hI : ∀ f ro args T nx, GOk Tryz.prog envE f args ro T nx (ih f ro args T nx)) (ro : List HT) (a0 : AV) (T : HT) (nx : Nat) : GOk Tryz.prog envE 34 [a0] ro T nx (g34 ih ro a0 T nx) := by
 refine GOk.of_body Tryz.func34 rfl Tryz.ntmps34 (by kernel_rfl) rfl fun r T' n' h1 w0 base ρ0 its hS hP => ?_
 have X : CtxW envE ρ0 ro r T' n' := trivial
 unfold g34 at h1
 refine CV.region ?_
 refine mv ?_
 refine LV.call hS h1 (hI _ _ _ _ _) hP rfl rfl rfl rfl fun x3_1 T1 n1 h2 ρ its hS => ?_
 refine LV.done ?_
 cases h2
 exact PV.ret (by simp) Tryz.results34 hS RS.nil rfl
noncomputable def g35_b1 (ih : FuncId → List HT → List AV → HT → Nat → R) (ro : List HT) (lp1 : AV → AV → HT → Nat → R) (y0 y2 : AV) (T1 : HT) (n1 : Nat) : R :=
 callK (g50 ro y0 T1 n1) fun x4_1 T2 n2 =>
 neK Tryz.prog 3 (.tmp 4) (.const (.int .i64 (.ofNat 8))) 350005 x4_1 (.lit (.int .i64 (.ofNat 8))) fun x5_2 =>
 condK 350006 x5_2
 (
  callK (ih 64 ro [y0, (.lit (.bool true))] T2 n2) fun x8_3 T3 n3 =>
  bsK 350010 T3 n3 1 3 1 [(0, x8_3)] fun x9_4 T4 n4 =>
  appK 350011 T4 ro n4 3 1 8 y2 x9_4 fun x10_5 T5 n5 =>
  lp1 y0 x10_5 T5 n5
 )
 (
  lenSK 350014 y2 fun x12_6 =>
  eqK Tryz.prog 3 (.tmp 12) (.const (.int .i64 (.ofNat 0))) 350015 x12_6 (.lit (.int .i64 (.ofNat 0))) fun x13_7 =>
  condK 350016 x13_7
  (
   .bad 350017
  )
  (
   ncK 350020 y0 fun x19_8 =>
   faK 350021 x19_8 2 fun x20_9 =>
   ldK 350022 T2 ro x20_9 fun x21_10 =>
   iaK 350024 y2 (.lit (.int .i64 (.ofNat 0))) 1 fun x23_11 =>
   ldK 350025 T2 ro x23_11 fun x24_12 =>
   iaK 350026 x21_10 x24_12 5 fun x25_13 =>
   faK 350027 x25_13 2 fun x26_14 =>
   ldK 350028 T2 ro x26_14 fun x27_15 =>
   callK (g65 ro y0 (.lit (.int .i64 (.ofNat 47))) x27_15 (.lit (.string ⟨⟨[]⟩⟩)) y2 T2 n2) fun x29_16 T6 n6 =>
   .ok (.val (.tup [])) T6 n6
  )
 )
noncomputable def g35 (ih : FuncId → List HT → List AV → HT → Nat → R) (ro : List HT) (a0 : AV) (T : HT) (nx : Nat) : R :=
 lpf2 350002 (g35_b1 ih ro) 100000 a0 (.lit (.slice none 0 0)) T nx
theorem g35_ok (ih : FuncId → List HT → List AV → HT → Nat → R) (hI : ∀ f ro args T nx, GOk Tryz.prog envE f args ro T nx (ih f ro args T nx)) (ro : List HT) (a0 : AV) (T : HT) (nx : Nat) : GOk Tryz.prog envE 35 [a0] ro T nx (g35 ih ro a0 T nx) := by
 refine GOk.of_body Tryz.func35 rfl Tryz.ntmps35 (by kernel_rfl) rfl fun r T' n' h1 w0 base ρ0 its hS hP => ?_
 have X : CtxW envE ρ0 ro r T' n' := trivial
 unfold g35 at h1
 refine sr ?_
 refine as_ ?_
 refine dn ?_
 refine CV.seq ?_
 refine CV.block ?_
 refine cl2 X 0 2 [] hS h1 ⟨rfl, rfl, trivial⟩ ?_
 intro f1 y0 y2 T1 n1 ρ its hS h2
 unfold g35_b1 at h2
 clear h1
 refine CV.seq ?_
 refine sr ?_
 refine mv ?_
 refine LV.call hS h2 (g50_ok _ _ _ _ ) hP rfl rfl rfl rfl fun x4_1 T2 n2 h3 ρ its hS => ?_
 refine vy (V.ne h3 rfl rfl) fun x5_2 h4 => ?_
 refine dn ?_
 refine CV.cond h4 rfl (fun e h5 => ?_) (fun e h5 => ?_)
 ·
  clear h2 h3 h4
  subst e
  refine CV.skip ?_
  refine PV.thenN ?_
  refine CV.block ?_
  refine CV.region ?_
  refine mv ?_
  refine mv ?_
  refine LV.call hS h5 (hI _ _ _ _ _) hP rfl rfl rfl rfl fun x8_3 T3 n3 h6 ρ its hS => ?_
  refine LV.bslice hS h6 rfl rfl Pdf.el30 rfl rfl rfl rfl fun x9_4 T4 n4 h7 ρ its hS hdr => ?_
  refine LV.app hS h7 rfl rfl rfl rfl Pdf.el30 rfl rfl rfl fun x10_5 T5 n5 h8 ρ its hS => ?_
  refine as_ ?_
  refine LV.done ?_
  refine PV.blockN ?_
  exact pb2 hS h8 ⟨rfl, rfl, trivial⟩
 ·
  clear h2 h3 h4
  subst e
  refine CV.exit ?_
  refine PV.thenE ?_
  refine PV.thenE ?_
  refine PV.blockE ?_
  refine PV.thenN ?_
  refine CV.seq ?_
  refine sr ?_
  refine mv ?_
  refine vy (V.lenS h5 rfl Pdf.ls30) fun x12_6 h9 => ?_
  refine vy (V.eq h9 rfl rfl) fun x13_7 h10 => ?_
  refine dn ?_
  refine CV.cond h10 rfl (fun e h11 => ?_) (fun e h11 => ?_)
  ·
   clear h5 h9 h10
   subst e
   cases h11
  ·
   clear h5 h9 h10
   subst e
   refine CV.skip ?_
   refine PV.thenN ?_
   refine CV.regionM [(0, .anywhere), (1, .anywhere), (2, .anywhere), (3, .anywhere), (4, .held), (5, .anywhere), (6, .anywhere), (7, .held), (8, .held), (9, .held), (10, .held), (11, .anywhere), (12, .alone)] rfl (fun c a a' w hd hq => PanicOk.root (P := Tryz.prog) (fn := Tryz.f35) (w0 := w0) (base := base) (E := envE) (ro := ro) (r := r) (T' := T') (n' := n') (ρ0 := ρ0) c a a' w hd hq) (by kernel_rfl) ?_
   refine MV.step0 (i := 0) rfl (VAL.move rfl) rfl rfl rfl ?_
   refine MV.step0 (i := 1) rfl (VAL.move rfl) rfl rfl rfl ?_
   refine MV.lift0 (i := 2) rfl (V.nc h11 rfl) rfl rfl rfl fun x19_8 h12 => ?_
   refine MV.lift0 (i := 3) rfl (V.fa h12 rfl Pdf.fo98_2) rfl rfl rfl fun x20_9 h13 => ?_
   refine MV.lift1 (i := 4) rfl (fun _ z => z) (V.ld hS h13 rfl Pdf.one23) rfl rfl rfl [] (by kernel_rfl) fun x21_10 h14 => ?_
   refine MV.step0 (i := 5) rfl (VAL.move rfl) rfl rfl rfl ?_
   refine MV.lift0 (i := 6) rfl (V.ia h14 rfl rfl Pdf.el30) rfl rfl rfl fun x23_11 h15 => ?_
   refine MV.lift1 (i := 7) rfl (fun _ z => z) (V.ld hS h15 rfl Pdf.one3) rfl rfl rfl [4] (by kernel_rfl) fun x24_12 h16 => ?_
   refine MV.lift1 (i := 8) rfl (fun _ z => z) (V.ia h16 rfl rfl Pdf.el23) rfl rfl rfl [] (by kernel_rfl) fun x25_13 h17 => ?_
   refine MV.lift1 (i := 9) rfl (fun _ z => z) (V.fa h17 rfl Pdf.fo32_2) rfl rfl rfl [] (by kernel_rfl) fun x26_14 h18 => ?_
   refine MV.lift1 (i := 10) rfl (fun _ z => z) (V.ld hS h18 rfl Pdf.one3) rfl rfl rfl [] (by kernel_rfl) fun x27_15 h19 => ?_
   refine MV.step0 (i := 11) rfl (VAL.move rfl) rfl rfl rfl ?_
   refine MV.force (i := 12) rfl ?_
   refine LV.call hS h19 (g65_ok _ _ _ _ _ _ _ _ ) hP rfl rfl rfl rfl fun x29_16 T6 n6 h20 ρ its hS => ?_
   refine LV.nextM [] (by kernel_rfl) (fun z => absurd rfl z) ?_
   refine MV.done ?_
   cases h20
   exact PV.ret (by simp) Tryz.results35 hS RS.nil rfl
noncomputable def g49 (ih : FuncId → List HT → List AV → HT → Nat → R) (ro : List HT) (a0 : AV) (T : HT) (nx : Nat) : R :=
 callK (ih 77 ro [a0] T nx) fun x7_1 T1 n1 =>
 exK 490005 x7_1 0 fun x8_2 =>
 exK 490006 x7_1 1 fun x9_3 =>
 .ok (.val x8_2) T1 n1
theorem g49_ok (ih : FuncId → List HT → List AV → HT → Nat → R) (hI : ∀ f ro args T nx, GOk Tryz.prog envE f args ro T nx (ih f ro args T nx)) (ro : List HT) (a0 : AV) (T : HT) (nx : Nat) : GOk Tryz.prog envE 49 [a0] ro T nx (g49 ih ro a0 T nx) := by
 refine GOk.of_body Tryz.func49 rfl Tryz.ntmps49 (by kernel_rfl) rfl fun r T' n' h1 w0 base ρ0 its hS hP => ?_
 have X : CtxW envE ρ0 ro r T' n' := trivial
 unfold g49 at h1
 refine sr ?_
 refine as_ ?_
 refine dn ?_
 refine sr ?_
 refine mv ?_
 refine LV.call hS h1 (hI _ _ _ _ _) hP rfl rfl rfl rfl fun x7_1 T1 n1 h2 ρ its hS => ?_
 refine mv ?_
 refine vy (V.ex h2 rfl) fun x8_2 h3 => ?_
 refine vy (V.ex h3 rfl) fun x9_3 h4 => ?_
 refine as_ ?_
 refine as_ ?_
 refine dn ?_
 refine sr ?_
 refine mv ?_
 refine as_ ?_
 refine dn ?_
 refine CV.ret ?_
 cases h4
 exact PV.ret (by simp) Tryz.results49 hS (RS.tmp rfl RS.nil) rfl
noncomputable def g64 (ih : FuncId → List HT → List AV → HT → Nat → R) (ro : List HT) (a0 a1 : AV) (T : HT) (nx : Nat) : R :=
 bsK 640003 T nx 1 9 1 [(0, (.lit (.string ⟨⟨[105, 102]⟩⟩)))] fun x8_1 T1 n1 =>
 callK (g99 ro a0 x8_1 T1 n1) fun x9_2 T2 n2 =>
 condK 640006 x9_2
 (
  .bad 640007
 )
 (
  bsK 640009 T2 n2 1 9 1 [(0, (.lit (.string ⟨⟨[102, 111, 114]⟩⟩)))] fun x14_3 T3 n3 =>
  callK (g99 ro a0 x14_3 T3 n3) fun x15_4 T4 n4 =>
  condK 640012 x15_4
  (
   .bad 640013
  )
  (
   bsK 640015 T4 n4 1 9 1 [(0, (.lit (.string ⟨⟨[100, 101, 102]⟩⟩)))] fun x20_5 T5 n5 =>
   callK (g99 ro a0 x20_5 T5 n5) fun x21_6 T6 n6 =>
   condK 640018 x21_6
   (
    .bad 640019
   )
   (
    callK (ih 103 ro [a0, a1] T6 n6) fun x30_7 T7 n7 =>
    callK (g51 ro a0 (.lit (.int .i64 (.ofNat 5))) T7 n7) fun x32_8 T8 n8 =>
    .ok (.val x30_7) T8 n8
   )
  )
 )
theorem g64_ok (ih : FuncId → List HT → List AV → HT → Nat → R) (hI : ∀ f ro args T nx, GOk Tryz.prog envE f args ro T nx (ih f ro args T nx)) (ro : List HT) (a0 a1 : AV) (T : HT) (nx : Nat) : GOk Tryz.prog envE 64 [a0, a1] ro T nx (g64 ih ro a0 a1 T nx) := by
 refine GOk.of_body Tryz.func64 rfl Tryz.ntmps64 (by kernel_rfl) rfl fun r T' n' h1 w0 base ρ0 its hS hP => ?_
 have X : CtxW envE ρ0 ro r T' n' := trivial
 unfold g64 at h1
 refine sr ?_
 refine as_ ?_
 refine dn ?_
 refine CV.seq ?_
 refine CV.block ?_
 refine sr ?_
 refine mv ?_
 refine LV.bslice hS h1 rfl rfl Pdf.el46 rfl rfl rfl rfl fun x8_1 T1 n1 h2 ρ its hS hdr => ?_
 refine LV.call hS h2 (g99_ok _ _ _ _ _ ) hP rfl rfl rfl rfl fun x9_2 T2 n2 h3 ρ its hS => ?_
 refine as_ ?_
 refine dn ?_
 refine CV.cond h3 rfl (fun e h4 => ?_) (fun e h4 => ?_)
 ·
  clear h1 h2 h3
  subst e
  cases h4
 ·
  clear h1 h2 h3
  subst e
  refine sr ?_
  refine mv ?_
  refine LV.bslice hS h4 rfl rfl Pdf.el46 rfl rfl rfl rfl fun x14_3 T3 n3 h5 ρ its hS hdr => ?_
  refine LV.call hS h5 (g99_ok _ _ _ _ _ ) hP rfl rfl rfl rfl fun x15_4 T4 n4 h6 ρ its hS => ?_
  refine as_ ?_
  refine dn ?_
  refine CV.cond h6 rfl (fun e h7 => ?_) (fun e h7 => ?_)
  ·
   clear h4 h5 h6
   subst e
   cases h7
  ·
   clear h4 h5 h6
   subst e
   refine sr ?_
   refine mv ?_
   refine LV.bslice hS h7 rfl rfl Pdf.el46 rfl rfl rfl rfl fun x20_5 T5 n5 h8 ρ its hS hdr => ?_
   refine LV.call hS h8 (g99_ok _ _ _ _ _ ) hP rfl rfl rfl rfl fun x21_6 T6 n6 h9 ρ its hS => ?_
   refine as_ ?_
   refine dn ?_
   refine CV.cond h9 rfl (fun e h10 => ?_) (fun e h10 => ?_)
   ·
    clear h7 h8 h9
    subst e
    cases h10
   ·
    clear h7 h8 h9
    subst e
    refine CV.skip ?_
    refine PV.blockN ?_
    refine PV.thenN ?_
    refine sr ?_
    refine mv ?_
    refine mv ?_
    refine LV.call hS h10 (hI _ _ _ _ _) hP rfl rfl rfl rfl fun x30_7 T7 n7 h11 ρ its hS => ?_
    refine as_ ?_
    refine dn ?_
    refine sr ?_
    refine mv ?_
    refine LV.call hS h11 (g51_ok _ _ _ _ _ ) hP rfl rfl rfl rfl fun x32_8 T8 n8 h12 ρ its hS => ?_
    refine dn ?_
    refine sr ?_
    refine mv ?_
    refine as_ ?_
    refine dn ?_
    refine CV.ret ?_
    cases h12
    exact PV.ret (by simp) Tryz.results64 hS (RS.tmp rfl RS.nil) rfl
noncomputable def g77_k1 (ih : FuncId → List HT → List AV → HT → Nat → R) (ro : List HT) (y0 y2 y3 y4 y5 y6 : AV) (T4 : HT) (n4 : Nat) : R :=
 notK 770012 y6 fun x22_4 =>
 condK 770013 x22_4
 (
  iaK 770015 y5 (.lit (.int .i64 (.ofNat 0))) 1 fun x24_5 =>
  ldK 770016 T4 ro x24_5 fun x25_6 =>
  .ok (.val (.tup [x25_6, (.lit (.bool false))])) T4 n4
 )
 (
  callK (g65 ro y0 (.lit (.int .i64 (.ofNat 8))) y4 (.lit (.string ⟨⟨[]⟩⟩)) y5 T4 n4) fun x29_7 T5 n5 =>
  .ok (.val (.tup [x29_7, (.lit (.bool true))])) T5 n5
 )
noncomputable def g77_b2 (ih : FuncId → List HT → List AV → HT → Nat → R) (ro : List HT) (lp2 : AV → AV → AV → AV → AV → AV → HT → Nat → R) (y0 y2 y3 y4 y5 y6 : AV) (T6 : HT) (n6 : Nat) : R :=
 callK (g131 ro y0 (.lit (.string ⟨⟨[44]⟩⟩)) T6 n6) fun x13_8 T7 n7 =>
 condK 770028 x13_8
 (
  callK (g132 ro y0 T7 n7) fun x15_9 T8 n8 =>
  condK 770032 x15_9
  (
   g77_k1 ih ro y0 y2 y3 y4 y5 (.lit (.bool true)) T8 n8
  )
  (
   callK (ih 130 ro [y0] T8 n8) fun x18_10 T9 n9 =>
   bsK 770036 T9 n9 1 3 1 [(0, x18_10)] fun x19_11 T10 n10 =>
   appK 770037 T10 ro n10 3 1 8 y5 x19_11 fun x20_12 T11 n11 =>
   lp2 y0 y2 y3 y4 x20_12 (.lit (.bool true)) T11 n11
  )
 )
 (
  g77_k1 ih ro y0 y2 y3 y4 y5 y6 T7 n7
 )
noncomputable def g77 (ih : FuncId → List HT → List AV → HT → Nat → R) (ro : List HT) (a0 : AV) (T : HT) (nx : Nat) : R :=
 callK (g129 ro a0 T nx) fun x8_1 T1 n1 =>
 callK (ih 130 ro [a0] T1 n1) fun x10_2 T2 n2 =>
 bsK 770008 T2 n2 1 3 1 [(0, x10_2)] fun x11_3 T3 n3 =>
 lpf6 770025 (g77_b2 ih ro) 100000 a0 (.lit (.int .i64 (.ofNat 0))) (.lit (.bool false)) x8_1 x11_3 (.lit (.bool false)) T3 n3
theorem g77_ok (ih : FuncId → List HT → List AV → HT → Nat → R) (hI : ∀ f ro args T nx, GOk Tryz.prog envE f args ro T nx (ih f ro args T nx)) (ro : List HT) (a0 : AV) (T : HT) (nx : Nat) : GOk Tryz.prog envE 77 [a0] ro T nx (g77 ih ro a0 T nx) := by
 refine GOk.of_body Tryz.func77 rfl Tryz.ntmps77 (by kernel_rfl) rfl fun r T' n' h1 w0 base ρ0 its hS hP => ?_
 have X : CtxW envE ρ0 ro r T' n' := trivial
 unfold g77 at h1
 refine sr ?_
 refine as_ ?_
 refine as_ ?_
 refine dn ?_
 refine sr ?_
 refine mv ?_
 refine LV.call hS h1 (g129_ok _ _ _ _ ) hP rfl rfl rfl rfl fun x8_1 T1 n1 h2 ρ its hS => ?_
 refine as_ ?_
 refine dn ?_
 refine sr ?_
 refine mv ?_
 refine LV.call hS h2 (hI _ _ _ _ _) hP rfl rfl rfl rfl fun x10_2 T2 n2 h3 ρ its hS => ?_
 refine LV.bslice hS h3 rfl rfl Pdf.el30 rfl rfl rfl rfl fun x11_3 T3 n3 h4 ρ its hS hdr => ?_
 refine as_ ?_
 refine dn ?_
 refine sr ?_
 refine as_ ?_
 refine dn ?_
 refine cs6 X 0 2 3 4 5 6 [] (g77_k1 ih ro) ?_ ?_
 ·
  refine CV.block ?_
  refine cl6 X 0 2 3 4 5 6 [] hS h4 ⟨rfl, rfl, rfl, rfl, rfl, rfl, trivial⟩ ?_
  intro f2 y0 y2 y3 y4 y5 y6 T6 n6 ρ its hS h11
  unfold g77_b2 at h11
  clear h1 h2 h3 h4
  refine CV.seq ?_
  refine sr ?_
  refine mv ?_
  refine LV.call hS h11 (g131_ok _ _ _ _ _ ) hP rfl rfl rfl rfl fun x13_8 T7 n7 h12 ρ its hS => ?_
  refine dn ?_
  refine CV.cond h12 rfl (fun e h13 => ?_) (fun e h13 => ?_)
  ·
   clear h11 h12
   subst e
   refine CV.skip ?_
   refine PV.thenN ?_
   refine CV.block ?_
   refine sr ?_
   refine as_ ?_
   refine dn ?_
   refine CV.seq ?_
   refine sr ?_
   refine mv ?_
   refine LV.call hS h13 (g132_ok _ _ _ _ ) hP rfl rfl rfl rfl fun x15_9 T8 n8 h14 ρ its hS => ?_
   refine dn ?_
   refine CV.cond h14 rfl (fun e h15 => ?_) (fun e h15 => ?_)
   ·
    clear h13 h14
    subst e
    refine CV.exit ?_
    refine PV.thenE ?_
    refine PV.blockO rfl ?_
    refine PV.thenE ?_
    refine PV.blockE ?_
    exact pa6 hS h15 ⟨rfl, rfl, rfl, rfl, rfl, rfl, trivial⟩
   ·
    clear h13 h14
    subst e
    refine CV.skip ?_
    refine PV.thenN ?_
    refine CV.region ?_
    refine mv ?_
    refine mv ?_
    refine LV.call hS h15 (hI _ _ _ _ _) hP rfl rfl rfl rfl fun x18_10 T9 n9 h16 ρ its hS => ?_
    refine LV.bslice hS h16 rfl rfl Pdf.el30 rfl rfl rfl rfl fun x19_11 T10 n10 h17 ρ its hS hdr => ?_
    refine LV.app hS h17 rfl rfl rfl rfl Pdf.el30 rfl rfl rfl fun x20_12 T11 n11 h18 ρ its hS => ?_
    refine as_ ?_
    refine LV.done ?_
    refine PV.blockN ?_
    exact pb6 hS h18 ⟨rfl, rfl, rfl, rfl, rfl, rfl, trivial⟩
  ·
   clear h11 h12
   subst e
   refine CV.exit ?_
   refine PV.thenE ?_
   refine PV.thenE ?_
   refine PV.blockE ?_
   exact pa6 hS h13 ⟨rfl, rfl, rfl, rfl, rfl, rfl, trivial⟩
 ·
  intro y0 y2 y3 y4 y5 y6 T4 n4 ρ its hS h5
  unfold g77_k1 at h5
  clear h1 h2 h3 h4
  refine CV.seq ?_
  refine sr ?_
  refine mv ?_
  refine vy (V.not h5 rfl) fun x22_4 h6 => ?_
  refine dn ?_
  refine CV.cond h6 rfl (fun e h7 => ?_) (fun e h7 => ?_)
  ·
   clear h5 h6
   subst e
   refine sr ?_
   refine mv ?_
   refine vy (V.ia h7 rfl rfl Pdf.el30) fun x24_5 h8 => ?_
   refine vy (V.ld hS h8 rfl Pdf.one3) fun x25_6 h9 => ?_
   refine as_ ?_
   refine as_ ?_
   refine dn ?_
   refine CV.ret ?_
   refine PV.thenR ?_
   cases h9
   exact PV.ret (by simp) Tryz.results77 hS (RS.tmp rfl (RS.tmp rfl RS.nil)) rfl
  ·
   clear h5 h6
   subst e
   refine CV.skip ?_
   refine PV.thenN ?_
   refine sr ?_
   refine mv ?_
   refine mv ?_
   refine mv ?_
   refine LV.call hS h7 (g65_ok _ _ _ _ _ _ _ _ ) hP rfl rfl rfl rfl fun x29_7 T5 n5 h10 ρ its hS => ?_
   refine as_ ?_
   refine as_ ?_
   refine dn ?_
   refine CV.ret ?_
   cases h10
   exact PV.ret (by simp) Tryz.results77 hS (RS.tmp rfl (RS.tmp rfl RS.nil)) rfl
noncomputable def g103 (ih : FuncId → List HT → List AV → HT → Nat → R) (ro : List HT) (a0 a1 : AV) (T : HT) (nx : Nat) : R :=
 callK (g129 ro a0 T nx) fun x10_1 T1 n1 =>
 callK (g131 ro a0 (.lit (.string ⟨⟨[112, 97, 115, 115]⟩⟩)) T1 n1) fun x13_2 T2 n2 =>
 condK 1030008 x13_2
 (
  .bad 1030009
 )
 (
  bsK 1030011 T2 n2 2 9 1 [(0, (.lit (.string ⟨⟨[98, 114, 101, 97, 107]⟩⟩))), (1, (.lit (.string ⟨⟨[99, 111, 110, 116, 105, 110, 117, 101]⟩⟩)))] fun x19_3 T3 n3 =>
  callK (g99 ro a0 x19_3 T3 n3) fun x20_4 T4 n4 =>
  condK 1030014 x20_4
  (
   .bad 1030015
  )
  (
   bsK 1030017 T4 n4 1 9 1 [(0, (.lit (.string ⟨⟨[114, 101, 116, 117, 114, 110]⟩⟩)))] fun x45_5 T5 n5 =>
   callK (g99 ro a0 x45_5 T5 n5) fun x46_6 T6 n6 =>
   condK 1030020 x46_6
   (
    .bad 1030021
   )
   (
    bsK 1030023 T6 n6 1 9 1 [(0, (.lit (.string ⟨⟨[108, 111, 97, 100]⟩⟩)))] fun x51_7 T7 n7 =>
    callK (g99 ro a0 x51_7 T7 n7) fun x52_8 T8 n8 =>
    condK 1030026 x52_8
    (
     .bad 1030027
    )
    (
     callK (ih 49 ro [a0] T8 n8) fun x60_9 T9 n9 =>
     callK (g129 ro a0 T9 n9) fun x62_10 T10 n10 =>
     bsK 1030035 T10 n10 1 9 1 [(0, (.lit (.string ⟨⟨[61]⟩⟩)))] fun x65_11 T11 n11 =>
     callK (g99 ro a0 x65_11 T11 n11) fun x66_12 T12 n12 =>
     condK 1030038 x66_12
     (
      callK (scc1 4000 182 ro [a0, x60_9] T12 n12) fun x69_13 T13 n13 =>
      notK 1030042 x69_13 fun x70_14 =>
      condK 1030043 x70_14
      (
       .bad 1030044
      )
      (
       fldK 1030046 T13 ro a0 1 fun x76_15 =>
       addK Tryz.prog 3 (.tmp 76) (.const (.int .i64 (.ofNat 1))) 1030047 x76_15 (.lit (.int .i64 (.ofNat 1))) fun x77_16 =>
       faK 1030048 a0 1 fun x79_17 =>
       stK 1030049 T13 x79_17 x77_16 fun T14 =>
       callK (ih 49 ro [a0] T14 n13) fun x84_18 T15 n15 =>
       bsK 1030055 T15 n15 2 3 1 [(0, x60_9), (1, x84_18)] fun x85_19 T16 n16 =>
       callK (g65 ro a0 (.lit (.int .i64 (.ofNat 36))) x62_10 (.lit (.string ⟨⟨[]⟩⟩)) x85_19 T16 n16) fun x86_20 T17 n17 =>
       .ok (.val x86_20) T17 n17
      )
     )
     (
      bsK 1030059 T12 n12 1 9 1 [(0, (.lit (.string ⟨⟨[43, 61]⟩⟩)))] fun x89_21 T18 n18 =>
      callK (g99 ro a0 x89_21 T18 n18) fun x90_22 T19 n19 =>
      condK 1030062 x90_22
      (
       .bad 1030063
      )
      (
       fldK 1030066 T19 ro a0 2 fun x125_23 =>
       iaK 1030068 x125_23 x60_9 5 fun x127_24 =>
       faK 1030069 x127_24 2 fun x128_25 =>
       ldK 1030070 T19 ro x128_25 fun x129_26 =>
       bsK 1030072 T19 n19 1 3 1 [(0, x60_9)] fun x131_27 T20 n20 =>
       callK (g65 ro a0 (.lit (.int .i64 (.ofNat 35))) x129_26 (.lit (.string ⟨⟨[]⟩⟩)) x131_27 T20 n20) fun x132_28 T21 n21 =>
       .ok (.val x132_28) T21 n21
      )
     )
    )
   )
  )
 )
theorem g103_ok (ih : FuncId → List HT → List AV → HT → Nat → R) (hI : ∀ f ro args T nx, GOk Tryz.prog envE f args ro T nx (ih f ro args T nx)) (ro : List HT) (a0 a1 : AV) (T : HT) (nx : Nat) : GOk Tryz.prog envE 103 [a0, a1] ro T nx (g103 ih ro a0 a1 T nx) := by
 refine GOk.of_body Tryz.func103 rfl Tryz.ntmps103 (by kernel_rfl) rfl fun r T' n' h1 w0 base ρ0 its hS hP => ?_
 have X : CtxW envE ρ0 ro r T' n' := trivial
 unfold g103 at h1
 refine sr ?_
 refine as_ ?_
 refine dn ?_
 refine sr ?_
 refine mv ?_
 refine LV.call hS h1 (g129_ok _ _ _ _ ) hP rfl rfl rfl rfl fun x10_1 T1 n1 h2 ρ its hS => ?_
 refine as_ ?_
 refine dn ?_
 refine CV.seq ?_
 refine CV.block ?_
 refine sr ?_
 refine mv ?_
 refine LV.call hS h2 (g131_ok _ _ _ _ _ ) hP rfl rfl rfl rfl fun x13_2 T2 n2 h3 ρ its hS => ?_
 refine as_ ?_
 refine dn ?_
 refine CV.cond h3 rfl (fun e h4 => ?_) (fun e h4 => ?_)
 ·
  clear h1 h2 h3
  subst e
  cases h4
 ·
  clear h1 h2 h3
  subst e
  refine sr ?_
  refine mv ?_
  refine LV.bslice hS h4 rfl rfl Pdf.el46 rfl rfl rfl rfl fun x19_3 T3 n3 h5 ρ its hS hdr => ?_
  refine LV.call hS h5 (g99_ok _ _ _ _ _ ) hP rfl rfl rfl rfl fun x20_4 T4 n4 h6 ρ its hS => ?_
  refine as_ ?_
  refine dn ?_
  refine CV.cond h6 rfl (fun e h7 => ?_) (fun e h7 => ?_)
  ·
   clear h4 h5 h6
   subst e
   cases h7
  ·
   clear h4 h5 h6
   subst e
   refine sr ?_
   refine mv ?_
   refine LV.bslice hS h7 rfl rfl Pdf.el46 rfl rfl rfl rfl fun x45_5 T5 n5 h8 ρ its hS hdr => ?_
   refine LV.call hS h8 (g99_ok _ _ _ _ _ ) hP rfl rfl rfl rfl fun x46_6 T6 n6 h9 ρ its hS => ?_
   refine as_ ?_
   refine dn ?_
   refine CV.cond h9 rfl (fun e h10 => ?_) (fun e h10 => ?_)
   ·
    clear h7 h8 h9
    subst e
    cases h10
   ·
    clear h7 h8 h9
    subst e
    refine sr ?_
    refine mv ?_
    refine LV.bslice hS h10 rfl rfl Pdf.el46 rfl rfl rfl rfl fun x51_7 T7 n7 h11 ρ its hS hdr => ?_
    refine LV.call hS h11 (g99_ok _ _ _ _ _ ) hP rfl rfl rfl rfl fun x52_8 T8 n8 h12 ρ its hS => ?_
    refine as_ ?_
    refine dn ?_
    refine CV.cond h12 rfl (fun e h13 => ?_) (fun e h13 => ?_)
    ·
     clear h10 h11 h12
     subst e
     cases h13
    ·
     clear h10 h11 h12
     subst e
     refine CV.skip ?_
     refine PV.blockN ?_
     refine PV.thenN ?_
     refine sr ?_
     refine mv ?_
     refine LV.call hS h13 (hI _ _ _ _ _) hP rfl rfl rfl rfl fun x60_9 T9 n9 h14 ρ its hS => ?_
     refine as_ ?_
     refine dn ?_
     refine sr ?_
     refine mv ?_
     refine LV.call hS h14 (g129_ok _ _ _ _ ) hP rfl rfl rfl rfl fun x62_10 T10 n10 h15 ρ its hS => ?_
     refine as_ ?_
     refine dn ?_
     refine CV.seq ?_
     refine CV.block ?_
     refine sr ?_
     refine mv ?_
     refine LV.bslice hS h15 rfl rfl Pdf.el46 rfl rfl rfl rfl fun x65_11 T11 n11 h16 ρ its hS hdr => ?_
     refine LV.call hS h16 (g99_ok _ _ _ _ _ ) hP rfl rfl rfl rfl fun x66_12 T12 n12 h17 ρ its hS => ?_
     refine as_ ?_
     refine dn ?_
     refine CV.cond h17 rfl (fun e h18 => ?_) (fun e h18 => ?_)
     ·
      clear h13 h14 h15 h16 h17
      subst e
      refine CV.seq ?_
      refine sr ?_
      refine mv ?_
      refine mv ?_
      refine LV.call hS h18 (scc1_ok _ _ _ _ _ _) hP rfl rfl rfl rfl fun x69_13 T13 n13 h19 ρ its hS => ?_
      refine vy (V.not h19 rfl) fun x70_14 h20 => ?_
      refine dn ?_
      refine CV.cond h20 rfl (fun e h21 => ?_) (fun e h21 => ?_)
      ·
       clear h18 h19 h20
       subst e
       cases h21
      ·
       clear h18 h19 h20
       subst e
       refine CV.skip ?_
       refine PV.thenN ?_
       refine sr ?_
       refine mv ?_
       refine fl hS h21 Pdf.fo98_1 Pdf.one3 fun x76_15 h22 => ?_
       refine vy (V.add h22 rfl rfl) fun x77_16 h23 => ?_
       refine fa2 h23 Pdf.fo98_1 fun x79_17 h24 => ?_
       refine LV.st hS h24 rfl rfl rfl Pdf.siz3 rfl rfl fun T14 its h25 hS => ?_
       refine dn ?_
       refine sr ?_
       refine mv ?_
       refine mv ?_
       refine mv ?_
       refine mv ?_
       refine LV.call hS h25 (hI _ _ _ _ _) hP rfl rfl rfl rfl fun x84_18 T15 n15 h26 ρ its hS => ?_
       refine LV.bslice hS h26 rfl rfl Pdf.el30 rfl rfl rfl rfl fun x85_19 T16 n16 h27 ρ its hS hdr => ?_
       refine LV.call hS h27 (g65_ok _ _ _ _ _ _ _ _ ) hP rfl rfl rfl rfl fun x86_20 T17 n17 h28 ρ its hS => ?_
       refine as_ ?_
       refine dn ?_
       refine CV.ret ?_
       refine PV.blockR ?_
       refine PV.thenR ?_
       cases h28
       exact PV.ret (by simp) Tryz.results103 hS (RS.tmp rfl RS.nil) rfl
     ·
      clear h13 h14 h15 h16 h17
      subst e
      refine sr ?_
      refine mv ?_
      refine LV.bslice hS h18 rfl rfl Pdf.el46 rfl rfl rfl rfl fun x89_21 T18 n18 h29 ρ its hS hdr => ?_
      refine LV.call hS h29 (g99_ok _ _ _ _ _ ) hP rfl rfl rfl rfl fun x90_22 T19 n19 h30 ρ its hS => ?_
      refine as_ ?_
      refine dn ?_
      refine CV.cond h30 rfl (fun e h31 => ?_) (fun e h31 => ?_)
      ·
       clear h18 h29 h30
       subst e
       cases h31
      ·
       clear h18 h29 h30
       subst e
       refine CV.skip ?_
       refine PV.blockN ?_
       refine PV.thenN ?_
       refine sr ?_
       refine mv ?_
       refine mv ?_
       refine fl hS h31 Pdf.fo98_2 Pdf.one23 fun x125_23 h32 => ?_
       refine mv ?_
       refine vy (V.ia h32 rfl rfl Pdf.el23) fun x127_24 h33 => ?_
       refine vy (V.fa h33 rfl Pdf.fo32_2) fun x128_25 h34 => ?_
       refine vy (V.ld hS h34 rfl Pdf.one3) fun x129_26 h35 => ?_
       refine mv ?_
       refine LV.bslice hS h35 rfl rfl Pdf.el30 rfl rfl rfl rfl fun x131_27 T20 n20 h36 ρ its hS hdr => ?_
       refine LV.call hS h36 (g65_ok _ _ _ _ _ _ _ _ ) hP rfl rfl rfl rfl fun x132_28 T21 n21 h37 ρ its hS => ?_
       refine as_ ?_
       refine dn ?_
       refine CV.ret ?_
       cases h37
       exact PV.ret (by simp) Tryz.results103 hS (RS.tmp rfl RS.nil) rfl
noncomputable def g130 (ih : FuncId → List HT → List AV → HT → Nat → R) (ro : List HT) (a0 : AV) (T : HT) (nx : Nat) : R :=
 callK (ih 189 ro [a0] T nx) fun x8_1 T1 n1 =>
 bsK 1300006 T1 n1 1 9 1 [(0, (.lit (.string ⟨⟨[105, 102]⟩⟩)))] fun x10_2 T2 n2 =>
 callK (g99 ro a0 x10_2 T2 n2) fun x11_3 T3 n3 =>
 notK 1300008 x11_3 fun x12_4 =>
 condK 1300009 x12_4
 (
  .ok (.val x8_1) T3 n3
 )
 (
  callK (g177 ro a0 (.lit (.string ⟨⟨[105, 102]⟩⟩)) T3 n3) fun x15_5 T4 n4 =>
  callK (g176 ro a0 x15_5 T4 n4) fun x18_6 T5 n5 =>
  callK (ih 189 ro [a0] T5 n5) fun x20_7 T6 n6 =>
  callK (g177 ro a0 (.lit (.string ⟨⟨[101, 108, 115, 101]⟩⟩)) T6 n6) fun x22_8 T7 n7 =>
  callK (ih 130 ro [a0] T7 n7) fun x24_9 T8 n8 =>
  fldK 1300027 T8 ro a0 3 fun x28_10 =>
  subK Tryz.prog 3 (.tmp 28) (.const (.int .i64 (.ofNat 1))) 1300028 x28_10 (.lit (.int .i64 (.ofNat 1))) fun x29_11 =>
  faK 1300029 a0 3 fun x31_12 =>
  stK 1300030 T8 x31_12 x29_11 fun T9 =>
  bsK 1300036 T9 n8 3 3 1 [(0, x20_7), (1, x8_1), (2, x24_9)] fun x37_13 T10 n10 =>
  callK (g65 ro a0 (.lit (.int .i64 (.ofNat 20))) x15_5 (.lit (.string ⟨⟨[]⟩⟩)) x37_13 T10 n10) fun x38_14 T11 n11 =>
  .ok (.val x38_14) T11 n11
 )
theorem g130_ok (ih : FuncId → List HT → List AV → HT → Nat → R) (hI : ∀ f ro args T nx, GOk Tryz.prog envE f args ro T nx (ih f ro args T nx)) (ro : List HT) (a0 : AV) (T : HT) (nx : Nat) : GOk Tryz.prog envE 130 [a0] ro T nx (g130 ih ro a0 T nx) := by
 refine GOk.of_body Tryz.func130 rfl Tryz.ntmps130 (by kernel_rfl) rfl fun r T' n' h1 w0 base ρ0 its hS hP => ?_
 have X : CtxW envE ρ0 ro r T' n' := trivial
 unfold g130 at h1
 refine sr ?_
 refine as_ ?_
 refine dn ?_
 refine sr ?_
 refine mv ?_
 refine LV.call hS h1 (hI _ _ _ _ _) hP rfl rfl rfl rfl fun x8_1 T1 n1 h2 ρ its hS => ?_
 refine as_ ?_
 refine dn ?_
 refine CV.seq ?_
 refine sr ?_
 refine mv ?_
 refine LV.bslice hS h2 rfl rfl Pdf.el46 rfl rfl rfl rfl fun x10_2 T2 n2 h3 ρ its hS hdr => ?_
 refine LV.call hS h3 (g99_ok _ _ _ _ _ ) hP rfl rfl rfl rfl fun x11_3 T3 n3 h4 ρ its hS => ?_
 refine vy (V.not h4 rfl) fun x12_4 h5 => ?_
 refine dn ?_
 refine CV.cond h5 rfl (fun e h6 => ?_) (fun e h6 => ?_)
 ·
  clear h1 h2 h3 h4 h5
  subst e
  refine sr ?_
  refine mv ?_
  refine as_ ?_
  refine dn ?_
  refine CV.ret ?_
  refine PV.thenR ?_
  cases h6
  exact PV.ret (by simp) Tryz.results130 hS (RS.tmp rfl RS.nil) rfl
 ·
  clear h1 h2 h3 h4 h5
  subst e
  refine CV.skip ?_
  refine PV.thenN ?_
  refine sr ?_
  refine mv ?_
  refine LV.call hS h6 (g177_ok _ _ _ _ _ ) hP rfl rfl rfl rfl fun x15_5 T4 n4 h7 ρ its hS => ?_
  refine as_ ?_
  refine dn ?_
  refine sr ?_
  refine mv ?_
  refine mv ?_
  refine LV.call hS h7 (g176_ok _ _ _ _ _ ) hP rfl rfl rfl rfl fun x18_6 T5 n5 h8 ρ its hS => ?_
  refine dn ?_
  refine sr ?_
  refine mv ?_
  refine LV.call hS h8 (hI _ _ _ _ _) hP rfl rfl rfl rfl fun x20_7 T6 n6 h9 ρ its hS => ?_
  refine as_ ?_
  refine dn ?_
  refine sr ?_
  refine mv ?_
  refine LV.call hS h9 (g177_ok _ _ _ _ _ ) hP rfl rfl rfl rfl fun x22_8 T7 n7 h10 ρ its hS => ?_
  refine dn ?_
  refine sr ?_
  refine mv ?_
  refine LV.call hS h10 (hI _ _ _ _ _) hP rfl rfl rfl rfl fun x24_9 T8 n8 h11 ρ its hS => ?_
  refine as_ ?_
  refine dn ?_
  refine sr ?_
  refine mv ?_
  refine fl hS h11 Pdf.fo98_3 Pdf.one3 fun x28_10 h12 => ?_
  refine vy (V.sub h12 rfl rfl) fun x29_11 h13 => ?_
  refine fa2 h13 Pdf.fo98_3 fun x31_12 h14 => ?_
  refine LV.st hS h14 rfl rfl rfl Pdf.siz3 rfl rfl fun T9 its h15 hS => ?_
  refine dn ?_
  refine sr ?_
  refine mv ?_
  refine mv ?_
  refine mv ?_
  refine mv ?_
  refine mv ?_
  refine LV.bslice hS h15 rfl rfl Pdf.el30 rfl rfl rfl rfl fun x37_13 T10 n10 h16 ρ its hS hdr => ?_
  refine LV.call hS h16 (g65_ok _ _ _ _ _ _ _ _ ) hP rfl rfl rfl rfl fun x38_14 T11 n11 h17 ρ its hS => ?_
  refine as_ ?_
  refine dn ?_
  refine CV.ret ?_
  cases h17
  exact PV.ret (by simp) Tryz.results130 hS (RS.tmp rfl RS.nil) rfl
noncomputable def g189 (ih : FuncId → List HT → List AV → HT → Nat → R) (ro : List HT) (a0 : AV) (T : HT) (nx : Nat) : R :=
 bsK 1890005 T nx 1 9 1 [(0, (.lit (.string ⟨⟨[111, 114]⟩⟩)))] fun x6_1 T1 n1 =>
 callK (ih 217 ro [a0, (.fn (.func 218) [a0] []), x6_1] T1 n1) fun x7_2 T2 n2 =>
 .ok (.val x7_2) T2 n2
theorem g189_ok (ih : FuncId → List HT → List AV → HT → Nat → R) (hI : ∀ f ro args T nx, GOk Tryz.prog envE f args ro T nx (ih f ro args T nx)) (ro : List HT) (a0 : AV) (T : HT) (nx : Nat) : GOk Tryz.prog envE 189 [a0] ro T nx (g189 ih ro a0 T nx) := by
 refine GOk.of_body Tryz.func189 rfl Tryz.ntmps189 (by kernel_rfl) rfl fun r T' n' h1 w0 base ρ0 its hS hP => ?_
 have X : CtxW envE ρ0 ro r T' n' := trivial
 unfold g189 at h1
 refine sr ?_
 refine as_ ?_
 refine dn ?_
 refine sr ?_
 refine mv ?_
 refine mv ?_
 refine pu ?_
 refine LV.bslice hS h1 rfl rfl Pdf.el46 rfl rfl rfl rfl fun x6_1 T1 n1 h2 ρ its hS hdr => ?_
 refine LV.call hS h2 (hI _ _ _ _ _) hP rfl rfl rfl rfl fun x7_2 T2 n2 h3 ρ its hS => ?_
 refine as_ ?_
 refine dn ?_
 refine CV.ret ?_
 cases h3
 exact PV.ret (by simp) Tryz.results189 hS (RS.tmp rfl RS.nil) rfl
noncomputable def g217_b1 (ih : FuncId → List HT → List AV → HT → Nat → R) (ro : List HT) (lp1 : AV → AV → AV → AV → AV → HT → Nat → R) (y0 y1 y2 y6 y7 : AV) (T2 : HT) (n2 : Nat) : R :=
 callK (g99 ro y0 y2 T2 n2) fun x13_2 T3 n3 =>
 condK 2170009 x13_2
 (
  ncK 2170011 y0 fun x15_3 =>
  faK 2170012 x15_3 0 fun x16_4 =>
  ldK 2170013 T3 ro x16_4 fun x17_5 =>
  ncK 2170015 y0 fun x19_6 =>
  faK 2170016 x19_6 1 fun x20_7 =>
  ldK 2170017 T3 ro x20_7 fun x21_8 =>
  iaK 2170018 x17_5 x21_8 3 fun x22_9 =>
  ldAK 2170019 T3 ro x22_9 3 fun x23_10 =>
  newK T3 n3 (.obj [.lit (.int .i64 0), .lit (.string ⟨#[]⟩), .lit (.int .i64 0)] 139) fun x8_11 T4 n4 =>
  stAK 2170021 T4 x8_11 x23_10 3 fun T5 =>
  fldK 2170023 T5 ro y0 1 fun x27_12 =>
  addK Tryz.prog 3 (.tmp 27) (.const (.int .i64 (.ofNat 1))) 2170024 x27_12 (.lit (.int .i64 (.ofNat 1))) fun x28_13 =>
  faK 2170025 y0 1 fun x30_14 =>
  stK 2170026 T5 x30_14 x28_13 fun T6 =>
  faK 2170028 x8_11 1 fun x32_15 =>
  ldQK 2170029 T6 ro [x8_11] x32_15 fun x33_16 =>
  faK 2170030 x8_11 2 fun x35_17 =>
  ldQK 2170031 T6 ro [x8_11] x35_17 fun x36_18 =>
  callK (g231 ro x33_16 T6 n4) fun x34_19 T7 n7 =>
  keepK 2170035 T6 T7 [x8_11] <|
  dynK 2170036 y1 fun f p q => callK (ih f ro (p ++ ([] ++ q)) T7 n7) fun x39_20 T8 n8 =>
  keepK 2170037 T6 T8 [x8_11] <|
  bsK 2170038 T8 n8 2 3 1 [(0, y7), (1, x39_20)] fun x40_21 T9 n9 =>
  keepK 2170039 T6 T9 [x8_11] <|
  callK (g65 ro y0 x34_19 x36_18 (.lit (.string ⟨⟨[]⟩⟩)) x40_21 T9 n9) fun x41_22 T10 n10 =>
  lp1 y0 y1 y2 y6 x41_22 T10 n10
 )
 (
  .ok (.val y7) T3 n3
 )
noncomputable def g217 (ih : FuncId → List HT → List AV → HT → Nat → R) (ro : List HT) (a0 a1 a2 : AV) (T : HT) (nx : Nat) : R :=
 dynK 2170003 a1 fun f p q => callK (ih f ro (p ++ ([] ++ q)) T nx) fun x10_1 T1 n1 =>
 lpf5 2170005 (g217_b1 ih ro) 100000 a0 a1 a2 (.lit (.int .i64 (.ofNat 0))) x10_1 T1 n1
theorem g217_ok (ih : FuncId → List HT → List AV → HT → Nat → R) (hI : ∀ f ro args T nx, GOk Tryz.prog envE f args ro T nx (ih f ro args T nx)) (ro : List HT) (a0 a1 a2 : AV) (T : HT) (nx : Nat) : GOk Tryz.prog envE 217 [a0, a1, a2] ro T nx (g217 ih ro a0 a1 a2 T nx) := by
 refine GOk.of_body Tryz.func217 rfl Tryz.ntmps217 (by kernel_rfl) rfl fun r T' n' h1 w0 base ρ0 its hS hP => ?_
 have X : CtxW envE ρ0 ro r T' n' := trivial
 unfold g217 at h1
 refine sr ?_
 refine as_ ?_
 refine dn ?_
 refine sr ?_
 refine mv ?_
 refine LV.callD (G := fun f gs => ih f ro gs T nx) (qs := []) hS h1 (fun f gs => hI _ _ _ _ _) hP rfl rfl rfl rfl rfl rfl rfl fun x10_1 T1 n1 h2 ρ its hS => ?_
 refine as_ ?_
 refine dn ?_
 refine CV.seq ?_
 refine CV.block ?_
 refine cl5 X 0 1 2 6 7 [] hS h2 ⟨rfl, rfl, rfl, rfl, rfl, trivial⟩ ?_
 intro f1 y0 y1 y2 y6 y7 T2 n2 ρ its hS h3
 unfold g217_b1 at h3
 clear h1 h2
 refine CV.seq ?_
 refine sr ?_
 refine mv ?_
 refine mv ?_
 refine LV.call hS h3 (g99_ok _ _ _ _ _ ) hP rfl rfl rfl rfl fun x13_2 T3 n3 h4 ρ its hS => ?_
 refine dn ?_
 refine CV.cond h4 rfl (fun e h5 => ?_) (fun e h5 => ?_)
 ·
  clear h3 h4
  subst e
  refine CV.skip ?_
  refine PV.thenN ?_
  refine CV.block ?_
  refine CV.seq ?_
  refine CV.regionM [(0, .anywhere), (1, .anywhere), (2, .anywhere), (3, .held), (4, .anywhere), (5, .anywhere), (6, .anywhere), (7, .held), (8, .held), (9, .held), (10, .alone), (11, .alone)] rfl (fun c a a' w hd hq => PanicOk.root (P := Tryz.prog) (fn := Tryz.f217) (w0 := w0) (base := base) (E := envE) (ro := ro) (r := r) (T' := T') (n' := n') (ρ0 := ρ0) c a a' w hd hq) (by kernel_rfl) ?_
  refine MV.step0 (i := 0) rfl (VAL.move rfl) rfl rfl rfl ?_
  refine MV.lift0 (i := 1) rfl (V.nc h5 rfl) rfl rfl rfl fun x15_3 h6 => ?_
  refine MV.lift0 (i := 2) rfl (V.fa h6 rfl Pdf.fo98_0) rfl rfl rfl fun x16_4 h7 => ?_
  refine MV.lift1 (i := 3) rfl (fun _ z => z) (V.ld hS h7 rfl Pdf.one96) rfl rfl rfl [] (by kernel_rfl) fun x17_5 h8 => ?_
  refine MV.step0 (i := 4) rfl (VAL.move rfl) rfl rfl rfl ?_
  refine MV.lift0 (i := 5) rfl (V.nc h8 rfl) rfl rfl rfl fun x19_6 h9 => ?_
  refine MV.lift0 (i := 6) rfl (V.fa h9 rfl Pdf.fo98_1) rfl rfl rfl fun x20_7 h10 => ?_
  refine MV.lift1 (i := 7) rfl (fun _ z => z) (V.ld hS h10 rfl Pdf.one3) rfl rfl rfl [3] (by kernel_rfl) fun x21_8 h11 => ?_
  refine MV.lift1 (i := 8) rfl (fun _ z => z) (V.ia h11 rfl rfl Pdf.el96) rfl rfl rfl [] (by kernel_rfl) fun x22_9 h12 => ?_
  refine MV.lift1 (i := 9) rfl (fun _ z => z) (V.ldA hS h12 rfl Pdf.agg139) rfl rfl rfl [] (by kernel_rfl) fun x23_10 h13 => ?_
  refine MV.force (i := 10) rfl ?_
  refine LV.alloc hS h13 rfl Pdf.zr139 rfl rfl rfl fun x8_11 T4 n4 h14 ρ its hS hdr => ?_
  refine LV.nextM [9] (by kernel_rfl) (fun _ => hdr) ?_
  refine MV.force (i := 11) rfl ?_
  refine LV.stA hS h14 rfl rfl rfl Pdf.agg139 rfl rfl rfl fun T5 its h15 hS => ?_
  refine LV.nextM [] (by kernel_rfl) (fun z => absurd rfl z) ?_
  refine mdn ?_
  refine sr ?_
  refine mv ?_
  refine fl hS h15 Pdf.fo98_1 Pdf.one3 fun x27_12 h16 => ?_
  refine vy (V.add h16 rfl rfl) fun x28_13 h17 => ?_
  refine fa2 h17 Pdf.fo98_1 fun x30_14 h18 => ?_
  refine LV.st hS h18 rfl rfl rfl Pdf.siz3 rfl rfl fun T6 its h19 hS => ?_
  refine dn ?_
  refine CV.regionMS hS [x8_11] [(0, .anywhere), (1, .anywhere), (2, .held), (4, .anywhere), (5, .held), (6, .anywhere), (7, .anywhere), (3, .alone), (8, .alone), (9, .alone), (10, .alone), (11, .alone)] rfl (fun c a a' w hd hq => PanicOk.root (P := Tryz.prog) (fn := Tryz.f217) (w0 := w0) (base := base) (E := envE) (ro := ro) (r := r) (T' := T') (n' := n') (ρ0 := ρ0) c a a' w hd hq) (by kernel_rfl) ?_
  have hK := KeepS.start [x8_11] hS
  have hR := hS
  have hP0 := hP
  replace hP := PK.up hR hP
  replace hS := hR.root
  refine MV.step0 (i := 0) rfl (VAL.move rfl) rfl rfl rfl ?_
  refine MV.lift0 (i := 1) rfl (V.fa h19 rfl Pdf.fo139_1) rfl rfl rfl fun x32_15 h20 => ?_
  refine MV.lift1 (i := 2) rfl hK (V.ldQ hS h20 rfl Pdf.one9) rfl rfl rfl [] (by kernel_rfl) fun x33_16 h21 => ?_
  refine MV.lift0 (i := 4) rfl (V.fa h21 rfl Pdf.fo139_2) rfl rfl rfl fun x35_17 h22 => ?_
  refine MV.lift1 (i := 5) rfl hK (V.ldQ hS h22 rfl Pdf.one3) rfl rfl rfl [2] (by kernel_rfl) fun x36_18 h23 => ?_
  refine MV.step0 (i := 6) rfl (VAL.move rfl) rfl rfl rfl ?_
  refine MV.step0 (i := 7) rfl (VAL.move rfl) rfl rfl rfl ?_
  refine MV.force (i := 3) rfl ?_
  refine LV.call hS h23 (g231_ok _ _ _ _ ) hP rfl rfl rfl rfl fun x34_19 T7 n7 h24 ρ its hS => ?_
  obtain ⟨hK, h25⟩ := KeepS.step hR hS h24
  refine LV.nextM [5] (by kernel_rfl) (fun _ => hK) ?_
  refine MV.force (i := 8) rfl ?_
  refine LV.callD (G := fun f gs => ih f ro gs T7 n7) (qs := []) hS h25 (fun f gs => hI _ _ _ _ _) hP rfl rfl rfl rfl rfl rfl rfl fun x39_20 T8 n8 h26 ρ its hS => ?_
  obtain ⟨hK, h27⟩ := KeepS.step hR hS h26
  refine LV.nextM [5] (by kernel_rfl) (fun _ => hK) ?_
  refine MV.force (i := 9) rfl ?_
  refine LV.bslice hS h27 rfl rfl Pdf.el30 rfl rfl rfl rfl fun x40_21 T9 n9 h28 ρ its hS hdr => ?_
  obtain ⟨hK, h29⟩ := KeepS.step hR hS h28
  refine LV.nextM [5] (by kernel_rfl) (fun _ => hK) ?_
  refine MV.force (i := 10) rfl ?_
  refine LV.call hS h29 (g65_ok _ _ _ _ _ _ _ _ ) hP rfl rfl rfl rfl fun x41_22 T10 n10 h30 ρ its hS => ?_
  refine LV.nextM [] (by kernel_rfl) (fun z => absurd rfl z) ?_
  refine MV.force (i := 11) rfl ?_
  refine as_ ?_
  refine LV.nextM [] (by kernel_rfl) (fun z => absurd rfl z) ?_
  replace hS := hR.up hS
  replace hP := hP0
  refine MV.done ?_
  refine PV.blockN ?_
  exact pb5 hS h30 ⟨rfl, rfl, rfl, rfl, rfl, trivial⟩
 ·
  clear h3 h4
  subst e
  refine CV.exit ?_
  refine PV.thenE ?_
  refine PV.thenE ?_
  refine PV.blockE ?_
  refine PV.thenN ?_
  refine sr ?_
  refine mv ?_
  refine as_ ?_
  refine dn ?_
  refine CV.ret ?_
  cases h5
  exact PV.ret (by simp) Tryz.results217 hS (RS.tmp rfl RS.nil) rfl
noncomputable def g218 (ih : FuncId → List HT → List AV → HT → Nat → R) (ro : List HT) (a0 : AV) (T : HT) (nx : Nat) : R :=
 bsK 2180005 T nx 1 9 1 [(0, (.lit (.string ⟨⟨[97, 110, 100]⟩⟩)))] fun x6_1 T1 n1 =>
 callK (ih 217 ro [a0, (.fn (.func 232) [a0] []), x6_1] T1 n1) fun x7_2 T2 n2 =>
 .ok (.val x7_2) T2 n2
theorem g218_ok (ih : FuncId → List HT → List AV → HT → Nat → R) (hI : ∀ f ro args T nx, GOk Tryz.prog envE f args ro T nx (ih f ro args T nx)) (ro : List HT) (a0 : AV) (T : HT) (nx : Nat) : GOk Tryz.prog envE 218 [a0] ro T nx (g218 ih ro a0 T nx) := by
 refine GOk.of_body Tryz.func218 rfl Tryz.ntmps218 (by kernel_rfl) rfl fun r T' n' h1 w0 base ρ0 its hS hP => ?_
 have X : CtxW envE ρ0 ro r T' n' := trivial
 unfold g218 at h1
 refine sr ?_
 refine as_ ?_
 refine dn ?_
 refine sr ?_
 refine mv ?_
 refine mv ?_
 refine pu ?_
 refine LV.bslice hS h1 rfl rfl Pdf.el46 rfl rfl rfl rfl fun x6_1 T1 n1 h2 ρ its hS hdr => ?_
 refine LV.call hS h2 (hI _ _ _ _ _) hP rfl rfl rfl rfl fun x7_2 T2 n2 h3 ρ its hS => ?_
 refine as_ ?_
 refine dn ?_
 refine CV.ret ?_
 cases h3
 exact PV.ret (by simp) Tryz.results218 hS (RS.tmp rfl RS.nil) rfl
noncomputable def g232 (ih : FuncId → List HT → List AV → HT → Nat → R) (ro : List HT) (a0 : AV) (T : HT) (nx : Nat) : R :=
 bsK 2320003 T nx 1 9 1 [(0, (.lit (.string ⟨⟨[110, 111, 116]⟩⟩)))] fun x6_1 T1 n1 =>
 callK (g99 ro a0 x6_1 T1 n1) fun x7_2 T2 n2 =>
 notK 2320005 x7_2 fun x8_3 =>
 condK 2320006 x8_3
 (
  callK (ih 237 ro [a0] T2 n2) fun x10_4 T3 n3 =>
  .ok (.val x10_4) T3 n3
 )
 (
  callK (g177 ro a0 (.lit (.string ⟨⟨[110, 111, 116]⟩⟩)) T2 n2) fun x12_5 T4 n4 =>
  callK (g176 ro a0 x12_5 T4 n4) fun x15_6 T5 n5 =>
  callK (ih 232 ro [a0] T5 n5) fun x17_7 T6 n6 =>
  fldK 2320020 T6 ro a0 3 fun x21_8 =>
  subK Tryz.prog 3 (.tmp 21) (.const (.int .i64 (.ofNat 1))) 2320021 x21_8 (.lit (.int .i64 (.ofNat 1))) fun x22_9 =>
  faK 2320022 a0 3 fun x24_10 =>
  stK 2320023 T6 x24_10 x22_9 fun T7 =>
  bsK 2320027 T7 n6 1 3 1 [(0, x17_7)] fun x28_11 T8 n8 =>
  callK (g65 ro a0 (.lit (.int .i64 (.ofNat 17))) x12_5 (.lit (.string ⟨⟨[]⟩⟩)) x28_11 T8 n8) fun x29_12 T9 n9 =>
  .ok (.val x29_12) T9 n9
 )
theorem g232_ok (ih : FuncId → List HT → List AV → HT → Nat → R) (hI : ∀ f ro args T nx, GOk Tryz.prog envE f args ro T nx (ih f ro args T nx)) (ro : List HT) (a0 : AV) (T : HT) (nx : Nat) : GOk Tryz.prog envE 232 [a0] ro T nx (g232 ih ro a0 T nx) := by
 refine GOk.of_body Tryz.func232 rfl Tryz.ntmps232 (by kernel_rfl) rfl fun r T' n' h1 w0 base ρ0 its hS hP => ?_
 have X : CtxW envE ρ0 ro r T' n' := trivial
 unfold g232 at h1
 refine sr ?_
 refine as_ ?_
 refine dn ?_
 refine CV.seq ?_
 refine sr ?_
 refine mv ?_
 refine LV.bslice hS h1 rfl rfl Pdf.el46 rfl rfl rfl rfl fun x6_1 T1 n1 h2 ρ its hS hdr => ?_
 refine LV.call hS h2 (g99_ok _ _ _ _ _ ) hP rfl rfl rfl rfl fun x7_2 T2 n2 h3 ρ its hS => ?_
 refine vy (V.not h3 rfl) fun x8_3 h4 => ?_
 refine dn ?_
 refine CV.cond h4 rfl (fun e h5 => ?_) (fun e h5 => ?_)
 ·
  clear h1 h2 h3 h4
  subst e
  refine sr ?_
  refine mv ?_
  refine LV.call hS h5 (hI _ _ _ _ _) hP rfl rfl rfl rfl fun x10_4 T3 n3 h6 ρ its hS => ?_
  refine as_ ?_
  refine dn ?_
  refine CV.ret ?_
  refine PV.thenR ?_
  cases h6
  exact PV.ret (by simp) Tryz.results232 hS (RS.tmp rfl RS.nil) rfl
 ·
  clear h1 h2 h3 h4
  subst e
  refine CV.skip ?_
  refine PV.thenN ?_
  refine sr ?_
  refine mv ?_
  refine LV.call hS h5 (g177_ok _ _ _ _ _ ) hP rfl rfl rfl rfl fun x12_5 T4 n4 h7 ρ its hS => ?_
  refine as_ ?_
  refine dn ?_
  refine sr ?_
  refine mv ?_
  refine mv ?_
  refine LV.call hS h7 (g176_ok _ _ _ _ _ ) hP rfl rfl rfl rfl fun x15_6 T5 n5 h8 ρ its hS => ?_
  refine dn ?_
  refine sr ?_
  refine mv ?_
  refine LV.call hS h8 (hI _ _ _ _ _) hP rfl rfl rfl rfl fun x17_7 T6 n6 h9 ρ its hS => ?_
  refine as_ ?_
  refine dn ?_
  refine sr ?_
  refine mv ?_
  refine fl hS h9 Pdf.fo98_3 Pdf.one3 fun x21_8 h10 => ?_
  refine vy (V.sub h10 rfl rfl) fun x22_9 h11 => ?_
  refine fa2 h11 Pdf.fo98_3 fun x24_10 h12 => ?_
  refine LV.st hS h12 rfl rfl rfl Pdf.siz3 rfl rfl fun T7 its h13 hS => ?_
  refine dn ?_
  refine sr ?_
  refine mv ?_
  refine mv ?_
  refine mv ?_
  refine LV.bslice hS h13 rfl rfl Pdf.el30 rfl rfl rfl rfl fun x28_11 T8 n8 h14 ρ its hS hdr => ?_
  refine LV.call hS h14 (g65_ok _ _ _ _ _ _ _ _ ) hP rfl rfl rfl rfl fun x29_12 T9 n9 h15 ρ its hS => ?_
  refine as_ ?_
  refine dn ?_
  refine CV.ret ?_
  cases h15
  exact PV.ret (by simp) Tryz.results232 hS (RS.tmp rfl RS.nil) rfl
noncomputable def g235_b1 (ih : FuncId → List HT → List AV → HT → Nat → R) (ro : List HT) (lp1 : AV → AV → AV → HT → Nat → R) (y0 y2 y3 : AV) (T2 : HT) (n2 : Nat) : R :=
 callK (g129 ro y0 T2 n2) fun x10_2 T3 n3 =>
 callK (g131 ro y0 (.lit (.string ⟨⟨[46]⟩⟩)) T3 n3) fun x14_3 T4 n4 =>
 condK 2350012 x14_3
 (
  .bad 2350013
 )
 (
  bsK 2350015 T4 n4 1 9 1 [(0, (.lit (.string ⟨⟨[40]⟩⟩)))] fun x28_4 T5 n5 =>
  callK (g99 ro y0 x28_4 T5 n5) fun x29_5 T6 n6 =>
  condK 2350018 x29_5
  (
   .bad 2350019
  )
  (
   bsK 2350021 T6 n6 1 9 1 [(0, (.lit (.string ⟨⟨[91]⟩⟩)))] fun x35_6 T7 n7 =>
   callK (g99 ro y0 x35_6 T7 n7) fun x36_7 T8 n8 =>
   condK 2350024 x36_7
   (
    .bad 2350025
   )
   (
    .ok (.val y3) T8 n8
   )
  )
 )
noncomputable def g235 (ih : FuncId → List HT → List AV → HT → Nat → R) (ro : List HT) (a0 : AV) (T : HT) (nx : Nat) : R :=
 callK (ih 238 ro [a0] T nx) fun x8_1 T1 n1 =>
 lpf3 2350005 (g235_b1 ih ro) 100000 a0 (.lit (.int .i64 (.ofNat 0))) x8_1 T1 n1
theorem g235_ok (ih : FuncId → List HT → List AV → HT → Nat → R) (hI : ∀ f ro args T nx, GOk Tryz.prog envE f args ro T nx (ih f ro args T nx)) (ro : List HT) (a0 : AV) (T : HT) (nx : Nat) : GOk Tryz.prog envE 235 [a0] ro T nx (g235 ih ro a0 T nx) := by
 refine GOk.of_body Tryz.func235 rfl Tryz.ntmps235 (by kernel_rfl) rfl fun r T' n' h1 w0 base ρ0 its hS hP => ?_
 have X : CtxW envE ρ0 ro r T' n' := trivial
 unfold g235 at h1
 refine sr ?_
 refine as_ ?_
 refine dn ?_
 refine sr ?_
 refine mv ?_
 refine LV.call hS h1 (hI _ _ _ _ _) hP rfl rfl rfl rfl fun x8_1 T1 n1 h2 ρ its hS => ?_
 refine as_ ?_
 refine dn ?_
 refine CV.block ?_
 refine cl3 X 0 2 3 [] hS h2 ⟨rfl, rfl, rfl, trivial⟩ ?_
 intro f1 y0 y2 y3 T2 n2 ρ its hS h3
 unfold g235_b1 at h3
 clear h1 h2
 refine CV.block ?_
 refine sr ?_
 refine mv ?_
 refine LV.call hS h3 (g129_ok _ _ _ _ ) hP rfl rfl rfl rfl fun x10_2 T3 n3 h4 ρ its hS => ?_
 refine as_ ?_
 refine dn ?_
 refine CV.block ?_
 refine sr ?_
 refine mv ?_
 refine LV.call hS h4 (g131_ok _ _ _ _ _ ) hP rfl rfl rfl rfl fun x14_3 T4 n4 h5 ρ its hS => ?_
 refine as_ ?_
 refine dn ?_
 refine CV.cond h5 rfl (fun e h6 => ?_) (fun e h6 => ?_)
 ·
  clear h3 h4 h5
  subst e
  cases h6
 ·
  clear h3 h4 h5
  subst e
  refine sr ?_
  refine mv ?_
  refine LV.bslice hS h6 rfl rfl Pdf.el46 rfl rfl rfl rfl fun x28_4 T5 n5 h7 ρ its hS hdr => ?_
  refine LV.call hS h7 (g99_ok _ _ _ _ _ ) hP rfl rfl rfl rfl fun x29_5 T6 n6 h8 ρ its hS => ?_
  refine as_ ?_
  refine dn ?_
  refine CV.cond h8 rfl (fun e h9 => ?_) (fun e h9 => ?_)
  ·
   clear h6 h7 h8
   subst e
   cases h9
  ·
   clear h6 h7 h8
   subst e
   refine sr ?_
   refine mv ?_
   refine LV.bslice hS h9 rfl rfl Pdf.el46 rfl rfl rfl rfl fun x35_6 T7 n7 h10 ρ its hS hdr => ?_
   refine LV.call hS h10 (g99_ok _ _ _ _ _ ) hP rfl rfl rfl rfl fun x36_7 T8 n8 h11 ρ its hS => ?_
   refine as_ ?_
   refine dn ?_
   refine CV.cond h11 rfl (fun e h12 => ?_) (fun e h12 => ?_)
   ·
    clear h9 h10 h11
    subst e
    cases h12
   ·
    clear h9 h10 h11
    subst e
    refine sr ?_
    refine mv ?_
    refine as_ ?_
    refine dn ?_
    refine CV.ret ?_
    refine PV.blockR ?_
    refine PV.blockR ?_
    refine PV.thenR ?_
    refine PV.blockR ?_
    cases h12
    exact PV.ret (by simp) Tryz.results235 hS (RS.tmp rfl RS.nil) rfl
noncomputable def g237 (ih : FuncId → List HT → List AV → HT → Nat → R) (ro : List HT) (a0 : AV) (T : HT) (nx : Nat) : R :=
 callK (ih 241 ro [a0] T nx) fun x7_1 T1 n1 =>
 callK (g129 ro a0 T1 n1) fun x9_2 T2 n2 =>
 bsK 2370009 T2 n2 1 9 1 [(0, (.lit (.string ⟨⟨[110, 111, 116]⟩⟩)))] fun x12_3 T3 n3 =>
 callK (g99 ro a0 x12_3 T3 n3) fun x13_4 T4 n4 =>
 condK 2370012 x13_4
 (
  .bad 2370013
 )
 (
  bsK 2370015 T4 n4 7 9 1 [(0, (.lit (.string ⟨⟨[61, 61]⟩⟩))), (1, (.lit (.string ⟨⟨[33, 61]⟩⟩))), (2, (.lit (.string ⟨⟨[60]⟩⟩))), (3, (.lit (.string ⟨⟨[60, 61]⟩⟩))), (4, (.lit (.string ⟨⟨[62]⟩⟩))), (5, (.lit (.string ⟨⟨[62, 61]⟩⟩))), (6, (.lit (.string ⟨⟨[105, 110]⟩⟩)))] fun x32_5 T5 n5 =>
  callK (g99 ro a0 x32_5 T5 n5) fun x33_6 T6 n6 =>
  condK 2370018 x33_6
  (
   .bad 2370019
  )
  (
   .ok (.val x7_1) T6 n6
  )
 )
theorem g237_ok (ih : FuncId → List HT → List AV → HT → Nat → R) (hI : ∀ f ro args T nx, GOk Tryz.prog envE f args ro T nx (ih f ro args T nx)) (ro : List HT) (a0 : AV) (T : HT) (nx : Nat) : GOk Tryz.prog envE 237 [a0] ro T nx (g237 ih ro a0 T nx) := by
 refine GOk.of_body Tryz.func237 rfl Tryz.ntmps237 (by kernel_rfl) rfl fun r T' n' h1 w0 base ρ0 its hS hP => ?_
 have X : CtxW envE ρ0 ro r T' n' := trivial
 unfold g237 at h1
 refine sr ?_
 refine as_ ?_
 refine dn ?_
 refine sr ?_
 refine mv ?_
 refine LV.call hS h1 (hI _ _ _ _ _) hP rfl rfl rfl rfl fun x7_1 T1 n1 h2 ρ its hS => ?_
 refine as_ ?_
 refine dn ?_
 refine sr ?_
 refine mv ?_
 refine LV.call hS h2 (g129_ok _ _ _ _ ) hP rfl rfl rfl rfl fun x9_2 T2 n2 h3 ρ its hS => ?_
 refine as_ ?_
 refine dn ?_
 refine CV.seq ?_
 refine CV.block ?_
 refine sr ?_
 refine mv ?_
 refine LV.bslice hS h3 rfl rfl Pdf.el46 rfl rfl rfl rfl fun x12_3 T3 n3 h4 ρ its hS hdr => ?_
 refine LV.call hS h4 (g99_ok _ _ _ _ _ ) hP rfl rfl rfl rfl fun x13_4 T4 n4 h5 ρ its hS => ?_
 refine as_ ?_
 refine dn ?_
 refine CV.cond h5 rfl (fun e h6 => ?_) (fun e h6 => ?_)
 ·
  clear h1 h2 h3 h4 h5
  subst e
  cases h6
 ·
  clear h1 h2 h3 h4 h5
  subst e
  refine sr ?_
  refine mv ?_
  refine LV.bslice hS h6 rfl rfl Pdf.el46 rfl rfl rfl rfl fun x32_5 T5 n5 h7 ρ its hS hdr => ?_
  refine LV.call hS h7 (g99_ok _ _ _ _ _ ) hP rfl rfl rfl rfl fun x33_6 T6 n6 h8 ρ its hS => ?_
  refine as_ ?_
  refine dn ?_
  refine CV.cond h8 rfl (fun e h9 => ?_) (fun e h9 => ?_)
  ·
   clear h6 h7 h8
   subst e
   cases h9
  ·
   clear h6 h7 h8
   subst e
   refine CV.skip ?_
   refine PV.blockN ?_
   refine PV.thenN ?_
   refine sr ?_
   refine mv ?_
   refine as_ ?_
   refine dn ?_
   refine CV.ret ?_
   cases h9
   exact PV.ret (by simp) Tryz.results237 hS (RS.tmp rfl RS.nil) rfl

end Go.Proofs.YtdepmlcnllofiaaGreatDoor.Pd
