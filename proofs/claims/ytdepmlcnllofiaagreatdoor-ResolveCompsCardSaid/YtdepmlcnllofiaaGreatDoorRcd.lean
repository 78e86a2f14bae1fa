/-
  Proved here: plain functions that do what the program's functions do, each with its proof.
-/
import Derived.Test.YtdepmlcnllofiaaGreatDoorRcc
namespace Go.Proofs.YtdepmlcnllofiaaGreatDoor.Rc
open Go.EY Go.EX Go.SX Go.RowKit
noncomputable def g11 (ro : List HT) (a0 : AV) (T : HT) (nx : Nat) : R :=
 callK (g33 ro a0 (.lit (.func (.func 34) #[] #[])) T nx) fun x5_1 T1 n1 =>
 exK 110005 x5_1 0 fun x6_2 =>
 exK 110006 x5_1 1 fun x7_3 =>
 .ok (.val (.tup [x6_2, x7_3])) T1 n1
theorem g11_ok (ro : List HT) (a0 : AV) (T : HT) (nx : Nat) : GOk Tryz.prog envE 11 [a0] ro T nx (g11 ro a0 T nx) := by
 refine GOk.of_body Tryz.func11 rfl Tryz.ntmps11 (by kernel_rfl) rfl fun r T' n' h1 w0 base ρ0 its hS hP => ?_
 have X : CtxW envE ρ0 ro r T' n' := trivial
 unfold g11 at h1
 refine sr ?_
 refine as_ ?_
 refine as_ ?_
 refine dn ?_
 refine sr ?_
 refine mv ?_
 refine LV.call hS h1 (g33_ok _ _ _ _ _ ) hP rfl rfl rfl rfl fun x5_1 T1 n1 h2 ρ its hS => ?_
 refine vy (V.ex h2 rfl) fun x6_2 h3 => ?_
 refine vy (V.ex h3 rfl) fun x7_3 h4 => ?_
 refine as_ ?_
 refine as_ ?_
 refine dn ?_
 refine CV.ret ?_
 cases h4
 exact PV.ret (by simp) Tryz.results11 hS (RS.tmp rfl (RS.tmp rfl RS.nil)) rfl
noncomputable def g17 (ro : List HT) (a0 a1 : AV) (T : HT) (nx : Nat) : R :=
 newK T nx (.obj [.lit (.int .i64 0), .lit (.bool false), .lit (.int .i64 0), .lit (.bool false), .lit (.string ⟨#[]⟩)] 36) fun x4_1 T1 n1 =>
 eqK Tryz.prog 3 (.tmp 5) (.const (.int .i64 (.ofNat 0))) 170003 a0 (.lit (.int .i64 (.ofNat 0))) fun x6_2 =>
 condK 170004 x6_2
 (
  .bad 170005
 )
 (
  optK 170008 (bld36 [(0, a0), (1, (.lit (.bool true))), (2, a1)]) fun x10_3 =>
  stAK 170009 T1 x4_1 x10_3 5 fun T2 =>
  ldAK 170010 T2 ro x4_1 5 fun x4_4 =>
  .ok (.val x4_4) T2 n1
 )
theorem g17_ok (ro : List HT) (a0 a1 : AV) (T : HT) (nx : Nat) : GOk Tryz.prog envE 17 [a0, a1] ro T nx (g17 ro a0 a1 T nx) := by
 refine GOk.of_body Tryz.func17 rfl Tryz.ntmps17 (by kernel_rfl) rfl fun r T' n' h1 w0 base ρ0 its hS hP => ?_
 have X : CtxW envE ρ0 ro r T' n' := trivial
 unfold g17 at h1
 refine sr ?_
 refine LV.alloc hS h1 rfl Rcf.zr36 rfl rfl rfl fun x4_1 T1 n1 h2 ρ its hS hdr => ?_
 refine dn ?_
 refine CV.seq ?_
 refine sr ?_
 refine mv ?_
 refine vy (V.eq h2 rfl rfl) fun x6_2 h3 => ?_
 refine dn ?_
 refine CV.cond h3 rfl (fun e h4 => ?_) (fun e h4 => ?_)
 ·
  clear h1 h2 h3
  subst e
  cases h4
 ·
  clear h1 h2 h3
  subst e
  refine CV.skip ?_
  refine PV.thenN ?_
  refine sr ?_
  refine mv ?_
  refine mv ?_
  refine vy (V.bld h4 rfl) fun x10_3 h5 => ?_
  refine LV.stA hS h5 rfl rfl rfl Rcf.agg36 rfl rfl rfl fun T2 its h6 hS => ?_
  refine dn ?_
  refine CV.ret ?_
  refine PV.ldA (x := .tmp 4) (t := 36) hS h6 rfl Rcf.agg36 fun x4_4 h7 hVx4_4 => ?_
  cases h7
  exact PV.ret (by simp) Tryz.results17 hS (RS.cell hVx4_4 RS.nil) rfl
noncomputable def g119 (ro : List HT) (T : HT) (nx : Nat) : R :=
 bsK 1190019 T nx 17 25 1 [(0, (.iface 253 (.opq 0))), (1, (.iface 253 (.opq 1))), (2, (.iface 253 (.opq 2))), (3, (.iface 253 (.opq 3))), (4, (.iface 253 (.opq 4))), (5, (.iface 253 (.opq 5))), (6, (.iface 253 (.opq 6))), (7, (.iface 253 (.opq 7))), (8, (.iface 253 (.opq 8))), (9, (.iface 253 (.opq 9))), (10, (.iface 253 (.opq 10))), (11, (.iface 253 (.opq 11))), (12, (.iface 253 (.opq 12))), (13, (.iface 253 (.opq 13))), (14, (.iface 253 (.opq 14))), (15, (.iface 253 (.opq 15))), (16, (.iface 253 (.opq 16)))] fun x18_1 T1 n1 =>
 .ok (.val x18_1) T1 n1
theorem g119_ok (ro : List HT) (T : HT) (nx : Nat) : GOk Tryz.prog envE 119 [] ro T nx (g119 ro T nx) := by
 refine GOk.of_body Tryz.func119 rfl Tryz.ntmps119 (by kernel_rfl) rfl fun r T' n' h1 w0 base ρ0 its hS hP => ?_
 have X : CtxW envE ρ0 ro r T' n' := trivial
 unfold g119 at h1
 refine sr ?_
 refine as_ ?_
 refine dn ?_
 refine sr ?_
 refine sv (VAL.ldG hS (by rfl) Rcf.one25) ?_
 refine sv (VAL.ldG hS (by rfl) Rcf.one25) ?_
 refine sv (VAL.ldG hS (by rfl) Rcf.one25) ?_
 refine sv (VAL.ldG hS (by rfl) Rcf.one25) ?_
 refine sv (VAL.ldG hS (by rfl) Rcf.one25) ?_
 refine sv (VAL.ldG hS (by rfl) Rcf.one25) ?_
 refine sv (VAL.ldG hS (by rfl) Rcf.one25) ?_
 refine sv (VAL.ldG hS (by rfl) Rcf.one25) ?_
 refine sv (VAL.ldG hS (by rfl) Rcf.one25) ?_
 refine sv (VAL.ldG hS (by rfl) Rcf.one25) ?_
 refine sv (VAL.ldG hS (by rfl) Rcf.one25) ?_
 refine sv (VAL.ldG hS (by rfl) Rcf.one25) ?_
 refine sv (VAL.ldG hS (by rfl) Rcf.one25) ?_
 refine sv (VAL.ldG hS (by rfl) Rcf.one25) ?_
 refine sv (VAL.ldG hS (by rfl) Rcf.one25) ?_
 refine sv (VAL.ldG hS (by rfl) Rcf.one25) ?_
 refine sv (VAL.ldG hS (by rfl) Rcf.one25) ?_
 refine LV.bslice hS h1 rfl rfl Rcf.el179 rfl rfl rfl rfl fun x18_1 T1 n1 h2 ρ its hS hdr => ?_
 refine as_ ?_
 refine dn ?_
 refine CV.ret ?_
 cases h2
 exact PV.ret (by simp) Tryz.results119 hS (RS.tmp rfl RS.nil) rfl
noncomputable def g120_k1 (ro : List HT) (y0 y1 y10 : AV) (T1 : HT) (n1 : Nat) : R :=
 condK 1200005 y10
 (
  .bad 1200006
 )
 (
  eeK Tryz.prog 253 25 (.tmp 17) (.tmp 18) 1200009 y0 y1 fun x19_2 =>
  .ok (.val x19_2) T1 n1
 )
noncomputable def g120 (ro : List HT) (a0 a1 : AV) (T : HT) (nx : Nat) : R :=
 bin0 Tryz.prog .eql 25 (.tmp 5) (.const (.nilIface)) 1200003 a0 (.lit (.nilIface)) fun x6_1 =>
 condK 1200011 x6_1
 (
  g120_k1 ro a0 a1 (.lit (.bool true)) T nx
 )
 (
  bin0 Tryz.prog .eql 25 (.tmp 8) (.const (.nilIface)) 1200014 a1 (.lit (.nilIface)) fun x9_3 =>
  g120_k1 ro a0 a1 x9_3 T nx
 )
theorem g120_ok (ro : List HT) (a0 a1 : AV) (T : HT) (nx : Nat) : GOk Tryz.prog envE 120 [a0, a1] ro T nx (g120 ro a0 a1 T nx) := by
 refine GOk.of_body Tryz.func120 rfl Tryz.ntmps120 (by kernel_rfl) rfl fun r T' n' h1 w0 base ρ0 its hS hP => ?_
 have X : CtxW envE ρ0 ro r T' n' := trivial
 unfold g120 at h1
 refine sr ?_
 refine as_ ?_
 refine dn ?_
 refine CV.seq ?_
 refine sr ?_
 refine mv ?_
 refine vy (V.bin0 h1 rfl rfl) fun x6_1 h2 => ?_
 refine mv ?_
 refine ls3 X 0 1 10 [(4, (.lit (.bool false)))] (g120_k1 ro) 3 ?_ ?_
 ·
  rcases condK_inv h2 with ⟨e, h6⟩ | ⟨e, h6⟩
  ·
   clear h1 h2
   subst e
   refine sk ?_
   refine sk ?_
   refine pu ?_
   exact la3 hS h6 ⟨rfl, rfl, rfl, rfl, trivial⟩
  ·
   clear h1 h2
   subst e
   refine mv ?_
   refine vy (V.bin0 h6 rfl rfl) fun x9_3 h7 => ?_
   refine pu ?_
   exact la3 hS h7 ⟨rfl, rfl, rfl, rfl, trivial⟩
 ·
  intro y0 y1 y10 T1 n1 ρ its hS h3
  unfold g120_k1 at h3
  clear h1 h2
  refine dn ?_
  refine CV.cond h3 rfl (fun e h4 => ?_) (fun e h4 => ?_)
  ·
   clear h3
   subst e
   cases h4
  ·
   clear h3
   subst e
   refine CV.skip ?_
   refine PV.thenN ?_
   refine sr ?_
   refine mv ?_
   refine mv ?_
   refine vy (V.ee hS h4 rfl rfl Rcf.ii25 Rcf.cp253) fun x19_2 h5 => ?_
   refine as_ ?_
   refine dn ?_
   refine CV.ret ?_
   cases h5
   exact PV.ret (by simp) Tryz.results120 hS (RS.tmp rfl RS.nil) rfl
noncomputable def g73_b1 (ro : List HT) (lp1 : AV → AV → AV → AV → HT → Nat → R) (y0 y2 y3 y4 : AV) (T2 : HT) (n2 : Nat) : R :=
 lenSK 730008 y3 fun x8_2 =>
 ltK Tryz.prog 3 (.tmp 6) (.tmp 8) 730009 y4 x8_2 fun x9_3 =>
 condK 730010 x9_3
 (
  iaK 730014 y3 y4 1 fun x15_4 =>
  ldK 730015 T2 ro x15_4 fun x16_5 =>
  callK (g120 ro y0 x16_5 T2 n2) fun x17_6 T3 n3 =>
  condK 730017 x17_6
  (
   addK Tryz.prog 3 (.const (.int .i64 (.ofNat 101))) (.tmp 18) 730019 (.lit (.int .i64 (.ofNat 101))) y4 fun x19_7 =>
   .ok (.val x19_7) T3 n3
  )
  (
   addK Tryz.prog 3 (.tmp 10) (.const (.int .i64 (.ofNat 1))) 730022 y4 (.lit (.int .i64 (.ofNat 1))) fun x11_8 =>
   lp1 y0 y2 y3 x11_8 T3 n3
  )
 )
 (
  .ok (.val (.lit (.int .i64 (.negSucc 0)))) T2 n2
 )
noncomputable def g73 (ro : List HT) (a0 : AV) (T : HT) (nx : Nat) : R :=
 callK (g119 ro T nx) fun x5_1 T1 n1 =>
 lpf4 730005 (g73_b1 ro) 100000 a0 (.lit (.int .i64 (.ofNat 0))) x5_1 (.lit (.int .i64 (.ofNat 0))) T1 n1
theorem g73_ok (ro : List HT) (a0 : AV) (T : HT) (nx : Nat) : GOk Tryz.prog envE 73 [a0] ro T nx (g73 ro a0 T nx) := by
 refine GOk.of_body Tryz.func73 rfl Tryz.ntmps73 (by kernel_rfl) rfl fun r T' n' h1 w0 base ρ0 its hS hP => ?_
 have X : CtxW envE ρ0 ro r T' n' := trivial
 unfold g73 at h1
 refine sr ?_
 refine as_ ?_
 refine dn ?_
 refine sr ?_
 refine LV.call hS h1 (g119_ok _ _ _ ) hP rfl rfl rfl rfl fun x5_1 T1 n1 h2 ρ its hS => ?_
 refine as_ ?_
 refine dn ?_
 refine CV.seq ?_
 refine sr ?_
 refine as_ ?_
 refine dn ?_
 refine CV.block ?_
 refine cl4 X 0 2 3 4 [] hS h2 ⟨rfl, rfl, rfl, rfl, trivial⟩ ?_
 intro f1 y0 y2 y3 y4 T2 n2 ρ its hS h3
 unfold g73_b1 at h3
 clear h1 h2
 refine CV.seq ?_
 refine sr ?_
 refine mv ?_
 refine mv ?_
 refine vy (V.lenS h3 rfl Rcf.ls179) fun x8_2 h4 => ?_
 refine vy (V.lt h4 rfl rfl) fun x9_3 h5 => ?_
 refine dn ?_
 refine CV.cond h5 rfl (fun e h6 => ?_) (fun e h6 => ?_)
 ·
  clear h3 h4 h5
  subst e
  refine CV.skip ?_
  refine PV.thenN ?_
  refine CV.seq ?_
  refine CV.block ?_
  refine sr ?_
  refine mv ?_
  refine mv ?_
  refine mv ?_
  refine vy (V.ia h6 rfl rfl Rcf.el179) fun x15_4 h7 => ?_
  refine vy (V.ld hS h7 rfl Rcf.one25) fun x16_5 h8 => ?_
  refine LV.call hS h8 (g120_ok _ _ _ _ _ ) hP rfl rfl rfl rfl fun x17_6 T3 n3 h9 ρ its hS => ?_
  refine dn ?_
  refine CV.cond h9 rfl (fun e h10 => ?_) (fun e h10 => ?_)
  ·
   clear h6 h7 h8 h9
   subst e
   refine sr ?_
   refine mv ?_
   refine vy (V.add h10 rfl rfl) fun x19_7 h11 => ?_
   refine as_ ?_
   refine dn ?_
   refine CV.ret ?_
   refine PV.blockR ?_
   refine PV.thenR ?_
   refine PV.thenR ?_
   refine PV.blockR ?_
   refine PV.thenR ?_
   cases h11
   exact PV.ret (by simp) Tryz.results73 hS (RS.tmp rfl RS.nil) rfl
  ·
   clear h6 h7 h8 h9
   subst e
   refine CV.skip ?_
   refine PV.blockN ?_
   refine PV.thenN ?_
   refine CV.region ?_
   refine mv ?_
   refine vy (V.add h10 rfl rfl) fun x11_8 h12 => ?_
   refine as_ ?_
   refine LV.done ?_
   exact pb4 hS h12 ⟨rfl, rfl, rfl, rfl, trivial⟩
 ·
  clear h3 h4 h5
  subst e
  refine CV.exit ?_
  refine PV.thenE ?_
  refine PV.thenE ?_
  refine PV.blockE ?_
  refine PV.thenN ?_
  refine sr ?_
  refine as_ ?_
  refine dn ?_
  refine CV.ret ?_
  cases h6
  exact PV.ret (by simp) Tryz.results73 hS (RS.tmp rfl RS.nil) rfl
noncomputable def g43_k1 (ro : List HT) (y2 y3 y23 : AV) (T2 : HT) (n2 : Nat) : R :=
 condK 430016 y23
 (
  .bad 430017
 )
 (
  ncK 430019 y3 fun x26_7 =>
  faK 430020 x26_7 1 fun x27_8 =>
  ldQK 430021 T2 ro [y3] x27_8 fun x28_9 =>
  ncK 430023 y3 fun x31_10 =>
  faK 430024 x31_10 0 fun x32_11 =>
  ldQK 430025 T2 ro [y3] x32_11 fun x33_12 =>
  callK (g73 ro x28_9 T2 n2) fun x29_13 T3 n3 =>
  keepK 430027 T2 T3 [y3] <|
  callK (g17 ro x29_13 x33_12 T3 n3) fun x34_14 T4 n4 =>
  stAK 430029 T4 y2 x34_14 5 fun T5 =>
  ldAK 430030 T5 ro y2 5 fun x2_15 =>
  .ok (.val x2_15) T5 n4
 )
noncomputable def g43 (ro : List HT) (a0 : AV) (T : HT) (nx : Nat) : R :=
 newK T nx (.obj [.lit (.int .i64 0), .lit (.bool false), .lit (.int .i64 0), .lit (.bool false), .lit (.string ⟨#[]⟩)] 36) fun x2_1 T1 n1 =>
 asK 430003 a0 72 (.tup [.lit (.pointer none), .lit (.bool false)]) fun x7_2 =>
 exK 430005 x7_2 0 fun x8_3 =>
 exK 430006 x7_2 1 fun x9_4 =>
 notK 430010 x9_4 fun x11_5 =>
 condK 430011 x11_5
 (
  .bad 430012
 )
 (
  bin0 Tryz.prog .eql 72 (.tmp 15) (.const (.pointer none)) 430014 x8_3 (.lit (.pointer none)) fun x16_6 =>
  condK 430031 x16_6
  (
   g43_k1 ro x2_1 x8_3 (.lit (.bool true)) T1 n1
  )
  (
   ncK 430034 x8_3 fun x19_16 =>
   faK 430035 x19_16 1 fun x20_17 =>
   ldK 430036 T1 ro x20_17 fun x21_18 =>
   bin0 Tryz.prog .eql 25 (.tmp 21) (.const (.nilIface)) 430037 x21_18 (.lit (.nilIface)) fun x22_19 =>
   g43_k1 ro x2_1 x8_3 x22_19 T1 n1
  )
 )
theorem g43_ok (ro : List HT) (a0 : AV) (T : HT) (nx : Nat) : GOk Tryz.prog envE 43 [a0] ro T nx (g43 ro a0 T nx) := by
 refine GOk.of_body Tryz.func43 rfl Tryz.ntmps43 (by kernel_rfl) rfl fun r T' n' h1 w0 base ρ0 its hS hP => ?_
 have X : CtxW envE ρ0 ro r T' n' := trivial
 unfold g43 at h1
 refine sr ?_
 refine LV.alloc hS h1 rfl Rcf.zr36 rfl rfl rfl fun x2_1 T1 n1 h2 ρ its hS hdr => ?_
 refine dn ?_
 refine sr ?_
 refine mv ?_
 refine vy (V.as h2 rfl Rcf.ni72 Rcf.za72) fun x7_2 h3 => ?_
 refine mv ?_
 refine vy (V.ex h3 rfl) fun x8_3 h4 => ?_
 refine vy (V.ex h4 rfl) fun x9_4 h5 => ?_
 refine as_ ?_
 refine as_ ?_
 refine dn ?_
 refine CV.seq ?_
 refine sr ?_
 refine mv ?_
 refine vy (V.not h5 rfl) fun x11_5 h6 => ?_
 refine dn ?_
 refine CV.cond h6 rfl (fun e h7 => ?_) (fun e h7 => ?_)
 ·
  clear h1 h2 h3 h4 h5 h6
  subst e
  cases h7
 ·
  clear h1 h2 h3 h4 h5 h6
  subst e
  refine CV.skip ?_
  refine PV.thenN ?_
  refine CV.seq ?_
  refine sr ?_
  refine mv ?_
  refine vy (V.bin0 h7 rfl rfl) fun x16_6 h8 => ?_
  refine mv ?_
  refine ls3 X 2 3 23 [] (g43_k1 ro) 6 ?_ ?_
  ·
   rcases condK_inv h8 with ⟨e, h22⟩ | ⟨e, h22⟩
   ·
    clear h7 h8
    subst e
    refine sk ?_
    refine sk ?_
    refine sk ?_
    refine sk ?_
    refine sk ?_
    refine pu ?_
    exact la3 hS h22 ⟨rfl, rfl, rfl, trivial⟩
   ·
    clear h7 h8
    subst e
    refine mv ?_
    refine vy (V.nc h22 rfl) fun x19_16 h23 => ?_
    refine vy (V.fa h23 rfl Rcf.fo74_1) fun x20_17 h24 => ?_
    refine vy (V.ld hS h24 rfl Rcf.one25) fun x21_18 h25 => ?_
    refine vy (V.bin0 h25 rfl rfl) fun x22_19 h26 => ?_
    refine pu ?_
    exact la3 hS h26 ⟨rfl, rfl, rfl, trivial⟩
  ·
   intro y2 y3 y23 T2 n2 ρ its hS h9
   unfold g43_k1 at h9
   clear h7 h8
   refine dn ?_
   refine CV.cond h9 rfl (fun e h10 => ?_) (fun e h10 => ?_)
   ·
    clear h9
    subst e
    cases h10
   ·
    clear h9
    subst e
    refine CV.skip ?_
    refine PV.thenN ?_
    refine CV.seq ?_
    refine CV.regionMS hS [y3] [(0, .anywhere), (1, .anywhere), (2, .anywhere), (3, .held), (5, .anywhere), (6, .anywhere), (7, .anywhere), (8, .held), (4, .alone), (9, .alone), (10, .alone)] rfl (fun c a a' w hd hq => PanicOk.root (P := Tryz.prog) (fn := Tryz.f43) (w0 := w0) (base := base) (E := envE) (ro := ro) (r := r) (T' := T') (n' := n') (ρ0 := ρ0) c a a' w hd hq) (by kernel_rfl) ?_
    have hK := KeepS.start [y3] hS
    have hR := hS
    have hP0 := hP
    replace hP := PK.up hR hP
    replace hS := hR.root
    refine MV.step0 (i := 0) rfl (VAL.move rfl) rfl rfl rfl ?_
    refine MV.lift0 (i := 1) rfl (V.nc h10 rfl) rfl rfl rfl fun x26_7 h11 => ?_
    refine MV.lift0 (i := 2) rfl (V.fa h11 rfl Rcf.fo74_1) rfl rfl rfl fun x27_8 h12 => ?_
    refine MV.lift1 (i := 3) rfl hK (V.ldQ hS h12 rfl Rcf.one25) rfl rfl rfl [] (by kernel_rfl) fun x28_9 h13 => ?_
    refine MV.step0 (i := 5) rfl (VAL.move rfl) rfl rfl rfl ?_
    refine MV.lift0 (i := 6) rfl (V.nc h13 rfl) rfl rfl rfl fun x31_10 h14 => ?_
    refine MV.lift0 (i := 7) rfl (V.fa h14 rfl Rcf.fo74_0) rfl rfl rfl fun x32_11 h15 => ?_
    refine MV.lift1 (i := 8) rfl hK (V.ldQ hS h15 rfl Rcf.one3) rfl rfl rfl [3] (by kernel_rfl) fun x33_12 h16 => ?_
    refine MV.force (i := 4) rfl ?_
    refine LV.call hS h16 (g73_ok _ _ _ _ ) hP rfl rfl rfl rfl fun x29_13 T3 n3 h17 ρ its hS => ?_
    obtain ⟨hK, h18⟩ := KeepS.step hR hS h17
    refine LV.nextM [8] (by kernel_rfl) (fun _ => hK) ?_
    refine MV.force (i := 9) rfl ?_
    refine LV.call hS h18 (g17_ok _ _ _ _ _ ) hP rfl rfl rfl rfl fun x34_14 T4 n4 h19 ρ its hS => ?_
    refine LV.nextM [] (by kernel_rfl) (fun z => absurd rfl z) ?_
    refine MV.force (i := 10) rfl ?_
    refine LV.stA hS h19 rfl rfl rfl Rcf.agg36 rfl rfl rfl fun T5 its h20 hS => ?_
    refine LV.nextM [] (by kernel_rfl) (fun z => absurd rfl z) ?_
    replace hS := hR.up hS
    replace hP := hP0
    refine mdn ?_
    refine CV.ret ?_
    refine PV.ldA (x := .tmp 2) (t := 36) hS h20 rfl Rcf.agg36 fun x2_15 h21 hVx2_15 => ?_
    cases h21
    exact PV.ret (by simp) Tryz.results43 hS (RS.cell hVx2_15 RS.nil) rfl
noncomputable def g15_k1 (ro : List HT) (y2 y3 y26 : AV) (T4 : HT) (n4 : Nat) : R :=
 condK 150023 y26
 (
  .bad 150024
 )
 (
  fldK 150026 T4 ro y3 1 fun x31_10 =>
  callK (g43 ro x31_10 T4 n4) fun x32_11 T5 n5 =>
  newK T5 n5 (.obj [.lit (.int .i64 0), .lit (.bool false), .lit (.int .i64 0), .lit (.bool false), .lit (.string ⟨#[]⟩)] 36) fun x5_12 T6 n6 =>
  stAK 150029 T6 x5_12 x32_11 5 fun T7 =>
  faK 150030 x5_12 0 fun x33_13 =>
  ldK 150031 T7 ro x33_13 fun x34_14 =>
  faK 150032 x5_12 1 fun x35_15 =>
  ldK 150033 T7 ro x35_15 fun x36_16 =>
  faK 150034 x5_12 2 fun x37_17 =>
  ldK 150035 T7 ro x37_17 fun x38_18 =>
  ncK 150037 y3 fun x40_19 =>
  faK 150038 x40_19 0 fun x41_20 =>
  ldK 150039 T7 ro x41_20 fun x42_21 =>
  optK 150040 (bld36 [(0, x34_14), (1, x36_16), (2, x38_18), (3, (.lit (.bool true))), (4, x42_21)]) fun x43_22 =>
  stAK 150041 T7 y2 x43_22 5 fun T8 =>
  ldAK 150042 T8 ro y2 5 fun x2_23 =>
  .ok (.val x2_23) T8 n6
 )
noncomputable def g15 (ro : List HT) (a0 : AV) (T : HT) (nx : Nat) : R :=
 newK T nx (.obj [.lit (.int .i64 0), .lit (.bool false), .lit (.int .i64 0), .lit (.bool false), .lit (.string ⟨#[]⟩)] 36) fun x2_1 T1 n1 =>
 bin0 Tryz.prog .eql 25 (.tmp 6) (.const (.nilIface)) 150003 a0 (.lit (.nilIface)) fun x7_2 =>
 condK 150004 x7_2
 (
  .bad 150005
 )
 (
  asK 150007 a0 80 (.tup [.lit (.pointer none), .lit (.bool false)]) fun x11_3 =>
  exK 150009 x11_3 0 fun x12_4 =>
  exK 150010 x11_3 1 fun x13_5 =>
  notK 150014 x13_5 fun x15_6 =>
  condK 150015 x15_6
  (
   callK (g43 ro a0 T1 n1) fun x17_7 T2 n2 =>
   stAK 150018 T2 x2_1 x17_7 5 fun T3 =>
   ldAK 150019 T3 ro x2_1 5 fun x2_8 =>
   .ok (.val x2_8) T3 n2
  )
  (
   bin0 Tryz.prog .eql 80 (.tmp 18) (.const (.pointer none)) 150021 x12_4 (.lit (.pointer none)) fun x19_9 =>
   condK 150043 x19_9
   (
    g15_k1 ro x2_1 x12_4 (.lit (.bool true)) T1 n1
   )
   (
    ncK 150046 x12_4 fun x22_24 =>
    faK 150047 x22_24 1 fun x23_25 =>
    ldK 150048 T1 ro x23_25 fun x24_26 =>
    bin0 Tryz.prog .eql 25 (.tmp 24) (.const (.nilIface)) 150049 x24_26 (.lit (.nilIface)) fun x25_27 =>
    g15_k1 ro x2_1 x12_4 x25_27 T1 n1
   )
  )
 )
theorem g15_ok (ro : List HT) (a0 : AV) (T : HT) (nx : Nat) : GOk Tryz.prog envE 15 [a0] ro T nx (g15 ro a0 T nx) := by
 refine GOk.of_body Tryz.func15 rfl Tryz.ntmps15 (by kernel_rfl) rfl fun r T' n' h1 w0 base ρ0 its hS hP => ?_
 have X : CtxW envE ρ0 ro r T' n' := trivial
 unfold g15 at h1
 refine sr ?_
 refine LV.alloc hS h1 rfl Rcf.zr36 rfl rfl rfl fun x2_1 T1 n1 h2 ρ its hS hdr => ?_
 refine dn ?_
 refine CV.seq ?_
 refine sr ?_
 refine mv ?_
 refine vy (V.bin0 h2 rfl rfl) fun x7_2 h3 => ?_
 refine dn ?_
 refine CV.cond h3 rfl (fun e h4 => ?_) (fun e h4 => ?_)
 ·
  clear h1 h2 h3
  subst e
  cases h4
 ·
  clear h1 h2 h3
  subst e
  refine CV.skip ?_
  refine PV.thenN ?_
  refine sr ?_
  refine mv ?_
  refine vy (V.as h4 rfl Rcf.ni80 Rcf.za80) fun x11_3 h5 => ?_
  refine mv ?_
  refine vy (V.ex h5 rfl) fun x12_4 h6 => ?_
  refine vy (V.ex h6 rfl) fun x13_5 h7 => ?_
  refine as_ ?_
  refine as_ ?_
  refine dn ?_
  refine CV.seq ?_
  refine sr ?_
  refine mv ?_
  refine vy (V.not h7 rfl) fun x15_6 h8 => ?_
  refine dn ?_
  refine CV.cond h8 rfl (fun e h9 => ?_) (fun e h9 => ?_)
  ·
   clear h4 h5 h6 h7 h8
   subst e
   refine sr ?_
   refine mv ?_
   refine LV.call hS h9 (g43_ok _ _ _ _ ) hP rfl rfl rfl rfl fun x17_7 T2 n2 h10 ρ its hS => ?_
   refine LV.stA hS h10 rfl rfl rfl Rcf.agg36 rfl rfl rfl fun T3 its h11 hS => ?_
   refine dn ?_
   refine CV.ret ?_
   refine PV.thenR ?_
   refine PV.ldA (x := .tmp 2) (t := 36) hS h11 rfl Rcf.agg36 fun x2_8 h12 hVx2_8 => ?_
   cases h12
   exact PV.ret (by simp) Tryz.results15 hS (RS.cell hVx2_8 RS.nil) rfl
  ·
   clear h4 h5 h6 h7 h8
   subst e
   refine CV.skip ?_
   refine PV.thenN ?_
   refine CV.seq ?_
   refine sr ?_
   refine mv ?_
   refine vy (V.bin0 h9 rfl rfl) fun x19_9 h13 => ?_
   refine mv ?_
   refine ls3 X 2 3 26 [] (g15_k1 ro) 6 ?_ ?_
   ·
    rcases condK_inv h13 with ⟨e, h32⟩ | ⟨e, h32⟩
    ·
     clear h9 h13
     subst e
     refine sk ?_
     refine sk ?_
     refine sk ?_
     refine sk ?_
     refine sk ?_
     refine pu ?_
     exact la3 hS h32 ⟨rfl, rfl, rfl, trivial⟩
    ·
     clear h9 h13
     subst e
     refine mv ?_
     refine vy (V.nc h32 rfl) fun x22_24 h33 => ?_
     refine vy (V.fa h33 rfl Rcf.fo83_1) fun x23_25 h34 => ?_
     refine vy (V.ld hS h34 rfl Rcf.one25) fun x24_26 h35 => ?_
     refine vy (V.bin0 h35 rfl rfl) fun x25_27 h36 => ?_
     refine pu ?_
     exact la3 hS h36 ⟨rfl, rfl, rfl, trivial⟩
   ·
    intro y2 y3 y26 T4 n4 ρ its hS h14
    unfold g15_k1 at h14
    clear h9 h13
    refine dn ?_
    refine CV.cond h14 rfl (fun e h15 => ?_) (fun e h15 => ?_)
    ·
     clear h14
     subst e
     cases h15
    ·
     clear h14
     subst e
     refine CV.skip ?_
     refine PV.thenN ?_
     refine sr ?_
     refine mv ?_
     refine fl hS h15 Rcf.fo83_1 Rcf.one25 fun x31_10 h16 => ?_
     refine LV.call hS h16 (g43_ok _ _ _ _ ) hP rfl rfl rfl rfl fun x32_11 T5 n5 h17 ρ its hS => ?_
     refine LV.alloc hS h17 rfl Rcf.zr36 rfl rfl rfl fun x5_12 T6 n6 h18 ρ its hS hdr => ?_
     refine LV.stA hS h18 rfl rfl rfl Rcf.agg36 rfl rfl rfl fun T7 its h19 hS => ?_
     refine dn ?_
     refine CV.seq ?_
     refine CV.regionM [(0, .anywhere), (1, .held), (2, .anywhere), (3, .held), (4, .anywhere), (5, .held), (6, .anywhere), (7, .anywhere), (8, .anywhere), (9, .held), (10, .held), (11, .alone)] rfl (fun c a a' w hd hq => PanicOk.root (P := Tryz.prog) (fn := Tryz.f15) (w0 := w0) (base := base) (E := envE) (ro := ro) (r := r) (T' := T') (n' := n') (ρ0 := ρ0) c a a' w hd hq) (by kernel_rfl) ?_
     refine MV.lift0 (i := 0) rfl (V.fa h19 rfl Rcf.fo36_0) rfl rfl rfl fun x33_13 h20 => ?_
     refine MV.lift1 (i := 1) rfl (fun _ z => z) (V.ld hS h20 rfl Rcf.one3) rfl rfl rfl [] (by kernel_rfl) fun x34_14 h21 => ?_
     refine MV.lift0 (i := 2) rfl (V.fa h21 rfl Rcf.fo36_1) rfl rfl rfl fun x35_15 h22 => ?_
     refine MV.lift1 (i := 3) rfl (fun _ z => z) (V.ld hS h22 rfl Rcf.one4) rfl rfl rfl [1] (by kernel_rfl) fun x36_16 h23 => ?_
     refine MV.lift0 (i := 4) rfl (V.fa h23 rfl Rcf.fo36_2) rfl rfl rfl fun x37_17 h24 => ?_
     refine MV.lift1 (i := 5) rfl (fun _ z => z) (V.ld hS h24 rfl Rcf.one3) rfl rfl rfl [3, 1] (by kernel_rfl) fun x38_18 h25 => ?_
     refine MV.step0 (i := 6) rfl (VAL.move rfl) rfl rfl rfl ?_
     refine MV.lift0 (i := 7) rfl (V.nc h25 rfl) rfl rfl rfl fun x40_19 h26 => ?_
     refine MV.lift0 (i := 8) rfl (V.fa h26 rfl Rcf.fo83_0) rfl rfl rfl fun x41_20 h27 => ?_
     refine MV.lift1 (i := 9) rfl (fun _ z => z) (V.ld hS h27 rfl Rcf.one9) rfl rfl rfl [5, 3, 1] (by kernel_rfl) fun x42_21 h28 => ?_
     refine MV.lift1 (i := 10) rfl (fun _ z => z) (V.bld h28 rfl) rfl rfl rfl [] (by kernel_rfl) fun x43_22 h29 => ?_
     refine MV.force (i := 11) rfl ?_
     refine LV.stA hS h29 rfl rfl rfl Rcf.agg36 rfl rfl rfl fun T8 its h30 hS => ?_
     refine LV.nextM [] (by kernel_rfl) (fun z => absurd rfl z) ?_
     refine mdn ?_
     refine CV.ret ?_
     refine PV.ldA (x := .tmp 2) (t := 36) hS h30 rfl Rcf.agg36 fun x2_23 h31 hVx2_23 => ?_
     cases h31
     exact PV.ret (by simp) Tryz.results15 hS (RS.cell hVx2_23 RS.nil) rfl
noncomputable def g45_k4 (ro : List HT) (y37 : AV) (T6 : HT) (n6 : Nat) : R :=
 .ok (.val y37) T6 n6
noncomputable def g45_k3 (ro : List HT) (y2 y3 y30 : AV) (T5 : HT) (n5 : Nat) : R :=
 condK 450014 y30
 (
  faK 450015 y2 4 fun x32_8 =>
  ldK 450016 T5 ro x32_8 fun x33_9 =>
  faK 450017 y3 4 fun x34_10 =>
  ldK 450018 T5 ro x34_10 fun x35_11 =>
  eqSK Tryz.prog 9 (.tmp 33) (.tmp 35) 450019 x33_9 x35_11 fun x36_12 =>
  g45_k4 ro x36_12 T5 n5
 )
 (
  g45_k4 ro (.lit (.bool false)) T5 n5
 )
noncomputable def g45_k2 (ro : List HT) (y2 y3 y23 : AV) (T4 : HT) (n4 : Nat) : R :=
 condK 450022 y23
 (
  faK 450023 y2 3 fun x25_13 =>
  ldK 450024 T4 ro x25_13 fun x26_14 =>
  faK 450025 y3 3 fun x27_15 =>
  ldK 450026 T4 ro x27_15 fun x28_16 =>
  bin0 Tryz.prog .eql 4 (.tmp 26) (.tmp 28) 450027 x26_14 x28_16 fun x29_17 =>
  g45_k3 ro y2 y3 x29_17 T4 n4
 )
 (
  g45_k3 ro y2 y3 (.lit (.bool false)) T4 n4
 )
noncomputable def g45_k1 (ro : List HT) (y2 y3 y16 : AV) (T3 : HT) (n3 : Nat) : R :=
 condK 450030 y16
 (
  faK 450031 y2 2 fun x18_18 =>
  ldK 450032 T3 ro x18_18 fun x19_19 =>
  faK 450033 y3 2 fun x20_20 =>
  ldK 450034 T3 ro x20_20 fun x21_21 =>
  eqK Tryz.prog 3 (.tmp 19) (.tmp 21) 450035 x19_19 x21_21 fun x22_22 =>
  g45_k2 ro y2 y3 x22_22 T3 n3
 )
 (
  g45_k2 ro y2 y3 (.lit (.bool false)) T3 n3
 )
noncomputable def g45 (ro : List HT) (a0 a1 : AV) (T : HT) (nx : Nat) : R :=
 boxK 450001 T nx a0 36 fun x2_1 T1 n1 =>
 boxK 450002 T1 n1 a1 36 fun x3_2 T2 n2 =>
 faK 450004 x2_1 0 fun x5_3 =>
 ldK 450005 T2 ro x5_3 fun x6_4 =>
 faK 450006 x3_2 0 fun x7_5 =>
 ldK 450007 T2 ro x7_5 fun x8_6 =>
 eqK Tryz.prog 3 (.tmp 6) (.tmp 8) 450008 x6_4 x8_6 fun x9_7 =>
 condK 450038 x9_7
 (
  faK 450039 x2_1 1 fun x11_23 =>
  ldK 450040 T2 ro x11_23 fun x12_24 =>
  faK 450041 x3_2 1 fun x13_25 =>
  ldK 450042 T2 ro x13_25 fun x14_26 =>
  bin0 Tryz.prog .eql 4 (.tmp 12) (.tmp 14) 450043 x12_24 x14_26 fun x15_27 =>
  g45_k1 ro x2_1 x3_2 x15_27 T2 n2
 )
 (
  g45_k1 ro x2_1 x3_2 (.lit (.bool false)) T2 n2
 )
theorem g45_ok (ro : List HT) (a0 a1 : AV) (T : HT) (nx : Nat) : GOk Tryz.prog envE 45 [a0, a1] ro T nx (g45 ro a0 a1 T nx) := by
 refine GOk.of_body Tryz.func45 rfl Tryz.ntmps45 (by kernel_rfl) rfl fun r T' n' h1 w0 base ρ0 its hS hP => ?_
 have X : CtxW envE ρ0 ro r T' n' := trivial
 unfold g45 at h1
 refine sr ?_
 refine LV.box hS h1 rfl rfl rfl rfl rfl fun x2_1 T1 n1 h2 ρ its hS hdr => ?_
 refine LV.box hS h2 rfl rfl rfl rfl rfl fun x3_2 T2 n2 h3 ρ its hS hdr => ?_
 refine as_ ?_
 refine dn ?_
 refine sr ?_
 refine vy (V.fa h3 rfl Rcf.fo36_0) fun x5_3 h4 => ?_
 refine vy (V.ld hS h4 rfl Rcf.one3) fun x6_4 h5 => ?_
 refine vy (V.fa h5 rfl Rcf.fo36_0) fun x7_5 h6 => ?_
 refine vy (V.ld hS h6 rfl Rcf.one3) fun x8_6 h7 => ?_
 refine vy (V.eq h7 rfl rfl) fun x9_7 h8 => ?_
 refine mv ?_
 refine ls3 X 2 3 16 [(4, (.lit (.bool false)))] (g45_k1 ro) 6 ?_ ?_
 ·
  rcases condK_inv h8 with ⟨e, h31⟩ | ⟨e, h31⟩
  ·
   clear h1 h2 h3 h4 h5 h6 h7 h8
   subst e
   refine vy (V.fa h31 rfl Rcf.fo36_1) fun x11_23 h32 => ?_
   refine vy (V.ld hS h32 rfl Rcf.one4) fun x12_24 h33 => ?_
   refine vy (V.fa h33 rfl Rcf.fo36_1) fun x13_25 h34 => ?_
   refine vy (V.ld hS h34 rfl Rcf.one4) fun x14_26 h35 => ?_
   refine vy (V.bin0 h35 rfl rfl) fun x15_27 h36 => ?_
   refine pu ?_
   exact la3 hS h36 ⟨rfl, rfl, rfl, rfl, trivial⟩
  ·
   clear h1 h2 h3 h4 h5 h6 h7 h8
   subst e
   refine sk ?_
   refine sk ?_
   refine sk ?_
   refine sk ?_
   refine sk ?_
   refine pu ?_
   exact la3 hS h31 ⟨rfl, rfl, rfl, rfl, trivial⟩
 ·
  intro y2 y3 y16 T3 n3 ρ its hS h9
  unfold g45_k1 at h9
  clear h1 h2 h3 h4 h5 h6 h7 h8
  refine mv ?_
  refine ls3 X 2 3 23 [(4, (.lit (.bool false)))] (g45_k2 ro) 6 ?_ ?_
  ·
   rcases condK_inv h9 with ⟨e, h25⟩ | ⟨e, h25⟩
   ·
    clear h9
    subst e
    refine vy (V.fa h25 rfl Rcf.fo36_2) fun x18_18 h26 => ?_
    refine vy (V.ld hS h26 rfl Rcf.one3) fun x19_19 h27 => ?_
    refine vy (V.fa h27 rfl Rcf.fo36_2) fun x20_20 h28 => ?_
    refine vy (V.ld hS h28 rfl Rcf.one3) fun x21_21 h29 => ?_
    refine vy (V.eq h29 rfl rfl) fun x22_22 h30 => ?_
    refine pu ?_
    exact la3 hS h30 ⟨rfl, rfl, rfl, rfl, trivial⟩
   ·
    clear h9
    subst e
    refine sk ?_
    refine sk ?_
    refine sk ?_
    refine sk ?_
    refine sk ?_
    refine pu ?_
    exact la3 hS h25 ⟨rfl, rfl, rfl, rfl, trivial⟩
  ·
   intro y2 y3 y23 T4 n4 ρ its hS h10
   unfold g45_k2 at h10
   clear h9
   refine mv ?_
   refine ls3 X 2 3 30 [(4, (.lit (.bool false)))] (g45_k3 ro) 6 ?_ ?_
   ·
    rcases condK_inv h10 with ⟨e, h19⟩ | ⟨e, h19⟩
    ·
     clear h10
     subst e
     refine vy (V.fa h19 rfl Rcf.fo36_3) fun x25_13 h20 => ?_
     refine vy (V.ld hS h20 rfl Rcf.one4) fun x26_14 h21 => ?_
     refine vy (V.fa h21 rfl Rcf.fo36_3) fun x27_15 h22 => ?_
     refine vy (V.ld hS h22 rfl Rcf.one4) fun x28_16 h23 => ?_
     refine vy (V.bin0 h23 rfl rfl) fun x29_17 h24 => ?_
     refine pu ?_
     exact la3 hS h24 ⟨rfl, rfl, rfl, rfl, trivial⟩
    ·
     clear h10
     subst e
     refine sk ?_
     refine sk ?_
     refine sk ?_
     refine sk ?_
     refine sk ?_
     refine pu ?_
     exact la3 hS h19 ⟨rfl, rfl, rfl, rfl, trivial⟩
   ·
    intro y2 y3 y30 T5 n5 ρ its hS h11
    unfold g45_k3 at h11
    clear h10
    refine mv ?_
    refine ls1 X 37 [(4, (.lit (.bool false)))] (g45_k4 ro) 6 ?_ ?_
    ·
     rcases condK_inv h11 with ⟨e, h13⟩ | ⟨e, h13⟩
     ·
      clear h11
      subst e
      refine vy (V.fa h13 rfl Rcf.fo36_4) fun x32_8 h14 => ?_
      refine vy (V.ld hS h14 rfl Rcf.one9) fun x33_9 h15 => ?_
      refine vy (V.fa h15 rfl Rcf.fo36_4) fun x34_10 h16 => ?_
      refine vy (V.ld hS h16 rfl Rcf.one9) fun x35_11 h17 => ?_
      refine vy (V.eqS h17 rfl rfl) fun x36_12 h18 => ?_
      refine pu ?_
      exact la1 hS h18 ⟨rfl, rfl, trivial⟩
     ·
      clear h11
      subst e
      refine sk ?_
      refine sk ?_
      refine sk ?_
      refine sk ?_
      refine sk ?_
      refine pu ?_
      exact la1 hS h13 ⟨rfl, rfl, trivial⟩
    ·
     intro y37 T6 n6 ρ its hS h12
     unfold g45_k4 at h12
     clear h11
     refine as_ ?_
     refine dn ?_
     refine CV.ret ?_
     cases h12
     exact PV.ret (by simp) Tryz.results45 hS (RS.tmp rfl RS.nil) rfl
noncomputable def g16 (ro : List HT) (a0 a1 : AV) (T : HT) (nx : Nat) : R :=
 boxK 160001 T nx a1 36 fun x3_1 T1 n1 =>
 ldAQK 160004 T1 ro [x3_1] x3_1 5 fun x7_2 =>
 callK (g15 ro a0 T1 n1) fun x6_3 T2 n2 =>
 keepK 160006 T1 T2 [x3_1] <|
 callK (g45 ro x6_3 x7_2 T2 n2) fun x8_4 T3 n3 =>
 .ok (.val x8_4) T3 n3
theorem g16_ok (ro : List HT) (a0 a1 : AV) (T : HT) (nx : Nat) : GOk Tryz.prog envE 16 [a0, a1] ro T nx (g16 ro a0 a1 T nx) := by
 refine GOk.of_body Tryz.func16 rfl Tryz.ntmps16 (by kernel_rfl) rfl fun r T' n' h1 w0 base ρ0 its hS hP => ?_
 have X : CtxW envE ρ0 ro r T' n' := trivial
 unfold g16 at h1
 refine sr ?_
 refine LV.box hS h1 rfl rfl rfl rfl rfl fun x3_1 T1 n1 h2 ρ its hS hdr => ?_
 refine as_ ?_
 refine dn ?_
 refine CV.seq ?_
 refine CV.regionMS hS [x3_1] [(0, .anywhere), (2, .held), (1, .alone), (3, .alone), (4, .alone)] rfl (fun c a a' w hd hq => PanicOk.root (P := Tryz.prog) (fn := Tryz.f16) (w0 := w0) (base := base) (E := envE) (ro := ro) (r := r) (T' := T') (n' := n') (ρ0 := ρ0) c a a' w hd hq) (by kernel_rfl) ?_
 have hK := KeepS.start [x3_1] hS
 have hR := hS
 have hP0 := hP
 replace hP := PK.up hR hP
 replace hS := hR.root
 refine MV.step0 (i := 0) rfl (VAL.move rfl) rfl rfl rfl ?_
 refine MV.lift1 (i := 2) rfl hK (V.ldAQ hS h2 rfl Rcf.agg36) rfl rfl rfl [] (by kernel_rfl) fun x7_2 h3 => ?_
 refine MV.force (i := 1) rfl ?_
 refine LV.call hS h3 (g15_ok _ _ _ _ ) hP rfl rfl rfl rfl fun x6_3 T2 n2 h4 ρ its hS => ?_
 obtain ⟨hK, h5⟩ := KeepS.step hR hS h4
 refine LV.nextM [2] (by kernel_rfl) (fun _ => hK) ?_
 refine MV.force (i := 3) rfl ?_
 refine LV.call hS h5 (g45_ok _ _ _ _ _ ) hP rfl rfl rfl rfl fun x8_4 T3 n3 h6 ρ its hS => ?_
 refine LV.nextM [] (by kernel_rfl) (fun z => absurd rfl z) ?_
 refine MV.force (i := 4) rfl ?_
 refine as_ ?_
 refine LV.nextM [] (by kernel_rfl) (fun z => absurd rfl z) ?_
 replace hS := hR.up hS
 replace hP := hP0
 refine mdn ?_
 refine CV.ret ?_
 cases h6
 exact PV.ret (by simp) Tryz.results16 hS (RS.tmp rfl RS.nil) rfl
noncomputable def g36_k3 (ro : List HT) (lp1 : AV → AV → AV → AV → AV → AV → HT → Nat → R) (y1 y2 y6 y8 y9 y10 y11 y27 : AV) (T3 : HT) (n3 : Nat) : R :=
 condK 360015 y27
 (
  .bad 360016
 )
 (
  iaK 360019 y2 y8 1 fun x30_6 =>
  stK 360020 T3 x30_6 (.lit (.bool true)) fun T4 =>
  addK Tryz.prog 3 (.tmp 11) (.const (.int .i64 (.ofNat 1))) 360021 y11 (.lit (.int .i64 (.ofNat 1))) fun x31_7 =>
  lp1 y1 y2 y6 y9 y10 x31_7 T4 n3
 )
noncomputable def g36_k2 (ro : List HT) (lp1 : AV → AV → AV → AV → AV → AV → HT → Nat → R) (y1 y2 y6 y8 y9 y10 y11 y21 : AV) (T2 : HT) (n2 : Nat) : R :=
 condK 360023 y21
 (
  g36_k3 ro lp1 y1 y2 y6 y8 y9 y10 y11 (.lit (.bool true)) T2 n2
 )
 (
  iaK 360027 y2 y8 1 fun x25_8 =>
  ldK 360028 T2 ro x25_8 fun x26_9 =>
  g36_k3 ro lp1 y1 y2 y6 y8 y9 y10 y11 x26_9 T2 n2
 )
noncomputable def g36_b1 (ro : List HT) (lp1 : AV → AV → AV → AV → AV → AV → HT → Nat → R) (y1 y2 y6 y9 y10 y11 : AV) (T1 : HT) (n1 : Nat) : R :=
 ltK Tryz.prog 3 (.tmp 11) (.tmp 10) 360006 y11 y10 fun x12_2 =>
 condK 360007 x12_2
 (
  iaK 360008 y9 y11 1 fun x13_3 =>
  ldK 360009 T1 ro x13_3 fun x14_4 =>
  ltK Tryz.prog 3 (.tmp 15) (.const (.int .i64 (.ofNat 0))) 360012 x14_4 (.lit (.int .i64 (.ofNat 0))) fun x16_5 =>
  condK 360030 x16_5
  (
   g36_k2 ro lp1 y1 y2 y6 x14_4 y9 y10 y11 (.lit (.bool true)) T1 n1
  )
  (
   geK Tryz.prog 3 (.tmp 18) (.tmp 19) 360034 x14_4 y1 fun x20_10 =>
   g36_k2 ro lp1 y1 y2 y6 x14_4 y9 y10 y11 x20_10 T1 n1
  )
 )
 (
  .ok (.val (.lit (.bool true))) T1 n1
 )
noncomputable def g36 (ro : List HT) (a0 a1 a2 : AV) (T : HT) (nx : Nat) : R :=
 lenSK 360003 a0 fun x10_1 =>
 lpf6 360005 (g36_b1 ro) 100000 a1 a2 (.lit (.bool false)) a0 x10_1 (.lit (.int .i64 (.ofNat 0))) T nx
theorem g36_ok (ro : List HT) (a0 a1 a2 : AV) (T : HT) (nx : Nat) : GOk Tryz.prog envE 36 [a0, a1, a2] ro T nx (g36 ro a0 a1 a2 T nx) := by
 refine GOk.of_body Tryz.func36 rfl Tryz.ntmps36 (by kernel_rfl) rfl fun r T' n' h1 w0 base ρ0 its hS hP => ?_
 have X : CtxW envE ρ0 ro r T' n' := trivial
 unfold g36 at h1
 refine sr ?_
 refine as_ ?_
 refine dn ?_
 refine CV.seq ?_
 refine sr ?_
 refine mv ?_
 refine vy (V.lenS h1 rfl Rcf.ls30) fun x10_1 h2 => ?_
 refine mv ?_
 refine dn ?_
 refine CV.block ?_
 refine cl6 X 1 2 6 9 10 11 [] hS h2 ⟨rfl, rfl, rfl, rfl, rfl, rfl, trivial⟩ ?_
 intro f1 y1 y2 y6 y9 y10 y11 T1 n1 ρ its hS h3
 unfold g36_b1 at h3
 clear h1 h2
 refine sr ?_
 refine vy (V.lt h3 rfl rfl) fun x12_2 h4 => ?_
 refine dn ?_
 refine CV.seq ?_
 refine CV.cond h4 rfl (fun e h5 => ?_) (fun e h5 => ?_)
 ·
  clear h3 h4
  subst e
  refine CV.skip ?_
  refine PV.thenN ?_
  refine CV.seq ?_
  refine CV.block ?_
  refine sr ?_
  refine vy (V.ia h5 rfl rfl Rcf.el30) fun x13_3 h6 => ?_
  refine vy (V.ld hS h6 rfl Rcf.one3) fun x14_4 h7 => ?_
  refine as_ ?_
  refine dn ?_
  refine CV.seq ?_
  refine sr ?_
  refine mv ?_
  refine vy (V.lt h7 rfl rfl) fun x16_5 h8 => ?_
  refine mv ?_
  refine ls8 X 1 2 6 8 9 10 11 21 [] (g36_k2 ro (lpf6 360005 (g36_b1 ro) f1)) 4 ?_ ?_
  ·
   rcases condK_inv h8 with ⟨e, h18⟩ | ⟨e, h18⟩
   ·
    clear h5 h6 h7 h8
    subst e
    refine sk ?_
    refine sk ?_
    refine sk ?_
    refine pu ?_
    exact la8 hS h18 ⟨rfl, rfl, rfl, rfl, rfl, rfl, rfl, rfl, trivial⟩
   ·
    clear h5 h6 h7 h8
    subst e
    refine mv ?_
    refine mv ?_
    refine vy (V.ge h18 rfl rfl) fun x20_10 h19 => ?_
    refine pu ?_
    exact la8 hS h19 ⟨rfl, rfl, rfl, rfl, rfl, rfl, rfl, rfl, trivial⟩
  ·
   intro y1 y2 y6 y8 y9 y10 y11 y21 T2 n2 ρ its hS h9
   unfold g36_k2 at h9
   clear h5 h6 h7 h8
   refine mv ?_
   refine ls8 X 1 2 6 8 9 10 11 27 [] (g36_k3 ro (lpf6 360005 (g36_b1 ro) f1)) 5 ?_ ?_
   ·
    rcases condK_inv h9 with ⟨e, h15⟩ | ⟨e, h15⟩
    ·
     clear h9
     subst e
     refine sk ?_
     refine sk ?_
     refine sk ?_
     refine sk ?_
     refine pu ?_
     exact la8 hS h15 ⟨rfl, rfl, rfl, rfl, rfl, rfl, rfl, rfl, trivial⟩
    ·
     clear h9
     subst e
     refine mv ?_
     refine mv ?_
     refine vy (V.ia h15 rfl rfl Rcf.el67) fun x25_8 h16 => ?_
     refine vy (V.ld hS h16 rfl Rcf.one4) fun x26_9 h17 => ?_
     refine pu ?_
     exact la8 hS h17 ⟨rfl, rfl, rfl, rfl, rfl, rfl, rfl, rfl, trivial⟩
   ·
    intro y1 y2 y6 y8 y9 y10 y11 y27 T3 n3 ρ its hS h10
    unfold g36_k3 at h10
    clear h9
    refine dn ?_
    refine CV.cond h10 rfl (fun e h11 => ?_) (fun e h11 => ?_)
    ·
     clear h10
     subst e
     cases h11
    ·
     clear h10
     subst e
     refine CV.skip ?_
     refine PV.thenN ?_
     refine CV.region ?_
     refine mv ?_
     refine mv ?_
     refine vy (V.ia h11 rfl rfl Rcf.el67) fun x30_6 h12 => ?_
     refine LV.st hS h12 rfl rfl rfl Rcf.siz4 rfl rfl fun T4 its h13 hS => ?_
     refine LV.done ?_
     refine PV.blockN ?_
     refine PV.thenN ?_
     refine CV.region ?_
     refine vy (V.add h13 rfl rfl) fun x31_7 h14 => ?_
     refine mv ?_
     refine LV.done ?_
     exact pb6 hS h14 ⟨rfl, rfl, rfl, rfl, rfl, rfl, trivial⟩
 ·
  clear h3 h4
  subst e
  refine CV.exit ?_
  refine PV.thenE ?_
  refine PV.thenE ?_
  refine PV.blockE ?_
  refine PV.thenN ?_
  refine sr ?_
  refine as_ ?_
  refine dn ?_
  refine CV.ret ?_
  cases h5
  exact PV.ret (by simp) Tryz.results36 hS (RS.tmp rfl RS.nil) rfl
noncomputable def g66_k2 (ro : List HT) (lp1 : AV → AV → AV → AV → HT → Nat → R) (y0 y2 y5 y6 y24 : AV) (T3 : HT) (n3 : Nat) : R :=
 condK 660016 y24
 (
  .bad 660017
 )
 (
  addK Tryz.prog 3 (.tmp 6) (.const (.int .i64 (.ofNat 1))) 660018 y6 (.lit (.int .i64 (.ofNat 1))) fun x25_6 =>
  lp1 y0 y2 y5 x25_6 T3 n3
 )
noncomputable def g66_k3 (ro : List HT) (lp1 : AV → AV → AV → AV → HT → Nat → R) (y0 y2 y5 y6 y23 : AV) (T4 : HT) (n4 : Nat) : R :=
 g66_k2 ro lp1 y0 y2 y5 y6 y23 T4 n4
noncomputable def g66_k4 (ro : List HT) (y2 y33 : AV) (T6 : HT) (n6 : Nat) : R :=
 .ok (.val y33) T6 n6
noncomputable def g66_b1 (ro : List HT) (lp1 : AV → AV → AV → AV → HT → Nat → R) (y0 y2 y5 y6 : AV) (T1 : HT) (n1 : Nat) : R :=
 ltK Tryz.prog 3 (.tmp 6) (.tmp 5) 660006 y6 y5 fun x7_2 =>
 condK 660007 x7_2
 (
  ixK 660012 y0 y6 fun x11_3 =>
  callK (g104 ro x11_3 T1 n1) fun x12_4 T2 n2 =>
  notK 660014 x12_4 fun x13_5 =>
  condK 660020 x13_5
  (
   eqK Tryz.prog 3 (.tmp 15) (.const (.int .i64 (.ofNat 0))) 660022 y6 (.lit (.int .i64 (.ofNat 0))) fun x16_7 =>
   condK 660025 x16_7
   (
    g66_k3 ro lp1 y0 y2 y5 y6 (.lit (.bool true)) T2 n2
   )
   (
    ixK 660029 y0 y6 fun x20_8 =>
    callK (g105 ro x20_8 T2 n2) fun x21_9 T5 n5 =>
    notK 660031 x21_9 fun x22_10 =>
    g66_k3 ro lp1 y0 y2 y5 y6 x22_10 T5 n5
   )
  )
  (
   g66_k2 ro lp1 y0 y2 y5 y6 (.lit (.bool false)) T2 n2
  )
 )
 (
  neSK Tryz.prog 9 (.tmp 26) (.const (.string ⟨⟨[]⟩⟩)) 660035 y0 (.lit (.string ⟨⟨[]⟩⟩)) fun x27_11 =>
  condK 660038 x27_11
  (
   callK (g106 ro T1 n1) fun x29_12 T7 n7 =>
   callK (g87 ro x29_12 y0 T7 n7) fun x31_13 T8 n8 =>
   notK 660042 x31_13 fun x32_14 =>
   g66_k4 ro y2 x32_14 T8 n8
  )
  (
   g66_k4 ro y2 (.lit (.bool false)) T1 n1
  )
 )
noncomputable def g66 (ro : List HT) (a0 : AV) (T : HT) (nx : Nat) : R :=
 lenTK 660003 a0 fun x5_1 =>
 lpf4 660005 (g66_b1 ro) 100000 a0 (.lit (.bool false)) x5_1 (.lit (.int .i64 (.ofNat 0))) T nx
theorem g66_ok (ro : List HT) (a0 : AV) (T : HT) (nx : Nat) : GOk Tryz.prog envE 66 [a0] ro T nx (g66 ro a0 T nx) := by
 refine GOk.of_body Tryz.func66 rfl Tryz.ntmps66 (by kernel_rfl) rfl fun r T' n' h1 w0 base ρ0 its hS hP => ?_
 have X : CtxW envE ρ0 ro r T' n' := trivial
 unfold g66 at h1
 refine sr ?_
 refine as_ ?_
 refine dn ?_
 refine CV.seq ?_
 refine sr ?_
 refine mv ?_
 refine vy (V.lenT h1 rfl Rcf.ls9) fun x5_1 h2 => ?_
 refine mv ?_
 refine dn ?_
 refine CV.block ?_
 refine cl4 X 0 2 5 6 [] hS h2 ⟨rfl, rfl, rfl, rfl, trivial⟩ ?_
 intro f1 y0 y2 y5 y6 T1 n1 ρ its hS h3
 unfold g66_b1 at h3
 clear h1 h2
 refine sr ?_
 refine vy (V.lt h3 rfl rfl) fun x7_2 h4 => ?_
 refine dn ?_
 refine CV.seq ?_
 refine CV.cond h4 rfl (fun e h5 => ?_) (fun e h5 => ?_)
 ·
  clear h3 h4
  subst e
  refine CV.skip ?_
  refine PV.thenN ?_
  refine CV.seq ?_
  refine CV.block ?_
  refine sr ?_
  refine mv ?_
  refine as_ ?_
  refine dn ?_
  refine sr ?_
  refine mv ?_
  refine mv ?_
  refine vy (V.ix h5 rfl rfl Rcf.st9) fun x11_3 h6 => ?_
  refine LV.call hS h6 (g104_ok _ _ _ _ ) hP rfl rfl rfl rfl fun x12_4 T2 n2 h7 ρ its hS => ?_
  refine vy (V.not h7 rfl) fun x13_5 h8 => ?_
  refine mv ?_
  refine ls5 X 0 2 5 6 24 [] (g66_k2 ro (lpf4 660005 (g66_b1 ro) f1)) 10 ?_ ?_
  ·
   rcases condK_inv h8 with ⟨e, h12⟩ | ⟨e, h12⟩
   ·
    clear h5 h6 h7 h8
    subst e
    refine mv ?_
    refine vy (V.eq h12 rfl rfl) fun x16_7 h13 => ?_
    refine mv ?_
    refine ls5 X 0 2 5 6 23 [(14, (.lit (.bool true)))] (g66_k3 ro (lpf4 660005 (g66_b1 ro) f1)) 6 ?_ ?_
    ·
     rcases condK_inv h13 with ⟨e, h15⟩ | ⟨e, h15⟩
     ·
      clear h12 h13
      subst e
      refine sk ?_
      refine sk ?_
      refine sk ?_
      refine sk ?_
      refine sk ?_
      refine pu ?_
      exact la5 hS h15 ⟨rfl, rfl, rfl, rfl, rfl, rfl, trivial⟩
     ·
      clear h12 h13
      subst e
      refine mv ?_
      refine mv ?_
      refine vy (V.ix h15 rfl rfl Rcf.st9) fun x20_8 h16 => ?_
      refine LV.call hS h16 (g105_ok _ _ _ _ ) hP rfl rfl rfl rfl fun x21_9 T5 n5 h17 ρ its hS => ?_
      refine vy (V.not h17 rfl) fun x22_10 h18 => ?_
      refine pu ?_
      exact la5 hS h18 ⟨rfl, rfl, rfl, rfl, rfl, rfl, trivial⟩
    ·
     intro y0 y2 y5 y6 y23 T4 n4 ρ its hS h14
     unfold g66_k3 at h14
     clear h12 h13
     refine pu ?_
     exact la5 hS h14 ⟨rfl, rfl, rfl, rfl, rfl, trivial⟩
   ·
    clear h5 h6 h7 h8
    subst e
    refine sk ?_
    refine sk ?_
    refine sk ?_
    refine sk ?_
    refine sk ?_
    refine sk ?_
    refine sk ?_
    refine sk ?_
    refine sk ?_
    refine pu ?_
    exact la5 hS h12 ⟨rfl, rfl, rfl, rfl, rfl, trivial⟩
  ·
   intro y0 y2 y5 y6 y24 T3 n3 ρ its hS h9
   unfold g66_k2 at h9
   clear h5 h6 h7 h8
   refine dn ?_
   refine CV.cond h9 rfl (fun e h10 => ?_) (fun e h10 => ?_)
   ·
    clear h9
    subst e
    cases h10
   ·
    clear h9
    subst e
    refine CV.skip ?_
    refine PV.blockN ?_
    refine PV.thenN ?_
    refine CV.region ?_
    refine vy (V.add h10 rfl rfl) fun x25_6 h11 => ?_
    refine mv ?_
    refine LV.done ?_
    exact pb4 hS h11 ⟨rfl, rfl, rfl, rfl, trivial⟩
 ·
  clear h3 h4
  subst e
  refine CV.exit ?_
  refine PV.thenE ?_
  refine PV.thenE ?_
  refine PV.blockE ?_
  refine PV.thenN ?_
  refine sr ?_
  refine mv ?_
  refine vy (V.neS h5 rfl rfl) fun x27_11 h19 => ?_
  refine mv ?_
  refine ls2 X 2 33 [] (g66_k4 ro) 5 ?_ ?_
  ·
   rcases condK_inv h19 with ⟨e, h21⟩ | ⟨e, h21⟩
   ·
    clear h5 h19
    subst e
    refine LV.call hS h21 (g106_ok _ _ _ ) hP rfl rfl rfl rfl fun x29_12 T7 n7 h22 ρ its hS => ?_
    refine mv ?_
    refine LV.call hS h22 (g87_ok _ _ _ _ _ ) hP rfl rfl rfl rfl fun x31_13 T8 n8 h23 ρ its hS => ?_
    refine vy (V.not h23 rfl) fun x32_14 h24 => ?_
    refine pu ?_
    exact la2 hS h24 ⟨rfl, rfl, trivial⟩
   ·
    clear h5 h19
    subst e
    refine sk ?_
    refine sk ?_
    refine sk ?_
    refine sk ?_
    refine pu ?_
    exact la2 hS h21 ⟨rfl, rfl, trivial⟩
  ·
   intro y2 y33 T6 n6 ρ its hS h20
   unfold g66_k4 at h20
   clear h5 h19
   refine as_ ?_
   refine dn ?_
   refine CV.ret ?_
   cases h20
   exact PV.ret (by simp) Tryz.results66 hS (RS.tmp rfl RS.nil) rfl
noncomputable def g109_b1 (ro : List HT) (lp1 : AV → AV → AV → AV → AV → AV → HT → Nat → R) (y0 y2 y6 y9 y10 y11 : AV) (T1 : HT) (n1 : Nat) : R :=
 ltK Tryz.prog 3 (.tmp 11) (.tmp 10) 1090006 y11 y10 fun x12_2 =>
 condK 1090007 x12_2
 (
  iaK 1090008 y9 y11 1 fun x13_3 =>
  ldK 1090009 T1 ro x13_3 fun x14_4 =>
  fldK 1090013 T1 ro y0 0 fun x19_5 =>
  iaK 1090015 x19_5 x14_4 5 fun x21_6 =>
  ldAK 1090016 T1 ro x21_6 5 fun x22_7 =>
  dynK 1090017 y2 fun f p q => callK (scc2 4000 f ro (p ++ ([x22_7] ++ q)) T1 n1) fun x23_8 T2 n2 =>
  notK 1090018 x23_8 fun x24_9 =>
  condK 1090019 x24_9
  (
   .bad 1090020
  )
  (
   addK Tryz.prog 3 (.tmp 11) (.const (.int .i64 (.ofNat 1))) 1090021 y11 (.lit (.int .i64 (.ofNat 1))) fun x25_10 =>
   lp1 y0 y2 y6 y9 y10 x25_10 T2 n2
  )
 )
 (
  .ok (.val (.lit (.bool true))) T1 n1
 )
noncomputable def g109 (ro : List HT) (a0 a1 a2 : AV) (T : HT) (nx : Nat) : R :=
 lenSK 1090003 a1 fun x10_1 =>
 lpf6 1090005 (g109_b1 ro) 100000 a0 a2 (.lit (.bool false)) a1 x10_1 (.lit (.int .i64 (.ofNat 0))) T nx
theorem g109_ok (ro : List HT) (a0 a1 a2 : AV) (T : HT) (nx : Nat) : GOk Tryz.prog envE 109 [a0, a1, a2] ro T nx (g109 ro a0 a1 a2 T nx) := by
 refine GOk.of_body Tryz.func109 rfl Tryz.ntmps109 (by kernel_rfl) rfl fun r T' n' h1 w0 base ρ0 its hS hP => ?_
 have X : CtxW envE ρ0 ro r T' n' := trivial
 unfold g109 at h1
 refine sr ?_
 refine as_ ?_
 refine dn ?_
 refine CV.seq ?_
 refine sr ?_
 refine mv ?_
 refine vy (V.lenS h1 rfl Rcf.ls30) fun x10_1 h2 => ?_
 refine mv ?_
 refine dn ?_
 refine CV.block ?_
 refine cl6 X 0 2 6 9 10 11 [] hS h2 ⟨rfl, rfl, rfl, rfl, rfl, rfl, trivial⟩ ?_
 intro f1 y0 y2 y6 y9 y10 y11 T1 n1 ρ its hS h3
 unfold g109_b1 at h3
 clear h1 h2
 refine sr ?_
 refine vy (V.lt h3 rfl rfl) fun x12_2 h4 => ?_
 refine dn ?_
 refine CV.seq ?_
 refine CV.cond h4 rfl (fun e h5 => ?_) (fun e h5 => ?_)
 ·
  clear h3 h4
  subst e
  refine CV.skip ?_
  refine PV.thenN ?_
  refine CV.seq ?_
  refine CV.block ?_
  refine sr ?_
  refine vy (V.ia h5 rfl rfl Rcf.el30) fun x13_3 h6 => ?_
  refine vy (V.ld hS h6 rfl Rcf.one3) fun x14_4 h7 => ?_
  refine as_ ?_
  refine dn ?_
  refine sr ?_
  refine mv ?_
  refine mv ?_
  refine fl hS h7 Rcf.fo69_0 Rcf.one23 fun x19_5 h8 => ?_
  refine mv ?_
  refine vy (V.ia h8 rfl rfl Rcf.el23) fun x21_6 h9 => ?_
  refine vy (V.ldA hS h9 rfl Rcf.agg32) fun x22_7 h10 => ?_
  refine LV.callD (G := fun f gs => scc2 4000 f ro gs T1 n1) (qs := [x22_7]) hS h10 (fun f gs => scc2_ok _ _ _ _ _ _) hP rfl rfl rfl rfl rfl rfl rfl fun x23_8 T2 n2 h11 ρ its hS => ?_
  refine vy (V.not h11 rfl) fun x24_9 h12 => ?_
  refine dn ?_
  refine CV.cond h12 rfl (fun e h13 => ?_) (fun e h13 => ?_)
  ·
   clear h5 h6 h7 h8 h9 h10 h11 h12
   subst e
   cases h13
  ·
   clear h5 h6 h7 h8 h9 h10 h11 h12
   subst e
   refine CV.skip ?_
   refine PV.blockN ?_
   refine PV.thenN ?_
   refine CV.region ?_
   refine vy (V.add h13 rfl rfl) fun x25_10 h14 => ?_
   refine mv ?_
   refine LV.done ?_
   exact pb6 hS h14 ⟨rfl, rfl, rfl, rfl, rfl, rfl, trivial⟩
 ·
  clear h3 h4
  subst e
  refine CV.exit ?_
  refine PV.thenE ?_
  refine PV.thenE ?_
  refine PV.blockE ?_
  refine PV.thenN ?_
  refine sr ?_
  refine as_ ?_
  refine dn ?_
  refine CV.ret ?_
  cases h5
  exact PV.ret (by simp) Tryz.results109 hS (RS.tmp rfl RS.nil) rfl
noncomputable def g107_k2 (ro : List HT) (y23 : AV) (T2 : HT) (n2 : Nat) : R :=
 .ok (.val y23) T2 n2
noncomputable def g107_k1 (ro : List HT) (y0 y1 y18 : AV) (T1 : HT) (n1 : Nat) : R :=
 condK 1070009 y18
 (
  callK (g109 ro y0 y1 (.lit (.func (.func 183) #[] #[])) T1 n1) fun x22_3 T3 n3 =>
  g107_k2 ro x22_3 T3 n3
 )
 (
  g107_k2 ro (.lit (.bool false)) T1 n1
 )
noncomputable def g107 (ro : List HT) (a0 a1 a2 a3 : AV) (T : HT) (nx : Nat) : R :=
 lenSK 1070003 a1 fun x10_1 =>
 geK Tryz.prog 3 (.tmp 10) (.tmp 11) 1070005 x10_1 a2 fun x12_2 =>
 condK 1070015 x12_2
 (
  lenSK 1070017 a1 fun x15_4 =>
  leK Tryz.prog 3 (.tmp 15) (.tmp 16) 1070019 x15_4 a3 fun x17_5 =>
  g107_k1 ro a0 a1 x17_5 T nx
 )
 (
  g107_k1 ro a0 a1 (.lit (.bool false)) T nx
 )
theorem g107_ok (ro : List HT) (a0 a1 a2 a3 : AV) (T : HT) (nx : Nat) : GOk Tryz.prog envE 107 [a0, a1, a2, a3] ro T nx (g107 ro a0 a1 a2 a3 T nx) := by
 refine GOk.of_body Tryz.func107 rfl Tryz.ntmps107 (by kernel_rfl) rfl fun r T' n' h1 w0 base ρ0 its hS hP => ?_
 have X : CtxW envE ρ0 ro r T' n' := trivial
 unfold g107 at h1
 refine sr ?_
 refine as_ ?_
 refine dn ?_
 refine sr ?_
 refine mv ?_
 refine vy (V.lenS h1 rfl Rcf.ls30) fun x10_1 h2 => ?_
 refine mv ?_
 refine vy (V.ge h2 rfl rfl) fun x12_2 h3 => ?_
 refine mv ?_
 refine ls3 X 0 1 18 [(8, (.lit (.bool false)))] (g107_k1 ro) 5 ?_ ?_
 ·
  rcases condK_inv h3 with ⟨e, h8⟩ | ⟨e, h8⟩
  ·
   clear h1 h2 h3
   subst e
   refine mv ?_
   refine vy (V.lenS h8 rfl Rcf.ls30) fun x15_4 h9 => ?_
   refine mv ?_
   refine vy (V.le h9 rfl rfl) fun x17_5 h10 => ?_
   refine pu ?_
   exact la3 hS h10 ⟨rfl, rfl, rfl, rfl, trivial⟩
  ·
   clear h1 h2 h3
   subst e
   refine sk ?_
   refine sk ?_
   refine sk ?_
   refine sk ?_
   refine pu ?_
   exact la3 hS h8 ⟨rfl, rfl, rfl, rfl, trivial⟩
 ·
  intro y0 y1 y18 T1 n1 ρ its hS h4
  unfold g107_k1 at h4
  clear h1 h2 h3
  refine mv ?_
  refine ls1 X 23 [(8, (.lit (.bool false)))] (g107_k2 ro) 4 ?_ ?_
  ·
   rcases condK_inv h4 with ⟨e, h6⟩ | ⟨e, h6⟩
   ·
    clear h4
    subst e
    refine mv ?_
    refine mv ?_
    refine LV.call hS h6 (g109_ok _ _ _ _ _ _ ) hP rfl rfl rfl rfl fun x22_3 T3 n3 h7 ρ its hS => ?_
    refine pu ?_
    exact la1 hS h7 ⟨rfl, rfl, trivial⟩
   ·
    clear h4
    subst e
    refine sk ?_
    refine sk ?_
    refine sk ?_
    refine pu ?_
    exact la1 hS h6 ⟨rfl, rfl, trivial⟩
  ·
   intro y23 T2 n2 ρ its hS h5
   unfold g107_k2 at h5
   clear h4
   refine as_ ?_
   refine dn ?_
   refine CV.ret ?_
   cases h5
   exact PV.ret (by simp) Tryz.results107 hS (RS.tmp rfl RS.nil) rfl
noncomputable def g112_k1 (ih : FuncId → List HT → List AV → HT → Nat → R) (ro : List HT) (y0 y5 y25 : AV) (T3 : HT) (n3 : Nat) : R :=
 .ok (.val y25) T3 n3
noncomputable def g112_b2 (ih : FuncId → List HT → List AV → HT → Nat → R) (ro : List HT) (lp2 : AV → AV → AV → AV → AV → AV → HT → Nat → R) (y0 y4 y5 y27 y28 y29 : AV) (T4 : HT) (n4 : Nat) : R :=
 ltK Tryz.prog 3 (.tmp 29) (.tmp 28) 1120029 y29 y28 fun x30_17 =>
 condK 1120030 x30_17
 (
  iaK 1120031 y27 y29 1 fun x31_18 =>
  ldK 1120032 T4 ro x31_18 fun x32_19 =>
  callK (ih 112 ro [y0, x32_19] T4 n4) fun x35_20 T5 n5 =>
  notK 1120037 x35_20 fun x36_21 =>
  condK 1120038 x36_21
  (
   .bad 1120039
  )
  (
   addK Tryz.prog 3 (.tmp 29) (.const (.int .i64 (.ofNat 1))) 1120040 y29 (.lit (.int .i64 (.ofNat 1))) fun x37_22 =>
   lp2 y0 y4 y5 y27 y28 x37_22 T5 n5
  )
 )
 (
  faK 1120042 y5 4 fun x38_23 =>
  ldK 1120043 T4 ro x38_23 fun x39_24 =>
  lenSK 1120044 x39_24 fun x40_25 =>
  gtK Tryz.prog 3 (.tmp 40) (.const (.int .i64 (.ofNat 0))) 1120045 x40_25 (.lit (.int .i64 (.ofNat 0))) fun x41_26 =>
  .ok (.val x41_26) T4 n4
 )
noncomputable def g112 (ih : FuncId → List HT → List AV → HT → Nat → R) (ro : List HT) (a0 a1 : AV) (T : HT) (nx : Nat) : R :=
 fldK 1120003 T ro a0 0 fun x11_1 =>
 iaK 1120005 x11_1 a1 5 fun x13_2 =>
 ldAK 1120006 T ro x13_2 5 fun x14_3 =>
 newK T nx (.obj [.lit (.int .i64 0), .lit (.int .i64 0), .lit (.int .i64 0), .lit (.string ⟨#[]⟩), .lit (.slice none 0 0)] 32) fun x5_4 T1 n1 =>
 stAK 1120008 T1 x5_4 x14_3 5 fun T2 =>
 faK 1120009 x5_4 0 fun x15_5 =>
 ldK 1120010 T2 ro x15_5 fun x16_6 =>
 neK Tryz.prog 3 (.tmp 16) (.const (.int .i64 (.ofNat 8))) 1120011 x16_6 (.lit (.int .i64 (.ofNat 8))) fun x17_7 =>
 condK 1120012 x17_7
 (
  faK 1120013 x5_4 0 fun x18_8 =>
  ldK 1120014 T2 ro x18_8 fun x19_9 =>
  eqK Tryz.prog 3 (.tmp 19) (.const (.int .i64 (.ofNat 6))) 1120015 x19_9 (.lit (.int .i64 (.ofNat 6))) fun x20_10 =>
  condK 1120018 x20_10
  (
   g112_k1 ih ro a0 x5_4 (.lit (.bool true)) T2 n1
  )
  (
   faK 1120020 x5_4 0 fun x22_11 =>
   ldK 1120021 T2 ro x22_11 fun x23_12 =>
   eqK Tryz.prog 3 (.tmp 23) (.const (.int .i64 (.ofNat 13))) 1120022 x23_12 (.lit (.int .i64 (.ofNat 13))) fun x24_13 =>
   g112_k1 ih ro a0 x5_4 x24_13 T2 n1
  )
 )
 (
  faK 1120024 x5_4 4 fun x26_14 =>
  ldK 1120025 T2 ro x26_14 fun x27_15 =>
  lenSK 1120026 x27_15 fun x28_16 =>
  lpf6 1120028 (g112_b2 ih ro) 100000 a0 (.lit (.bool false)) x5_4 x27_15 x28_16 (.lit (.int .i64 (.ofNat 0))) T2 n1
 )
theorem g112_ok (ih : FuncId → List HT → List AV → HT → Nat → R) (hI : ∀ f ro args T nx, GOk Tryz.prog envE f args ro T nx (ih f ro args T nx)) (ro : List HT) (a0 a1 : AV) (T : HT) (nx : Nat) : GOk Tryz.prog envE 112 [a0, a1] ro T nx (g112 ih ro a0 a1 T nx) := by
 refine GOk.of_body Tryz.func112 rfl Tryz.ntmps112 (by kernel_rfl) rfl fun r T' n' h1 w0 base ρ0 its hS hP => ?_
 have X : CtxW envE ρ0 ro r T' n' := trivial
 unfold g112 at h1
 refine sr ?_
 refine as_ ?_
 refine dn ?_
 refine sr ?_
 refine mv ?_
 refine fl hS h1 Rcf.fo69_0 Rcf.one23 fun x11_1 h2 => ?_
 refine mv ?_
 refine vy (V.ia h2 rfl rfl Rcf.el23) fun x13_2 h3 => ?_
 refine vy (V.ldA hS h3 rfl Rcf.agg32) fun x14_3 h4 => ?_
 refine LV.alloc hS h4 rfl Rcf.zr32 rfl rfl rfl fun x5_4 T1 n1 h5 ρ its hS hdr => ?_
 refine LV.stA hS h5 rfl rfl rfl Rcf.agg32 rfl rfl rfl fun T2 its h6 hS => ?_
 refine dn ?_
 refine CV.seq ?_
 refine sr ?_
 refine vy (V.fa h6 rfl Rcf.fo32_0) fun x15_5 h7 => ?_
 refine vy (V.ld hS h7 rfl Rcf.one3) fun x16_6 h8 => ?_
 refine vy (V.ne h8 rfl rfl) fun x17_7 h9 => ?_
 refine dn ?_
 refine CV.cond h9 rfl (fun e h10 => ?_) (fun e h10 => ?_)
 ·
  clear h1 h2 h3 h4 h5 h6 h7 h8 h9
  subst e
  refine sr ?_
  refine vy (V.fa h10 rfl Rcf.fo32_0) fun x18_8 h11 => ?_
  refine vy (V.ld hS h11 rfl Rcf.one3) fun x19_9 h12 => ?_
  refine vy (V.eq h12 rfl rfl) fun x20_10 h13 => ?_
  refine mv ?_
  refine ls3 X 0 5 25 [(4, (.lit (.bool false)))] (g112_k1 ih ro) 4 ?_ ?_
  ·
   rcases condK_inv h13 with ⟨e, h15⟩ | ⟨e, h15⟩
   ·
    clear h10 h11 h12 h13
    subst e
    refine sk ?_
    refine sk ?_
    refine sk ?_
    refine pu ?_
    exact la3 hS h15 ⟨rfl, rfl, rfl, rfl, trivial⟩
   ·
    clear h10 h11 h12 h13
    subst e
    refine vy (V.fa h15 rfl Rcf.fo32_0) fun x22_11 h16 => ?_
    refine vy (V.ld hS h16 rfl Rcf.one3) fun x23_12 h17 => ?_
    refine vy (V.eq h17 rfl rfl) fun x24_13 h18 => ?_
    refine pu ?_
    exact la3 hS h18 ⟨rfl, rfl, rfl, rfl, trivial⟩
  ·
   intro y0 y5 y25 T3 n3 ρ its hS h14
   unfold g112_k1 at h14
   clear h10 h11 h12 h13
   refine as_ ?_
   refine dn ?_
   refine CV.ret ?_
   refine PV.thenR ?_
   cases h14
   exact PV.ret (by simp) Tryz.results112 hS (RS.tmp rfl RS.nil) rfl
 ·
  clear h1 h2 h3 h4 h5 h6 h7 h8 h9
  subst e
  refine CV.skip ?_
  refine PV.thenN ?_
  refine CV.seq ?_
  refine sr ?_
  refine vy (V.fa h10 rfl Rcf.fo32_4) fun x26_14 h19 => ?_
  refine vy (V.ld hS h19 rfl Rcf.one30) fun x27_15 h20 => ?_
  refine vy (V.lenS h20 rfl Rcf.ls30) fun x28_16 h21 => ?_
  refine mv ?_
  refine dn ?_
  refine CV.block ?_
  refine cl6 X 0 4 5 27 28 29 [] hS h21 ⟨rfl, rfl, rfl, rfl, rfl, rfl, trivial⟩ ?_
  intro f2 y0 y4 y5 y27 y28 y29 T4 n4 ρ its hS h22
  unfold g112_b2 at h22
  clear h10 h19 h20 h21
  refine sr ?_
  refine vy (V.lt h22 rfl rfl) fun x30_17 h23 => ?_
  refine dn ?_
  refine CV.seq ?_
  refine CV.cond h23 rfl (fun e h24 => ?_) (fun e h24 => ?_)
  ·
   clear h22 h23
   subst e
   refine CV.skip ?_
   refine PV.thenN ?_
   refine CV.seq ?_
   refine CV.block ?_
   refine sr ?_
   refine vy (V.ia h24 rfl rfl Rcf.el30) fun x31_18 h25 => ?_
   refine vy (V.ld hS h25 rfl Rcf.one3) fun x32_19 h26 => ?_
   refine as_ ?_
   refine dn ?_
   refine sr ?_
   refine mv ?_
   refine mv ?_
   refine LV.call hS h26 (hI _ _ _ _ _) hP rfl rfl rfl rfl fun x35_20 T5 n5 h27 ρ its hS => ?_
   refine vy (V.not h27 rfl) fun x36_21 h28 => ?_
   refine dn ?_
   refine CV.cond h28 rfl (fun e h29 => ?_) (fun e h29 => ?_)
   ·
    clear h24 h25 h26 h27 h28
    subst e
    cases h29
   ·
    clear h24 h25 h26 h27 h28
    subst e
    refine CV.skip ?_
    refine PV.blockN ?_
    refine PV.thenN ?_
    refine CV.region ?_
    refine vy (V.add h29 rfl rfl) fun x37_22 h30 => ?_
    refine mv ?_
    refine LV.done ?_
    exact pb6 hS h30 ⟨rfl, rfl, rfl, rfl, rfl, rfl, trivial⟩
  ·
   clear h22 h23
   subst e
   refine CV.exit ?_
   refine PV.thenE ?_
   refine PV.thenE ?_
   refine PV.blockE ?_
   refine PV.thenN ?_
   refine sr ?_
   refine vy (V.fa h24 rfl Rcf.fo32_4) fun x38_23 h31 => ?_
   refine vy (V.ld hS h31 rfl Rcf.one30) fun x39_24 h32 => ?_
   refine vy (V.lenS h32 rfl Rcf.ls30) fun x40_25 h33 => ?_
   refine vy (V.gt h33 rfl rfl) fun x41_26 h34 => ?_
   refine as_ ?_
   refine dn ?_
   refine CV.ret ?_
   cases h34
   exact PV.ret (by simp) Tryz.results112 hS (RS.tmp rfl RS.nil) rfl
noncomputable def ap3 (ih : FuncId → List HT → List AV → HT → Nat → R) (f : FuncId) (ro : List HT) (args : List AV) (T : HT) (nx : Nat) : R :=
  Bool.rec (motive := fun _ => R) (.bad 2) (List.rec (motive := fun _ => R) (.bad 1) (fun a0 l0 _ => List.rec (motive := fun _ => R) (.bad 1) (fun a1 l1 _ => List.rec (motive := fun _ => R) (g112 ih ro a0 a1 T nx) (fun _ _ _ => .bad 1) l1) l0) args) (Nat.beq f 112)
noncomputable def scc3 (fuel : Nat) : FuncId → List HT → List AV → HT → Nat → R :=
  Nat.rec (motive := fun _ => FuncId → List HT → List AV → HT → Nat → R) (fun _ _ _ _ _ => .bad 3) (fun _ ih => ap3 ih) fuel
theorem ap3_ok (ih : FuncId → List HT → List AV → HT → Nat → R) (hI : ∀ f ro args T nx, GOk Tryz.prog envE f args ro T nx (ih f ro args T nx)) (f : FuncId) (ro : List HT) (args : List AV) (T : HT) (nx : Nat) : GOk Tryz.prog envE f args ro T nx (ap3 ih f ro args T nx) := by
  unfold ap3
  refine recb_go (fun hb => ?_) (fun _ => ?_)
  · obtain rfl := beqT hb
    rcases args with _ | ⟨a0, l0⟩
    · exact GOk.bad
    rcases l0 with _ | ⟨a1, l1⟩
    · exact GOk.bad
    rcases l1 with _ | ⟨_, _⟩
    · exact g112_ok _ hI _ _ _ _ _ 
    · exact GOk.bad
  · exact GOk.bad
theorem scc3_ok : ∀ (fuel : Nat) (f : FuncId) (ro : List HT) (args : List AV) (T : HT) (nx : Nat), GOk Tryz.prog envE f args ro T nx (scc3 fuel f ro args T nx)
  | 0, _, _, _, _, _ => GOk.bad
  | fuel + 1, f, ro, args, T, nx => ap3_ok (scc3 fuel) (scc3_ok fuel) f ro args T nx
noncomputable def g115 (ro : List HT) (a0 a1 a2 : AV) (T : HT) (nx : Nat) : R :=
 fldK 1150003 T ro a0 0 fun x10_1 =>
 iaK 1150005 x10_1 a1 5 fun x12_2 =>
 faK 1150006 x12_2 0 fun x13_3 =>
 ldK 1150007 T ro x13_3 fun x14_4 =>
 eqK Tryz.prog 3 (.tmp 14) (.tmp 15) 1150009 x14_4 a2 fun x16_5 =>
 .ok (.val x16_5) T nx
theorem g115_ok (ro : List HT) (a0 a1 a2 : AV) (T : HT) (nx : Nat) : GOk Tryz.prog envE 115 [a0, a1, a2] ro T nx (g115 ro a0 a1 a2 T nx) := by
 refine GOk.of_body Tryz.func115 rfl Tryz.ntmps115 (by kernel_rfl) rfl fun r T' n' h1 w0 base ρ0 its hS hP => ?_
 have X : CtxW envE ρ0 ro r T' n' := trivial
 unfold g115 at h1
 refine sr ?_
 refine as_ ?_
 refine dn ?_
 refine sr ?_
 refine mv ?_
 refine fl hS h1 Rcf.fo69_0 Rcf.one23 fun x10_1 h2 => ?_
 refine mv ?_
 refine vy (V.ia h2 rfl rfl Rcf.el23) fun x12_2 h3 => ?_
 refine vy (V.fa h3 rfl Rcf.fo32_0) fun x13_3 h4 => ?_
 refine vy (V.ld hS h4 rfl Rcf.one3) fun x14_4 h5 => ?_
 refine mv ?_
 refine vy (V.eq h5 rfl rfl) fun x16_5 h6 => ?_
 refine as_ ?_
 refine dn ?_
 refine CV.ret ?_
 cases h6
 exact PV.ret (by simp) Tryz.results115 hS (RS.tmp rfl RS.nil) rfl
noncomputable def g118_k2 (ro : List HT) (y0 y1 y2 y26 : AV) (T2 : HT) (n2 : Nat) : R :=
 .ok (.val y26) T2 n2
noncomputable def g118_k1 (ro : List HT) (y0 y1 y2 y20 : AV) (T1 : HT) (n1 : Nat) : R :=
 condK 1180012 y20
 (
  cutLoFK 1180015 T1 ro y2 (.lit (.int .i64 (.ofNat 1))) 1 fun x24_4 =>
  callK (g107 ro y0 x24_4 (.lit (.int .i64 (.ofNat 1))) (.lit (.int .i64 (.ofNat 1))) T1 n1) fun x25_5 T3 n3 =>
  g118_k2 ro y0 y1 y2 x25_5 T3 n3
 )
 (
  g118_k2 ro y0 y1 y2 (.lit (.bool false)) T1 n1
 )
noncomputable def g118_k6 (ro : List HT) (y122 : AV) (T8 : HT) (n8 : Nat) : R :=
 .ok (.val y122) T8 n8
noncomputable def g118_k5 (ro : List HT) (y0 y2 y116 : AV) (T7 : HT) (n7 : Nat) : R :=
 condK 1180048 y116
 (
  callK (g107 ro y0 y2 (.lit (.int .i64 (.ofNat 2))) (.lit (.int .i64 (.ofNat 2))) T7 n7) fun x121_13 T9 n9 =>
  g118_k6 ro x121_13 T9 n9
 )
 (
  g118_k6 ro (.lit (.bool false)) T7 n7
 )
noncomputable def g118_k7 (ro : List HT) (y0 y2 y115 : AV) (T10 : HT) (n10 : Nat) : R :=
 g118_k5 ro y0 y2 y115 T10 n10
noncomputable def g118_k4 (ro : List HT) (y0 y1 y2 y108 : AV) (T6 : HT) (n6 : Nat) : R :=
 condK 1180054 y108
 (
  g118_k5 ro y0 y2 (.lit (.bool true)) T6 n6
 )
 (
  geK Tryz.prog 3 (.tmp 110) (.const (.int .i64 (.ofNat 21))) 1180057 y1 (.lit (.int .i64 (.ofNat 21))) fun x111_14 =>
  condK 1180060 x111_14
  (
   leK Tryz.prog 3 (.tmp 113) (.const (.int .i64 (.ofNat 33))) 1180062 y1 (.lit (.int .i64 (.ofNat 33))) fun x114_15 =>
   g118_k7 ro y0 y2 x114_15 T6 n6
  )
  (
   g118_k7 ro y0 y2 (.lit (.bool false)) T6 n6
  )
 )
noncomputable def g118_k3 (ro : List HT) (y0 y1 y2 y104 : AV) (T5 : HT) (n5 : Nat) : R :=
 condK 1180065 y104
 (
  g118_k4 ro y0 y1 y2 (.lit (.bool true)) T5 n5
 )
 (
  eqK Tryz.prog 3 (.tmp 106) (.const (.int .i64 (.ofNat 19))) 1180068 y1 (.lit (.int .i64 (.ofNat 19))) fun x107_16 =>
  g118_k4 ro y0 y1 y2 x107_16 T5 n5
 )
noncomputable def g118 (ro : List HT) (a0 a1 a2 : AV) (T : HT) (nx : Nat) : R :=
 eqK Tryz.prog 3 (.tmp 8) (.const (.int .i64 (.ofNat 36))) 1180003 a1 (.lit (.int .i64 (.ofNat 36))) fun x10_1 =>
 condK 1180005 x10_1
 (
  lenSK 1180007 a2 fun x12_2 =>
  eqK Tryz.prog 3 (.tmp 12) (.const (.int .i64 (.ofNat 2))) 1180008 x12_2 (.lit (.int .i64 (.ofNat 2))) fun x13_3 =>
  condK 1180019 x13_3
  (
   iaK 1180022 a2 (.lit (.int .i64 (.ofNat 0))) 1 fun x17_6 =>
   ldK 1180023 T ro x17_6 fun x18_7 =>
   callK (scc3 4000 112 ro [a0, x18_7] T nx) fun x19_8 T4 n4 =>
   g118_k1 ro a0 a1 a2 x19_8 T4 n4
  )
  (
   g118_k1 ro a0 a1 a2 (.lit (.bool false)) T nx
  )
 )
 (
  eqK Tryz.prog 3 (.tmp 8) (.const (.int .i64 (.ofNat 37))) 1180027 a1 (.lit (.int .i64 (.ofNat 37))) fun x28_9 =>
  condK 1180029 x28_9
  (
   .bad 1180030
  )
  (
   eqK Tryz.prog 3 (.tmp 8) (.const (.int .i64 (.ofNat 43))) 1180031 a1 (.lit (.int .i64 (.ofNat 43))) fun x53_10 =>
   condK 1180033 x53_10
   (
    .bad 1180034
   )
   (
    eqK Tryz.prog 3 (.tmp 8) (.const (.int .i64 (.ofNat 44))) 1180035 a1 (.lit (.int .i64 (.ofNat 44))) fun x75_11 =>
    condK 1180037 x75_11
    (
     .bad 1180038
    )
    (
     eqK Tryz.prog 3 (.tmp 99) (.const (.int .i64 (.ofNat 13))) 1180040 a1 (.lit (.int .i64 (.ofNat 13))) fun x100_12 =>
     condK 1180070 x100_12
     (
      g118_k3 ro a0 a1 a2 (.lit (.bool true)) T nx
     )
     (
      eqK Tryz.prog 3 (.tmp 102) (.const (.int .i64 (.ofNat 18))) 1180073 a1 (.lit (.int .i64 (.ofNat 18))) fun x103_17 =>
      g118_k3 ro a0 a1 a2 x103_17 T nx
     )
    )
   )
  )
 )
theorem g118_ok (ro : List HT) (a0 a1 a2 : AV) (T : HT) (nx : Nat) : GOk Tryz.prog envE 118 [a0, a1, a2] ro T nx (g118 ro a0 a1 a2 T nx) := by
 refine GOk.of_body Tryz.func118 rfl Tryz.ntmps118 (by kernel_rfl) rfl fun r T' n' h1 w0 base ρ0 its hS hP => ?_
 have X : CtxW envE ρ0 ro r T' n' := trivial
 unfold g118 at h1
 refine sr ?_
 refine as_ ?_
 refine dn ?_
 refine CV.seq ?_
 refine sr ?_
 refine mv ?_
 refine dn ?_
 refine CV.block ?_
 refine sr ?_
 refine vy (V.eq h1 rfl rfl) fun x10_1 h2 => ?_
 refine as_ ?_
 refine dn ?_
 refine CV.cond h2 rfl (fun e h3 => ?_) (fun e h3 => ?_)
 ·
  clear h1 h2
  subst e
  refine sr ?_
  refine mv ?_
  refine vy (V.lenS h3 rfl Rcf.ls30) fun x12_2 h4 => ?_
  refine vy (V.eq h4 rfl rfl) fun x13_3 h5 => ?_
  refine mv ?_
  refine ls4 X 0 1 2 20 [(6, (.lit (.bool false)))] (g118_k1 ro) 6 ?_ ?_
  ·
   rcases condK_inv h5 with ⟨e, h11⟩ | ⟨e, h11⟩
   ·
    clear h3 h4 h5
    subst e
    refine mv ?_
    refine mv ?_
    refine vy (V.ia h11 rfl rfl Rcf.el30) fun x17_6 h12 => ?_
    refine vy (V.ld hS h12 rfl Rcf.one3) fun x18_7 h13 => ?_
    refine LV.call hS h13 (scc3_ok _ _ _ _ _ _) hP rfl rfl rfl rfl fun x19_8 T4 n4 h14 ρ its hS => ?_
    refine pu ?_
    exact la4 hS h14 ⟨rfl, rfl, rfl, rfl, rfl, trivial⟩
   ·
    clear h3 h4 h5
    subst e
    refine sk ?_
    refine sk ?_
    refine sk ?_
    refine sk ?_
    refine sk ?_
    refine pu ?_
    exact la4 hS h11 ⟨rfl, rfl, rfl, rfl, rfl, trivial⟩
  ·
   intro y0 y1 y2 y20 T1 n1 ρ its hS h6
   unfold g118_k1 at h6
   clear h3 h4 h5
   refine mv ?_
   refine ls4 X 0 1 2 26 [(6, (.lit (.bool false)))] (g118_k2 ro) 5 ?_ ?_
   ·
    rcases condK_inv h6 with ⟨e, h8⟩ | ⟨e, h8⟩
    ·
     clear h6
     subst e
     refine mv ?_
     refine mv ?_
     refine LV.cutLoF hS h8 rfl rfl rfl Rcf.el30 rfl rfl rfl fun x24_4 h9 => ?_
     refine LV.call hS h9 (g107_ok _ _ _ _ _ _ _ ) hP rfl rfl rfl rfl fun x25_5 T3 n3 h10 ρ its hS => ?_
     refine pu ?_
     exact la4 hS h10 ⟨rfl, rfl, rfl, rfl, rfl, trivial⟩
    ·
     clear h6
     subst e
     refine sk ?_
     refine sk ?_
     refine sk ?_
     refine sk ?_
     refine pu ?_
     exact la4 hS h8 ⟨rfl, rfl, rfl, rfl, rfl, trivial⟩
   ·
    intro y0 y1 y2 y26 T2 n2 ρ its hS h7
    unfold g118_k2 at h7
    clear h6
    refine as_ ?_
    refine dn ?_
    refine CV.ret ?_
    refine PV.blockR ?_
    refine PV.thenR ?_
    cases h7
    exact PV.ret (by simp) Tryz.results118 hS (RS.tmp rfl RS.nil) rfl
 ·
  clear h1 h2
  subst e
  refine sr ?_
  refine vy (V.eq h3 rfl rfl) fun x28_9 h15 => ?_
  refine as_ ?_
  refine dn ?_
  refine CV.cond h15 rfl (fun e h16 => ?_) (fun e h16 => ?_)
  ·
   clear h3 h15
   subst e
   cases h16
  ·
   clear h3 h15
   subst e
   refine sr ?_
   refine vy (V.eq h16 rfl rfl) fun x53_10 h17 => ?_
   refine as_ ?_
   refine dn ?_
   refine CV.cond h17 rfl (fun e h18 => ?_) (fun e h18 => ?_)
   ·
    clear h16 h17
    subst e
    cases h18
   ·
    clear h16 h17
    subst e
    refine sr ?_
    refine vy (V.eq h18 rfl rfl) fun x75_11 h19 => ?_
    refine as_ ?_
    refine dn ?_
    refine CV.cond h19 rfl (fun e h20 => ?_) (fun e h20 => ?_)
    ·
     clear h18 h19
     subst e
     cases h20
    ·
     clear h18 h19
     subst e
     refine CV.skip ?_
     refine PV.blockN ?_
     refine PV.thenN ?_
     refine sr ?_
     refine mv ?_
     refine vy (V.eq h20 rfl rfl) fun x100_12 h21 => ?_
     refine mv ?_
     refine ls4 X 0 1 2 104 [(6, (.lit (.bool false)))] (g118_k3 ro) 3 ?_ ?_
     ·
      rcases condK_inv h21 with ⟨e, h35⟩ | ⟨e, h35⟩
      ·
       clear h20 h21
       subst e
       refine sk ?_
       refine sk ?_
       refine pu ?_
       exact la4 hS h35 ⟨rfl, rfl, rfl, rfl, rfl, trivial⟩
      ·
       clear h20 h21
       subst e
       refine mv ?_
       refine vy (V.eq h35 rfl rfl) fun x103_17 h36 => ?_
       refine pu ?_
       exact la4 hS h36 ⟨rfl, rfl, rfl, rfl, rfl, trivial⟩
     ·
      intro y0 y1 y2 y104 T5 n5 ρ its hS h22
      unfold g118_k3 at h22
      clear h20 h21
      refine mv ?_
      refine ls4 X 0 1 2 108 [(6, (.lit (.bool false)))] (g118_k4 ro) 3 ?_ ?_
      ·
       rcases condK_inv h22 with ⟨e, h33⟩ | ⟨e, h33⟩
       ·
        clear h22
        subst e
        refine sk ?_
        refine sk ?_
        refine pu ?_
        exact la4 hS h33 ⟨rfl, rfl, rfl, rfl, rfl, trivial⟩
       ·
        clear h22
        subst e
        refine mv ?_
        refine vy (V.eq h33 rfl rfl) fun x107_16 h34 => ?_
        refine pu ?_
        exact la4 hS h34 ⟨rfl, rfl, rfl, rfl, rfl, trivial⟩
      ·
       intro y0 y1 y2 y108 T6 n6 ρ its hS h23
       unfold g118_k4 at h23
       clear h22
       refine mv ?_
       refine ls3 X 0 2 116 [(6, (.lit (.bool false)))] (g118_k5 ro) 7 ?_ ?_
       ·
        rcases condK_inv h23 with ⟨e, h28⟩ | ⟨e, h28⟩
        ·
         clear h23
         subst e
         refine sk ?_
         refine sk ?_
         refine sk ?_
         refine sk ?_
         refine sk ?_
         refine sk ?_
         refine pu ?_
         exact la3 hS h28 ⟨rfl, rfl, rfl, rfl, trivial⟩
        ·
         clear h23
         subst e
         refine mv ?_
         refine vy (V.ge h28 rfl rfl) fun x111_14 h29 => ?_
         refine mv ?_
         refine ls3 X 0 2 115 [(6, (.lit (.bool false))), (109, (.lit (.bool false)))] (g118_k7 ro) 3 ?_ ?_
         ·
          rcases condK_inv h29 with ⟨e, h31⟩ | ⟨e, h31⟩
          ·
           clear h28 h29
           subst e
           refine mv ?_
           refine vy (V.le h31 rfl rfl) fun x114_15 h32 => ?_
           refine pu ?_
           exact la3 hS h32 ⟨rfl, rfl, rfl, rfl, rfl, trivial⟩
          ·
           clear h28 h29
           subst e
           refine sk ?_
           refine sk ?_
           refine pu ?_
           exact la3 hS h31 ⟨rfl, rfl, rfl, rfl, rfl, trivial⟩
         ·
          intro y0 y2 y115 T10 n10 ρ its hS h30
          unfold g118_k7 at h30
          clear h28 h29
          refine pu ?_
          exact la3 hS h30 ⟨rfl, rfl, rfl, rfl, trivial⟩
       ·
        intro y0 y2 y116 T7 n7 ρ its hS h24
        unfold g118_k5 at h24
        clear h23
        refine as_ ?_
        refine dn ?_
        refine sr ?_
        refine mv ?_
        refine mv ?_
        refine ls1 X 122 [(6, (.lit (.bool false)))] (g118_k6 ro) 4 ?_ ?_
        ·
         rcases condK_inv h24 with ⟨e, h26⟩ | ⟨e, h26⟩
         ·
          clear h24
          subst e
          refine mv ?_
          refine mv ?_
          refine LV.call hS h26 (g107_ok _ _ _ _ _ _ _ ) hP rfl rfl rfl rfl fun x121_13 T9 n9 h27 ρ its hS => ?_
          refine pu ?_
          exact la1 hS h27 ⟨rfl, rfl, trivial⟩
         ·
          clear h24
          subst e
          refine sk ?_
          refine sk ?_
          refine sk ?_
          refine pu ?_
          exact la1 hS h26 ⟨rfl, rfl, trivial⟩
        ·
         intro y122 T8 n8 ρ its hS h25
         unfold g118_k6 at h25
         clear h24
         refine as_ ?_
         refine dn ?_
         refine CV.ret ?_
         cases h25
         exact PV.ret (by simp) Tryz.results118 hS (RS.tmp rfl RS.nil) rfl
noncomputable def g67_k7 (ro : List HT) (y0 y3 y4 y5 y109 : AV) (T11 : HT) (n11 : Nat) : R :=
 .ok (.val y109) T11 n11
noncomputable def g67_k6 (ro : List HT) (y0 y3 y4 y5 y104 : AV) (T10 : HT) (n10 : Nat) : R :=
 condK 670054 y104
 (
  callK (g107 ro y0 y5 (.lit (.int .i64 (.ofNat 3))) (.lit (.int .i64 (.ofNat 4))) T10 n10) fun x108_18 T12 n12 =>
  g67_k7 ro y0 y3 y4 y5 x108_18 T12 n12
 )
 (
  g67_k7 ro y0 y3 y4 y5 (.lit (.bool false)) T10 n10
 )
noncomputable def g67_k5 (ro : List HT) (y0 y3 y4 y5 y97 : AV) (T9 : HT) (n9 : Nat) : R :=
 condK 670060 y97
 (
  iaK 670063 y5 (.lit (.int .i64 (.ofNat 1))) 1 fun x101_19 =>
  ldK 670064 T9 ro x101_19 fun x102_20 =>
  callK (scc3 4000 112 ro [y0, x102_20] T9 n9) fun x103_21 T13 n13 =>
  g67_k6 ro y0 y3 y4 y5 x103_21 T13 n13
 )
 (
  g67_k6 ro y0 y3 y4 y5 (.lit (.bool false)) T9 n9
 )
noncomputable def g67_k9 (ro : List HT) (y0 y3 y4 y5 y145 : AV) (T15 : HT) (n15 : Nat) : R :=
 .ok (.val y145) T15 n15
noncomputable def g67_k8 (ro : List HT) (y0 y3 y4 y5 y135 : AV) (T14 : HT) (n14 : Nat) : R :=
 condK 670087 y135
 (
  lenSK 670091 y5 fun x140_28 =>
  subK Tryz.prog 3 (.tmp 140) (.const (.int .i64 (.ofNat 1))) 670092 x140_28 (.lit (.int .i64 (.ofNat 1))) fun x141_29 =>
  iaK 670093 y5 x141_29 1 fun x142_30 =>
  ldK 670094 T14 ro x142_30 fun x143_31 =>
  callK (g115 ro y0 x143_31 (.lit (.int .i64 (.ofNat 47))) T14 n14) fun x144_32 T16 n16 =>
  g67_k9 ro y0 y3 y4 y5 x144_32 T16 n16
 )
 (
  g67_k9 ro y0 y3 y4 y5 (.lit (.bool false)) T14 n14
 )
noncomputable def g67_k10 (ro : List HT) (y0 y3 y4 y5 y155 : AV) (T18 : HT) (n18 : Nat) : R :=
 .ok (.val y155) T18 n18
noncomputable def g67_k4 (ro : List HT) (y0 y3 y4 y5 y9 y55 : AV) (T7 : HT) (n7 : Nat) : R :=
 condK 670031 y55
 (
  callK (g107 ro y0 y5 (.lit (.int .i64 (.ofNat 0))) (.lit (.int .i64 (.ofNat 1))) T7 n7) fun x60_12 T8 n8 =>
  .ok (.val x60_12) T8 n8
 )
 (
  eqK Tryz.prog 3 (.tmp 9) (.const (.int .i64 (.ofNat 10))) 670036 y9 (.lit (.int .i64 (.ofNat 10))) fun x62_13 =>
  condK 670038 x62_13
  (
   .bad 670039
  )
  (
   eqK Tryz.prog 3 (.tmp 9) (.const (.int .i64 (.ofNat 14))) 670040 y9 (.lit (.int .i64 (.ofNat 14))) fun x72_14 =>
   condK 670042 x72_14
   (
    .bad 670043
   )
   (
    eqK Tryz.prog 3 (.tmp 9) (.const (.int .i64 (.ofNat 34))) 670044 y9 (.lit (.int .i64 (.ofNat 34))) fun x89_15 =>
    condK 670046 x89_15
    (
     lenSK 670048 y5 fun x91_16 =>
     eqK Tryz.prog 3 (.tmp 91) (.const (.int .i64 (.ofNat 3))) 670049 x91_16 (.lit (.int .i64 (.ofNat 3))) fun x92_17 =>
     condK 670068 x92_17
     (
      g67_k5 ro y0 y3 y4 y5 (.lit (.bool true)) T7 n7
     )
     (
      lenSK 670071 y5 fun x95_22 =>
      eqK Tryz.prog 3 (.tmp 95) (.const (.int .i64 (.ofNat 4))) 670072 x95_22 (.lit (.int .i64 (.ofNat 4))) fun x96_23 =>
      g67_k5 ro y0 y3 y4 y5 x96_23 T7 n7
     )
    )
    (
     eqK Tryz.prog 3 (.tmp 9) (.const (.int .i64 (.ofNat 42))) 670074 y9 (.lit (.int .i64 (.ofNat 42))) fun x111_24 =>
     condK 670076 x111_24
     (
      .bad 670077
     )
     (
      eqK Tryz.prog 3 (.tmp 9) (.const (.int .i64 (.ofNat 45))) 670078 y9 (.lit (.int .i64 (.ofNat 45))) fun x123_25 =>
      condK 670080 x123_25
      (
       lenSK 670082 y5 fun x125_26 =>
       gtK Tryz.prog 3 (.tmp 125) (.const (.int .i64 (.ofNat 0))) 670083 x125_26 (.lit (.int .i64 (.ofNat 0))) fun x126_27 =>
       condK 670098 x126_27
       (
        lenSK 670102 y5 fun x131_33 =>
        subK Tryz.prog 3 (.tmp 131) (.const (.int .i64 (.ofNat 1))) 670103 x131_33 (.lit (.int .i64 (.ofNat 1))) fun x132_34 =>
        cutHiK 670104 T7 ro y5 x132_34 fun x133_35 =>
        callK (g109 ro y0 x133_35 (.lit (.func (.func 114) #[] #[])) T7 n7) fun x134_36 T17 n17 =>
        g67_k8 ro y0 y3 y4 y5 x134_36 T17 n17
       )
       (
        g67_k8 ro y0 y3 y4 y5 (.lit (.bool false)) T7 n7
       )
      )
      (
       eqK Tryz.prog 3 (.tmp 9) (.const (.int .i64 (.ofNat 47))) 670108 y9 (.lit (.int .i64 (.ofNat 47))) fun x147_37 =>
       condK 670110 x147_37
       (
        lenSK 670112 y5 fun x149_38 =>
        gtK Tryz.prog 3 (.tmp 149) (.const (.int .i64 (.ofNat 0))) 670113 x149_38 (.lit (.int .i64 (.ofNat 0))) fun x150_39 =>
        condK 670116 x150_39
        (
         callK (g109 ro y0 y5 (.lit (.func (.func 116) #[] #[])) T7 n7) fun x154_40 T19 n19 =>
         g67_k10 ro y0 y3 y4 y5 x154_40 T19 n19
        )
        (
         g67_k10 ro y0 y3 y4 y5 (.lit (.bool false)) T7 n7
        )
       )
       (
        faK 670123 y3 0 fun x157_41 =>
        ldK 670124 T7 ro x157_41 fun x158_42 =>
        callK (g118 ro y0 x158_42 y5 T7 n7) fun x160_43 T20 n20 =>
        .ok (.val x160_43) T20 n20
       )
      )
     )
    )
   )
  )
 )
noncomputable def g67_k3 (ro : List HT) (y0 y3 y4 y5 y9 y41 : AV) (T5 : HT) (n5 : Nat) : R :=
 condK 670022 y41
 (
  callK (g107 ro y0 y5 (.lit (.int .i64 (.ofNat 1))) (.lit (.int .i64 (.ofNat 1))) T5 n5) fun x49_10 T6 n6 =>
  .ok (.val x49_10) T6 n6
 )
 (
  eqK Tryz.prog 3 (.tmp 9) (.const (.int .i64 (.ofNat 20))) 670027 y9 (.lit (.int .i64 (.ofNat 20))) fun x51_11 =>
  condK 670029 x51_11
  (
   .bad 670030
  )
  (
   eqK Tryz.prog 3 (.tmp 9) (.const (.int .i64 (.ofNat 41))) 670128 y9 (.lit (.int .i64 (.ofNat 41))) fun x56_44 =>
   condK 670130 x56_44
   (
    g67_k4 ro y0 y3 y4 y5 y9 (.lit (.bool true)) T5 n5
   )
   (
    eqK Tryz.prog 3 (.tmp 9) (.const (.int .i64 (.ofNat 46))) 670131 y9 (.lit (.int .i64 (.ofNat 46))) fun x57_45 =>
    g67_k4 ro y0 y3 y4 y5 y9 x57_45 T5 n5
   )
  )
 )
noncomputable def g67_k2 (ro : List HT) (y0 y3 y4 y5 y9 y24 : AV) (T3 : HT) (n3 : Nat) : R :=
 condK 670013 y24
 (
  callK (g107 ro y0 y5 (.lit (.int .i64 (.ofNat 0))) (.lit (.int .i64 (.ofNat 1048576))) T3 n3) fun x29_8 T4 n4 =>
  .ok (.val x29_8) T4 n4
 )
 (
  eqK Tryz.prog 3 (.tmp 9) (.const (.int .i64 (.ofNat 9))) 670018 y9 (.lit (.int .i64 (.ofNat 9))) fun x31_9 =>
  condK 670020 x31_9
  (
   .bad 670021
  )
  (
   eqK Tryz.prog 3 (.tmp 9) (.const (.int .i64 (.ofNat 11))) 670133 y9 (.lit (.int .i64 (.ofNat 11))) fun x42_46 =>
   condK 670135 x42_46
   (
    g67_k3 ro y0 y3 y4 y5 y9 (.lit (.bool true)) T3 n3
   )
   (
    eqK Tryz.prog 3 (.tmp 9) (.const (.int .i64 (.ofNat 12))) 670136 y9 (.lit (.int .i64 (.ofNat 12))) fun x43_47 =>
    condK 670138 x43_47
    (
     g67_k3 ro y0 y3 y4 y5 y9 (.lit (.bool true)) T3 n3
    )
    (
     eqK Tryz.prog 3 (.tmp 9) (.const (.int .i64 (.ofNat 16))) 670139 y9 (.lit (.int .i64 (.ofNat 16))) fun x44_48 =>
     condK 670141 x44_48
     (
      g67_k3 ro y0 y3 y4 y5 y9 (.lit (.bool true)) T3 n3
     )
     (
      eqK Tryz.prog 3 (.tmp 9) (.const (.int .i64 (.ofNat 17))) 670142 y9 (.lit (.int .i64 (.ofNat 17))) fun x45_49 =>
      condK 670144 x45_49
      (
       g67_k3 ro y0 y3 y4 y5 y9 (.lit (.bool true)) T3 n3
      )
      (
       eqK Tryz.prog 3 (.tmp 9) (.const (.int .i64 (.ofNat 35))) 670145 y9 (.lit (.int .i64 (.ofNat 35))) fun x46_50 =>
       g67_k3 ro y0 y3 y4 y5 y9 x46_50 T3 n3
      )
     )
    )
   )
  )
 )
noncomputable def g67_k1 (ro : List HT) (y0 y3 y4 y5 y9 y10 : AV) (T2 : HT) (n2 : Nat) : R :=
 condK 670008 y10
 (
  lenSK 670010 y5 fun x22_6 =>
  eqK Tryz.prog 3 (.tmp 22) (.const (.int .i64 (.ofNat 0))) 670011 x22_6 (.lit (.int .i64 (.ofNat 0))) fun x23_7 =>
  .ok (.val x23_7) T2 n2
 )
 (
  eqK Tryz.prog 3 (.tmp 9) (.const (.int .i64 (.ofNat 7))) 670147 y9 (.lit (.int .i64 (.ofNat 7))) fun x25_51 =>
  condK 670149 x25_51
  (
   g67_k2 ro y0 y3 y4 y5 y9 (.lit (.bool true)) T2 n2
  )
  (
   eqK Tryz.prog 3 (.tmp 9) (.const (.int .i64 (.ofNat 8))) 670150 y9 (.lit (.int .i64 (.ofNat 8))) fun x26_52 =>
   g67_k2 ro y0 y3 y4 y5 y9 x26_52 T2 n2
  )
 )
noncomputable def g67 (ro : List HT) (a0 a1 : AV) (T : HT) (nx : Nat) : R :=
 boxK 670001 T nx a1 32 fun x3_1 T1 n1 =>
 faK 670003 x3_1 4 fun x6_2 =>
 ldK 670004 T1 ro x6_2 fun x7_3 =>
 faK 670006 x3_1 0 fun x8_4 =>
 ldK 670007 T1 ro x8_4 fun x9_5 =>
 eqK Tryz.prog 3 (.tmp 9) (.const (.int .i64 (.ofNat 1))) 670152 x9_5 (.lit (.int .i64 (.ofNat 1))) fun x11_53 =>
 condK 670154 x11_53
 (
  g67_k1 ro a0 x3_1 (.lit (.bool false)) x7_3 x9_5 (.lit (.bool true)) T1 n1
 )
 (
  eqK Tryz.prog 3 (.tmp 9) (.const (.int .i64 (.ofNat 2))) 670155 x9_5 (.lit (.int .i64 (.ofNat 2))) fun x12_54 =>
  condK 670157 x12_54
  (
   g67_k1 ro a0 x3_1 (.lit (.bool false)) x7_3 x9_5 (.lit (.bool true)) T1 n1
  )
  (
   eqK Tryz.prog 3 (.tmp 9) (.const (.int .i64 (.ofNat 3))) 670158 x9_5 (.lit (.int .i64 (.ofNat 3))) fun x13_55 =>
   condK 670160 x13_55
   (
    g67_k1 ro a0 x3_1 (.lit (.bool false)) x7_3 x9_5 (.lit (.bool true)) T1 n1
   )
   (
    eqK Tryz.prog 3 (.tmp 9) (.const (.int .i64 (.ofNat 4))) 670161 x9_5 (.lit (.int .i64 (.ofNat 4))) fun x14_56 =>
    condK 670163 x14_56
    (
     g67_k1 ro a0 x3_1 (.lit (.bool false)) x7_3 x9_5 (.lit (.bool true)) T1 n1
    )
    (
     eqK Tryz.prog 3 (.tmp 9) (.const (.int .i64 (.ofNat 5))) 670164 x9_5 (.lit (.int .i64 (.ofNat 5))) fun x15_57 =>
     condK 670166 x15_57
     (
      g67_k1 ro a0 x3_1 (.lit (.bool false)) x7_3 x9_5 (.lit (.bool true)) T1 n1
     )
     (
      eqK Tryz.prog 3 (.tmp 9) (.const (.int .i64 (.ofNat 6))) 670167 x9_5 (.lit (.int .i64 (.ofNat 6))) fun x16_58 =>
      condK 670169 x16_58
      (
       g67_k1 ro a0 x3_1 (.lit (.bool false)) x7_3 x9_5 (.lit (.bool true)) T1 n1
      )
      (
       eqK Tryz.prog 3 (.tmp 9) (.const (.int .i64 (.ofNat 15))) 670170 x9_5 (.lit (.int .i64 (.ofNat 15))) fun x17_59 =>
       condK 670172 x17_59
       (
        g67_k1 ro a0 x3_1 (.lit (.bool false)) x7_3 x9_5 (.lit (.bool true)) T1 n1
       )
       (
        eqK Tryz.prog 3 (.tmp 9) (.const (.int .i64 (.ofNat 38))) 670173 x9_5 (.lit (.int .i64 (.ofNat 38))) fun x18_60 =>
        condK 670175 x18_60
        (
         g67_k1 ro a0 x3_1 (.lit (.bool false)) x7_3 x9_5 (.lit (.bool true)) T1 n1
        )
        (
         eqK Tryz.prog 3 (.tmp 9) (.const (.int .i64 (.ofNat 39))) 670176 x9_5 (.lit (.int .i64 (.ofNat 39))) fun x19_61 =>
         condK 670178 x19_61
         (
          g67_k1 ro a0 x3_1 (.lit (.bool false)) x7_3 x9_5 (.lit (.bool true)) T1 n1
         )
         (
          eqK Tryz.prog 3 (.tmp 9) (.const (.int .i64 (.ofNat 40))) 670179 x9_5 (.lit (.int .i64 (.ofNat 40))) fun x20_62 =>
          g67_k1 ro a0 x3_1 (.lit (.bool false)) x7_3 x9_5 x20_62 T1 n1
         )
        )
       )
      )
     )
    )
   )
  )
 )
theorem g67_ok (ro : List HT) (a0 a1 : AV) (T : HT) (nx : Nat) : GOk Tryz.prog envE 67 [a0, a1] ro T nx (g67 ro a0 a1 T nx) := by
 refine GOk.of_body Tryz.func67 rfl Tryz.ntmps67 (by kernel_rfl) rfl fun r T' n' h1 w0 base ρ0 its hS hP => ?_
 have X : CtxW envE ρ0 ro r T' n' := trivial
 unfold g67 at h1
 refine sr ?_
 refine LV.box hS h1 rfl rfl rfl rfl rfl fun x3_1 T1 n1 h2 ρ its hS hdr => ?_
 refine as_ ?_
 refine dn ?_
 refine sr ?_
 refine vy (V.fa h2 rfl Rcf.fo32_4) fun x6_2 h3 => ?_
 refine vy (V.ld hS h3 rfl Rcf.one30) fun x7_3 h4 => ?_
 refine as_ ?_
 refine dn ?_
 refine CV.seq ?_
 refine sr ?_
 refine vy (V.fa h4 rfl Rcf.fo32_0) fun x8_4 h5 => ?_
 refine vy (V.ld hS h5 rfl Rcf.one3) fun x9_5 h6 => ?_
 refine dn ?_
 refine CV.block ?_
 refine cs6 X 0 3 4 5 9 10 [] (g67_k1 ro) ?_ ?_
 ·
  refine sr ?_
  refine vy (V.eq h6 rfl rfl) fun x11_53 h88 => ?_
  refine as_ ?_
  refine dn ?_
  refine CV.cond h88 rfl (fun e h89 => ?_) (fun e h89 => ?_)
  ·
   clear h1 h2 h3 h4 h5 h6 h88
   subst e
   refine CV.skip ?_
   exact pa6 hS h89 ⟨rfl, rfl, rfl, rfl, rfl, rfl, trivial⟩
  ·
   clear h1 h2 h3 h4 h5 h6 h88
   subst e
   refine sr ?_
   refine vy (V.eq h89 rfl rfl) fun x12_54 h90 => ?_
   refine as_ ?_
   refine dn ?_
   refine CV.cond h90 rfl (fun e h91 => ?_) (fun e h91 => ?_)
   ·
    clear h89 h90
    subst e
    refine CV.skip ?_
    exact pa6 hS h91 ⟨rfl, rfl, rfl, rfl, rfl, rfl, trivial⟩
   ·
    clear h89 h90
    subst e
    refine sr ?_
    refine vy (V.eq h91 rfl rfl) fun x13_55 h92 => ?_
    refine as_ ?_
    refine dn ?_
    refine CV.cond h92 rfl (fun e h93 => ?_) (fun e h93 => ?_)
    ·
     clear h91 h92
     subst e
     refine CV.skip ?_
     exact pa6 hS h93 ⟨rfl, rfl, rfl, rfl, rfl, rfl, trivial⟩
    ·
     clear h91 h92
     subst e
     refine sr ?_
     refine vy (V.eq h93 rfl rfl) fun x14_56 h94 => ?_
     refine as_ ?_
     refine dn ?_
     refine CV.cond h94 rfl (fun e h95 => ?_) (fun e h95 => ?_)
     ·
      clear h93 h94
      subst e
      refine CV.skip ?_
      exact pa6 hS h95 ⟨rfl, rfl, rfl, rfl, rfl, rfl, trivial⟩
     ·
      clear h93 h94
      subst e
      refine sr ?_
      refine vy (V.eq h95 rfl rfl) fun x15_57 h96 => ?_
      refine as_ ?_
      refine dn ?_
      refine CV.cond h96 rfl (fun e h97 => ?_) (fun e h97 => ?_)
      ·
       clear h95 h96
       subst e
       refine CV.skip ?_
       exact pa6 hS h97 ⟨rfl, rfl, rfl, rfl, rfl, rfl, trivial⟩
      ·
       clear h95 h96
       subst e
       refine sr ?_
       refine vy (V.eq h97 rfl rfl) fun x16_58 h98 => ?_
       refine as_ ?_
       refine dn ?_
       refine CV.cond h98 rfl (fun e h99 => ?_) (fun e h99 => ?_)
       ·
        clear h97 h98
        subst e
        refine CV.skip ?_
        exact pa6 hS h99 ⟨rfl, rfl, rfl, rfl, rfl, rfl, trivial⟩
       ·
        clear h97 h98
        subst e
        refine sr ?_
        refine vy (V.eq h99 rfl rfl) fun x17_59 h100 => ?_
        refine as_ ?_
        refine dn ?_
        refine CV.cond h100 rfl (fun e h101 => ?_) (fun e h101 => ?_)
        ·
         clear h99 h100
         subst e
         refine CV.skip ?_
         exact pa6 hS h101 ⟨rfl, rfl, rfl, rfl, rfl, rfl, trivial⟩
        ·
         clear h99 h100
         subst e
         refine sr ?_
         refine vy (V.eq h101 rfl rfl) fun x18_60 h102 => ?_
         refine as_ ?_
         refine dn ?_
         refine CV.cond h102 rfl (fun e h103 => ?_) (fun e h103 => ?_)
         ·
          clear h101 h102
          subst e
          refine CV.skip ?_
          exact pa6 hS h103 ⟨rfl, rfl, rfl, rfl, rfl, rfl, trivial⟩
         ·
          clear h101 h102
          subst e
          refine sr ?_
          refine vy (V.eq h103 rfl rfl) fun x19_61 h104 => ?_
          refine as_ ?_
          refine dn ?_
          refine CV.cond h104 rfl (fun e h105 => ?_) (fun e h105 => ?_)
          ·
           clear h103 h104
           subst e
           refine CV.skip ?_
           exact pa6 hS h105 ⟨rfl, rfl, rfl, rfl, rfl, rfl, trivial⟩
          ·
           clear h103 h104
           subst e
           refine CV.region ?_
           refine vy (V.eq h105 rfl rfl) fun x20_62 h106 => ?_
           refine as_ ?_
           refine LV.done ?_
           exact pa6 hS h106 ⟨rfl, rfl, rfl, rfl, rfl, rfl, trivial⟩
 ·
  intro y0 y3 y4 y5 y9 y10 T2 n2 ρ its hS h7
  unfold g67_k1 at h7
  clear h1 h2 h3 h4 h5 h6
  refine CV.cond h7 rfl (fun e h8 => ?_) (fun e h8 => ?_)
  ·
   clear h7
   subst e
   refine sr ?_
   refine mv ?_
   refine vy (V.lenS h8 rfl Rcf.ls30) fun x22_6 h9 => ?_
   refine vy (V.eq h9 rfl rfl) fun x23_7 h10 => ?_
   refine as_ ?_
   refine dn ?_
   refine CV.ret ?_
   refine PV.blockR ?_
   refine PV.thenR ?_
   cases h10
   exact PV.ret (by simp) Tryz.results67 hS (RS.tmp rfl RS.nil) rfl
  ·
   clear h7
   subst e
   refine cs6 X 0 3 4 5 9 24 [] (g67_k2 ro) ?_ ?_
   ·
    refine sr ?_
    refine vy (V.eq h8 rfl rfl) fun x25_51 h85 => ?_
    refine as_ ?_
    refine dn ?_
    refine CV.cond h85 rfl (fun e h86 => ?_) (fun e h86 => ?_)
    ·
     clear h8 h85
     subst e
     refine CV.skip ?_
     exact pa6 hS h86 ⟨rfl, rfl, rfl, rfl, rfl, rfl, trivial⟩
    ·
     clear h8 h85
     subst e
     refine CV.region ?_
     refine vy (V.eq h86 rfl rfl) fun x26_52 h87 => ?_
     refine as_ ?_
     refine LV.done ?_
     exact pa6 hS h87 ⟨rfl, rfl, rfl, rfl, rfl, rfl, trivial⟩
   ·
    intro y0 y3 y4 y5 y9 y24 T3 n3 ρ its hS h11
    unfold g67_k2 at h11
    clear h8
    refine CV.cond h11 rfl (fun e h12 => ?_) (fun e h12 => ?_)
    ·
     clear h11
     subst e
     refine sr ?_
     refine mv ?_
     refine mv ?_
     refine LV.call hS h12 (g107_ok _ _ _ _ _ _ _ ) hP rfl rfl rfl rfl fun x29_8 T4 n4 h13 ρ its hS => ?_
     refine as_ ?_
     refine dn ?_
     refine CV.ret ?_
     refine PV.blockR ?_
     refine PV.thenR ?_
     cases h13
     exact PV.ret (by simp) Tryz.results67 hS (RS.tmp rfl RS.nil) rfl
    ·
     clear h11
     subst e
     refine sr ?_
     refine vy (V.eq h12 rfl rfl) fun x31_9 h14 => ?_
     refine as_ ?_
     refine dn ?_
     refine CV.cond h14 rfl (fun e h15 => ?_) (fun e h15 => ?_)
     ·
      clear h12 h14
      subst e
      cases h15
     ·
      clear h12 h14
      subst e
      refine cs6 X 0 3 4 5 9 41 [] (g67_k3 ro) ?_ ?_
      ·
       refine sr ?_
       refine vy (V.eq h15 rfl rfl) fun x42_46 h76 => ?_
       refine as_ ?_
       refine dn ?_
       refine CV.cond h76 rfl (fun e h77 => ?_) (fun e h77 => ?_)
       ·
        clear h15 h76
        subst e
        refine CV.skip ?_
        exact pa6 hS h77 ⟨rfl, rfl, rfl, rfl, rfl, rfl, trivial⟩
       ·
        clear h15 h76
        subst e
        refine sr ?_
        refine vy (V.eq h77 rfl rfl) fun x43_47 h78 => ?_
        refine as_ ?_
        refine dn ?_
        refine CV.cond h78 rfl (fun e h79 => ?_) (fun e h79 => ?_)
        ·
         clear h77 h78
         subst e
         refine CV.skip ?_
         exact pa6 hS h79 ⟨rfl, rfl, rfl, rfl, rfl, rfl, trivial⟩
        ·
         clear h77 h78
         subst e
         refine sr ?_
         refine vy (V.eq h79 rfl rfl) fun x44_48 h80 => ?_
         refine as_ ?_
         refine dn ?_
         refine CV.cond h80 rfl (fun e h81 => ?_) (fun e h81 => ?_)
         ·
          clear h79 h80
          subst e
          refine CV.skip ?_
          exact pa6 hS h81 ⟨rfl, rfl, rfl, rfl, rfl, rfl, trivial⟩
         ·
          clear h79 h80
          subst e
          refine sr ?_
          refine vy (V.eq h81 rfl rfl) fun x45_49 h82 => ?_
          refine as_ ?_
          refine dn ?_
          refine CV.cond h82 rfl (fun e h83 => ?_) (fun e h83 => ?_)
          ·
           clear h81 h82
           subst e
           refine CV.skip ?_
           exact pa6 hS h83 ⟨rfl, rfl, rfl, rfl, rfl, rfl, trivial⟩
          ·
           clear h81 h82
           subst e
           refine CV.region ?_
           refine vy (V.eq h83 rfl rfl) fun x46_50 h84 => ?_
           refine as_ ?_
           refine LV.done ?_
           exact pa6 hS h84 ⟨rfl, rfl, rfl, rfl, rfl, rfl, trivial⟩
      ·
       intro y0 y3 y4 y5 y9 y41 T5 n5 ρ its hS h16
       unfold g67_k3 at h16
       clear h15
       refine CV.cond h16 rfl (fun e h17 => ?_) (fun e h17 => ?_)
       ·
        clear h16
        subst e
        refine sr ?_
        refine mv ?_
        refine mv ?_
        refine LV.call hS h17 (g107_ok _ _ _ _ _ _ _ ) hP rfl rfl rfl rfl fun x49_10 T6 n6 h18 ρ its hS => ?_
        refine as_ ?_
        refine dn ?_
        refine CV.ret ?_
        refine PV.blockR ?_
        refine PV.thenR ?_
        cases h18
        exact PV.ret (by simp) Tryz.results67 hS (RS.tmp rfl RS.nil) rfl
       ·
        clear h16
        subst e
        refine sr ?_
        refine vy (V.eq h17 rfl rfl) fun x51_11 h19 => ?_
        refine as_ ?_
        refine dn ?_
        refine CV.cond h19 rfl (fun e h20 => ?_) (fun e h20 => ?_)
        ·
         clear h17 h19
         subst e
         cases h20
        ·
         clear h17 h19
         subst e
         refine cs6 X 0 3 4 5 9 55 [] (g67_k4 ro) ?_ ?_
         ·
          refine sr ?_
          refine vy (V.eq h20 rfl rfl) fun x56_44 h73 => ?_
          refine as_ ?_
          refine dn ?_
          refine CV.cond h73 rfl (fun e h74 => ?_) (fun e h74 => ?_)
          ·
           clear h20 h73
           subst e
           refine CV.skip ?_
           exact pa6 hS h74 ⟨rfl, rfl, rfl, rfl, rfl, rfl, trivial⟩
          ·
           clear h20 h73
           subst e
           refine CV.region ?_
           refine vy (V.eq h74 rfl rfl) fun x57_45 h75 => ?_
           refine as_ ?_
           refine LV.done ?_
           exact pa6 hS h75 ⟨rfl, rfl, rfl, rfl, rfl, rfl, trivial⟩
         ·
          intro y0 y3 y4 y5 y9 y55 T7 n7 ρ its hS h21
          unfold g67_k4 at h21
          clear h20
          refine CV.cond h21 rfl (fun e h22 => ?_) (fun e h22 => ?_)
          ·
           clear h21
           subst e
           refine sr ?_
           refine mv ?_
           refine mv ?_
           refine LV.call hS h22 (g107_ok _ _ _ _ _ _ _ ) hP rfl rfl rfl rfl fun x60_12 T8 n8 h23 ρ its hS => ?_
           refine as_ ?_
           refine dn ?_
           refine CV.ret ?_
           refine PV.blockR ?_
           refine PV.thenR ?_
           cases h23
           exact PV.ret (by simp) Tryz.results67 hS (RS.tmp rfl RS.nil) rfl
          ·
           clear h21
           subst e
           refine sr ?_
           refine vy (V.eq h22 rfl rfl) fun x62_13 h24 => ?_
           refine as_ ?_
           refine dn ?_
           refine CV.cond h24 rfl (fun e h25 => ?_) (fun e h25 => ?_)
           ·
            clear h22 h24
            subst e
            cases h25
           ·
            clear h22 h24
            subst e
            refine sr ?_
            refine vy (V.eq h25 rfl rfl) fun x72_14 h26 => ?_
            refine as_ ?_
            refine dn ?_
            refine CV.cond h26 rfl (fun e h27 => ?_) (fun e h27 => ?_)
            ·
             clear h25 h26
             subst e
             cases h27
            ·
             clear h25 h26
             subst e
             refine sr ?_
             refine vy (V.eq h27 rfl rfl) fun x89_15 h28 => ?_
             refine as_ ?_
             refine dn ?_
             refine CV.cond h28 rfl (fun e h29 => ?_) (fun e h29 => ?_)
             ·
              clear h27 h28
              subst e
              refine sr ?_
              refine mv ?_
              refine vy (V.lenS h29 rfl Rcf.ls30) fun x91_16 h30 => ?_
              refine vy (V.eq h30 rfl rfl) fun x92_17 h31 => ?_
              refine mv ?_
              refine ls5 X 0 3 4 5 97 [] (g67_k5 ro) 4 ?_ ?_
              ·
               rcases condK_inv h31 with ⟨e, h41⟩ | ⟨e, h41⟩
               ·
                clear h29 h30 h31
                subst e
                refine sk ?_
                refine sk ?_
                refine sk ?_
                refine pu ?_
                exact la5 hS h41 ⟨rfl, rfl, rfl, rfl, rfl, trivial⟩
               ·
                clear h29 h30 h31
                subst e
                refine mv ?_
                refine vy (V.lenS h41 rfl Rcf.ls30) fun x95_22 h42 => ?_
                refine vy (V.eq h42 rfl rfl) fun x96_23 h43 => ?_
                refine pu ?_
                exact la5 hS h43 ⟨rfl, rfl, rfl, rfl, rfl, trivial⟩
              ·
               intro y0 y3 y4 y5 y97 T9 n9 ρ its hS h32
               unfold g67_k5 at h32
               clear h29 h30 h31
               refine mv ?_
               refine ls5 X 0 3 4 5 104 [] (g67_k6 ro) 6 ?_ ?_
               ·
                rcases condK_inv h32 with ⟨e, h37⟩ | ⟨e, h37⟩
                ·
                 clear h32
                 subst e
                 refine mv ?_
                 refine mv ?_
                 refine vy (V.ia h37 rfl rfl Rcf.el30) fun x101_19 h38 => ?_
                 refine vy (V.ld hS h38 rfl Rcf.one3) fun x102_20 h39 => ?_
                 refine LV.call hS h39 (scc3_ok _ _ _ _ _ _) hP rfl rfl rfl rfl fun x103_21 T13 n13 h40 ρ its hS => ?_
                 refine pu ?_
                 exact la5 hS h40 ⟨rfl, rfl, rfl, rfl, rfl, trivial⟩
                ·
                 clear h32
                 subst e
                 refine sk ?_
                 refine sk ?_
                 refine sk ?_
                 refine sk ?_
                 refine sk ?_
                 refine pu ?_
                 exact la5 hS h37 ⟨rfl, rfl, rfl, rfl, rfl, trivial⟩
               ·
                intro y0 y3 y4 y5 y104 T10 n10 ρ its hS h33
                unfold g67_k6 at h33
                clear h32
                refine mv ?_
                refine ls5 X 0 3 4 5 109 [] (g67_k7 ro) 4 ?_ ?_
                ·
                 rcases condK_inv h33 with ⟨e, h35⟩ | ⟨e, h35⟩
                 ·
                  clear h33
                  subst e
                  refine mv ?_
                  refine mv ?_
                  refine LV.call hS h35 (g107_ok _ _ _ _ _ _ _ ) hP rfl rfl rfl rfl fun x108_18 T12 n12 h36 ρ its hS => ?_
                  refine pu ?_
                  exact la5 hS h36 ⟨rfl, rfl, rfl, rfl, rfl, trivial⟩
                 ·
                  clear h33
                  subst e
                  refine sk ?_
                  refine sk ?_
                  refine sk ?_
                  refine pu ?_
                  exact la5 hS h35 ⟨rfl, rfl, rfl, rfl, rfl, trivial⟩
                ·
                 intro y0 y3 y4 y5 y109 T11 n11 ρ its hS h34
                 unfold g67_k7 at h34
                 clear h33
                 refine as_ ?_
                 refine dn ?_
                 refine CV.ret ?_
                 refine PV.blockR ?_
                 refine PV.thenR ?_
                 cases h34
                 exact PV.ret (by simp) Tryz.results67 hS (RS.tmp rfl RS.nil) rfl
             ·
              clear h27 h28
              subst e
              refine sr ?_
              refine vy (V.eq h29 rfl rfl) fun x111_24 h44 => ?_
              refine as_ ?_
              refine dn ?_
              refine CV.cond h44 rfl (fun e h45 => ?_) (fun e h45 => ?_)
              ·
               clear h29 h44
               subst e
               cases h45
              ·
               clear h29 h44
               subst e
               refine sr ?_
               refine vy (V.eq h45 rfl rfl) fun x123_25 h46 => ?_
               refine as_ ?_
               refine dn ?_
               refine CV.cond h46 rfl (fun e h47 => ?_) (fun e h47 => ?_)
               ·
                clear h45 h46
                subst e
                refine sr ?_
                refine mv ?_
                refine vy (V.lenS h47 rfl Rcf.ls30) fun x125_26 h48 => ?_
                refine vy (V.gt h48 rfl rfl) fun x126_27 h49 => ?_
                refine mv ?_
                refine ls5 X 0 3 4 5 135 [] (g67_k8 ro) 8 ?_ ?_
                ·
                 rcases condK_inv h49 with ⟨e, h58⟩ | ⟨e, h58⟩
                 ·
                  clear h47 h48 h49
                  subst e
                  refine mv ?_
                  refine mv ?_
                  refine mv ?_
                  refine vy (V.lenS h58 rfl Rcf.ls30) fun x131_33 h59 => ?_
                  refine vy (V.sub h59 rfl rfl) fun x132_34 h60 => ?_
                  refine vy (V.cutHi hS h60 rfl rfl Rcf.el30) fun x133_35 h61 => ?_
                  refine LV.call hS h61 (g109_ok _ _ _ _ _ _ ) hP rfl rfl rfl rfl fun x134_36 T17 n17 h62 ρ its hS => ?_
                  refine pu ?_
                  exact la5 hS h62 ⟨rfl, rfl, rfl, rfl, rfl, trivial⟩
                 ·
                  clear h47 h48 h49
                  subst e
                  refine sk ?_
                  refine sk ?_
                  refine sk ?_
                  refine sk ?_
                  refine sk ?_
                  refine sk ?_
                  refine sk ?_
                  refine pu ?_
                  exact la5 hS h58 ⟨rfl, rfl, rfl, rfl, rfl, trivial⟩
                ·
                 intro y0 y3 y4 y5 y135 T14 n14 ρ its hS h50
                 unfold g67_k8 at h50
                 clear h47 h48 h49
                 refine mv ?_
                 refine ls5 X 0 3 4 5 145 [] (g67_k9 ro) 9 ?_ ?_
                 ·
                  rcases condK_inv h50 with ⟨e, h52⟩ | ⟨e, h52⟩
                  ·
                   clear h50
                   subst e
                   refine mv ?_
                   refine mv ?_
                   refine mv ?_
                   refine vy (V.lenS h52 rfl Rcf.ls30) fun x140_28 h53 => ?_
                   refine vy (V.sub h53 rfl rfl) fun x141_29 h54 => ?_
                   refine vy (V.ia h54 rfl rfl Rcf.el30) fun x142_30 h55 => ?_
                   refine vy (V.ld hS h55 rfl Rcf.one3) fun x143_31 h56 => ?_
                   refine LV.call hS h56 (g115_ok _ _ _ _ _ _ ) hP rfl rfl rfl rfl fun x144_32 T16 n16 h57 ρ its hS => ?_
                   refine pu ?_
                   exact la5 hS h57 ⟨rfl, rfl, rfl, rfl, rfl, trivial⟩
                  ·
                   clear h50
                   subst e
                   refine sk ?_
                   refine sk ?_
                   refine sk ?_
                   refine sk ?_
                   refine sk ?_
                   refine sk ?_
                   refine sk ?_
                   refine sk ?_
                   refine pu ?_
                   exact la5 hS h52 ⟨rfl, rfl, rfl, rfl, rfl, trivial⟩
                 ·
                  intro y0 y3 y4 y5 y145 T15 n15 ρ its hS h51
                  unfold g67_k9 at h51
                  clear h50
                  refine as_ ?_
                  refine dn ?_
                  refine CV.ret ?_
                  refine PV.blockR ?_
                  refine PV.thenR ?_
                  cases h51
                  exact PV.ret (by simp) Tryz.results67 hS (RS.tmp rfl RS.nil) rfl
               ·
                clear h45 h46
                subst e
                refine sr ?_
                refine vy (V.eq h47 rfl rfl) fun x147_37 h63 => ?_
                refine as_ ?_
                refine dn ?_
                refine CV.cond h63 rfl (fun e h64 => ?_) (fun e h64 => ?_)
                ·
                 clear h47 h63
                 subst e
                 refine sr ?_
                 refine mv ?_
                 refine vy (V.lenS h64 rfl Rcf.ls30) fun x149_38 h65 => ?_
                 refine vy (V.gt h65 rfl rfl) fun x150_39 h66 => ?_
                 refine mv ?_
                 refine ls5 X 0 3 4 5 155 [] (g67_k10 ro) 4 ?_ ?_
                 ·
                  rcases condK_inv h66 with ⟨e, h68⟩ | ⟨e, h68⟩
                  ·
                   clear h64 h65 h66
                   subst e
                   refine mv ?_
                   refine mv ?_
                   refine LV.call hS h68 (g109_ok _ _ _ _ _ _ ) hP rfl rfl rfl rfl fun x154_40 T19 n19 h69 ρ its hS => ?_
                   refine pu ?_
                   exact la5 hS h69 ⟨rfl, rfl, rfl, rfl, rfl, trivial⟩
                  ·
                   clear h64 h65 h66
                   subst e
                   refine sk ?_
                   refine sk ?_
                   refine sk ?_
                   refine pu ?_
                   exact la5 hS h68 ⟨rfl, rfl, rfl, rfl, rfl, trivial⟩
                 ·
                  intro y0 y3 y4 y5 y155 T18 n18 ρ its hS h67
                  unfold g67_k10 at h67
                  clear h64 h65 h66
                  refine as_ ?_
                  refine dn ?_
                  refine CV.ret ?_
                  refine PV.blockR ?_
                  refine PV.thenR ?_
                  cases h67
                  exact PV.ret (by simp) Tryz.results67 hS (RS.tmp rfl RS.nil) rfl
                ·
                 clear h47 h63
                 subst e
                 refine CV.skip ?_
                 refine PV.blockN ?_
                 refine PV.thenN ?_
                 refine sr ?_
                 refine mv ?_
                 refine vy (V.fa h64 rfl Rcf.fo32_0) fun x157_41 h70 => ?_
                 refine vy (V.ld hS h70 rfl Rcf.one3) fun x158_42 h71 => ?_
                 refine mv ?_
                 refine LV.call hS h71 (g118_ok _ _ _ _ _ _ ) hP rfl rfl rfl rfl fun x160_43 T20 n20 h72 ρ its hS => ?_
                 refine as_ ?_
                 refine dn ?_
                 refine CV.ret ?_
                 cases h72
                 exact PV.ret (by simp) Tryz.results67 hS (RS.tmp rfl RS.nil) rfl
noncomputable def g68_k2 (ro : List HT) (lp1 : AV → AV → AV → AV → HT → Nat → R) (y0 y2 y5 y6 y18 : AV) (T2 : HT) (n2 : Nat) : R :=
 condK 680015 y18
 (
  .bad 680016
 )
 (
  addK Tryz.prog 3 (.tmp 6) (.const (.int .i64 (.ofNat 1))) 680017 y6 (.lit (.int .i64 (.ofNat 1))) fun x19_5 =>
  lp1 y0 y2 y5 x19_5 T2 n2
 )
noncomputable def g68_k3 (ro : List HT) (y2 y35 : AV) (T3 : HT) (n3 : Nat) : R :=
 .ok (.val y35) T3 n3
noncomputable def g68_k5 (ro : List HT) (y2 y34 : AV) (T5 : HT) (n5 : Nat) : R :=
 g68_k3 ro y2 y34 T5 n5
noncomputable def g68_k4 (ro : List HT) (y0 y2 y29 : AV) (T4 : HT) (n4 : Nat) : R :=
 condK 680037 y29
 (
  lenTK 680039 y0 fun x32_10 =>
  leK Tryz.prog 3 (.tmp 32) (.const (.int .i64 (.ofNat 600))) 680040 x32_10 (.lit (.int .i64 (.ofNat 600))) fun x33_11 =>
  g68_k5 ro y2 x33_11 T4 n4
 )
 (
  g68_k5 ro y2 (.lit (.bool false)) T4 n4
 )
noncomputable def g68_b1 (ro : List HT) (lp1 : AV → AV → AV → AV → HT → Nat → R) (y0 y2 y5 y6 : AV) (T1 : HT) (n1 : Nat) : R :=
 ltK Tryz.prog 3 (.tmp 6) (.tmp 5) 680006 y6 y5 fun x7_2 =>
 condK 680007 x7_2
 (
  ixK 680012 y0 y6 fun x11_3 =>
  ltK Tryz.prog 5 (.tmp 11) (.const (.int .u8 (.ofNat 48))) 680013 x11_3 (.lit (.int .u8 (.ofNat 48))) fun x12_4 =>
  condK 680019 x12_4
  (
   g68_k2 ro lp1 y0 y2 y5 y6 (.lit (.bool true)) T1 n1
  )
  (
   ixK 680023 y0 y6 fun x16_6 =>
   gtK Tryz.prog 5 (.tmp 16) (.const (.int .u8 (.ofNat 57))) 680024 x16_6 (.lit (.int .u8 (.ofNat 57))) fun x17_7 =>
   g68_k2 ro lp1 y0 y2 y5 y6 x17_7 T1 n1
  )
 )
 (
  eqSK Tryz.prog 9 (.tmp 20) (.const (.string ⟨⟨[48]⟩⟩)) 680027 y0 (.lit (.string ⟨⟨[48]⟩⟩)) fun x21_8 =>
  condK 680030 x21_8
  (
   g68_k3 ro y2 (.lit (.bool true)) T1 n1
  )
  (
   neSK Tryz.prog 9 (.tmp 23) (.const (.string ⟨⟨[]⟩⟩)) 680033 y0 (.lit (.string ⟨⟨[]⟩⟩)) fun x24_9 =>
   condK 680043 x24_9
   (
    ixK 680045 y0 (.lit (.int .i64 (.ofNat 0))) fun x27_12 =>
    neK Tryz.prog 5 (.tmp 27) (.const (.int .u8 (.ofNat 48))) 680046 x27_12 (.lit (.int .u8 (.ofNat 48))) fun x28_13 =>
    g68_k4 ro y0 y2 x28_13 T1 n1
   )
   (
    g68_k4 ro y0 y2 (.lit (.bool false)) T1 n1
   )
  )
 )
noncomputable def g68 (ro : List HT) (a0 : AV) (T : HT) (nx : Nat) : R :=
 lenTK 680003 a0 fun x5_1 =>
 lpf4 680005 (g68_b1 ro) 100000 a0 (.lit (.bool false)) x5_1 (.lit (.int .i64 (.ofNat 0))) T nx
theorem g68_ok (ro : List HT) (a0 : AV) (T : HT) (nx : Nat) : GOk Tryz.prog envE 68 [a0] ro T nx (g68 ro a0 T nx) := by
 refine GOk.of_body Tryz.func68 rfl Tryz.ntmps68 (by kernel_rfl) rfl fun r T' n' h1 w0 base ρ0 its hS hP => ?_
 have X : CtxW envE ρ0 ro r T' n' := trivial
 unfold g68 at h1
 refine sr ?_
 refine as_ ?_
 refine dn ?_
 refine CV.seq ?_
 refine sr ?_
 refine mv ?_
 refine vy (V.lenT h1 rfl Rcf.ls9) fun x5_1 h2 => ?_
 refine mv ?_
 refine dn ?_
 refine CV.block ?_
 refine cl4 X 0 2 5 6 [] hS h2 ⟨rfl, rfl, rfl, rfl, trivial⟩ ?_
 intro f1 y0 y2 y5 y6 T1 n1 ρ its hS h3
 unfold g68_b1 at h3
 clear h1 h2
 refine sr ?_
 refine vy (V.lt h3 rfl rfl) fun x7_2 h4 => ?_
 refine dn ?_
 refine CV.seq ?_
 refine CV.cond h4 rfl (fun e h5 => ?_) (fun e h5 => ?_)
 ·
  clear h3 h4
  subst e
  refine CV.skip ?_
  refine PV.thenN ?_
  refine CV.seq ?_
  refine CV.block ?_
  refine sr ?_
  refine mv ?_
  refine as_ ?_
  refine dn ?_
  refine sr ?_
  refine mv ?_
  refine mv ?_
  refine vy (V.ix h5 rfl rfl Rcf.st9) fun x11_3 h6 => ?_
  refine vy (V.lt h6 rfl rfl) fun x12_4 h7 => ?_
  refine mv ?_
  refine ls5 X 0 2 5 6 18 [] (g68_k2 ro (lpf4 680005 (g68_b1 ro) f1)) 5 ?_ ?_
  ·
   rcases condK_inv h7 with ⟨e, h11⟩ | ⟨e, h11⟩
   ·
    clear h5 h6 h7
    subst e
    refine sk ?_
    refine sk ?_
    refine sk ?_
    refine sk ?_
    refine pu ?_
    exact la5 hS h11 ⟨rfl, rfl, rfl, rfl, rfl, trivial⟩
   ·
    clear h5 h6 h7
    subst e
    refine mv ?_
    refine mv ?_
    refine vy (V.ix h11 rfl rfl Rcf.st9) fun x16_6 h12 => ?_
    refine vy (V.gt h12 rfl rfl) fun x17_7 h13 => ?_
    refine pu ?_
    exact la5 hS h13 ⟨rfl, rfl, rfl, rfl, rfl, trivial⟩
  ·
   intro y0 y2 y5 y6 y18 T2 n2 ρ its hS h8
   unfold g68_k2 at h8
   clear h5 h6 h7
   refine dn ?_
   refine CV.cond h8 rfl (fun e h9 => ?_) (fun e h9 => ?_)
   ·
    clear h8
    subst e
    cases h9
   ·
    clear h8
    subst e
    refine CV.skip ?_
    refine PV.blockN ?_
    refine PV.thenN ?_
    refine CV.region ?_
    refine vy (V.add h9 rfl rfl) fun x19_5 h10 => ?_
    refine mv ?_
    refine LV.done ?_
    exact pb4 hS h10 ⟨rfl, rfl, rfl, rfl, trivial⟩
 ·
  clear h3 h4
  subst e
  refine CV.exit ?_
  refine PV.thenE ?_
  refine PV.thenE ?_
  refine PV.blockE ?_
  refine PV.thenN ?_
  refine sr ?_
  refine mv ?_
  refine vy (V.eqS h5 rfl rfl) fun x21_8 h14 => ?_
  refine mv ?_
  refine ls2 X 2 35 [] (g68_k3 ro) 13 ?_ ?_
  ·
   rcases condK_inv h14 with ⟨e, h16⟩ | ⟨e, h16⟩
   ·
    clear h5 h14
    subst e
    refine sk ?_
    refine sk ?_
    refine sk ?_
    refine sk ?_
    refine sk ?_
    refine sk ?_
    refine sk ?_
    refine sk ?_
    refine sk ?_
    refine sk ?_
    refine sk ?_
    refine sk ?_
    refine pu ?_
    exact la2 hS h16 ⟨rfl, rfl, trivial⟩
   ·
    clear h5 h14
    subst e
    refine mv ?_
    refine vy (V.neS h16 rfl rfl) fun x24_9 h17 => ?_
    refine mv ?_
    refine ls3 X 0 2 29 [(22, (.lit (.bool false)))] (g68_k4 ro) 4 ?_ ?_
    ·
     rcases condK_inv h17 with ⟨e, h23⟩ | ⟨e, h23⟩
     ·
      clear h16 h17
      subst e
      refine mv ?_
      refine vy (V.ix h23 rfl rfl Rcf.st9) fun x27_12 h24 => ?_
      refine vy (V.ne h24 rfl rfl) fun x28_13 h25 => ?_
      refine pu ?_
      exact la3 hS h25 ⟨rfl, rfl, rfl, rfl, trivial⟩
     ·
      clear h16 h17
      subst e
      refine sk ?_
      refine sk ?_
      refine sk ?_
      refine pu ?_
      exact la3 hS h23 ⟨rfl, rfl, rfl, rfl, trivial⟩
    ·
     intro y0 y2 y29 T4 n4 ρ its hS h18
     unfold g68_k4 at h18
     clear h16 h17
     refine mv ?_
     refine ls2 X 2 34 [(22, (.lit (.bool false)))] (g68_k5 ro) 4 ?_ ?_
     ·
      rcases condK_inv h18 with ⟨e, h20⟩ | ⟨e, h20⟩
      ·
       clear h18
       subst e
       refine mv ?_
       refine vy (V.lenT h20 rfl Rcf.ls9) fun x32_10 h21 => ?_
       refine vy (V.le h21 rfl rfl) fun x33_11 h22 => ?_
       refine pu ?_
       exact la2 hS h22 ⟨rfl, rfl, rfl, trivial⟩
      ·
       clear h18
       subst e
       refine sk ?_
       refine sk ?_
       refine sk ?_
       refine pu ?_
       exact la2 hS h20 ⟨rfl, rfl, rfl, trivial⟩
     ·
      intro y2 y34 T5 n5 ρ its hS h19
      unfold g68_k5 at h19
      clear h18
      refine pu ?_
      exact la2 hS h19 ⟨rfl, rfl, trivial⟩
  ·
   intro y2 y35 T3 n3 ρ its hS h15
   unfold g68_k3 at h15
   clear h5 h14
   refine as_ ?_
   refine dn ?_
   refine CV.ret ?_
   cases h15
   exact PV.ret (by simp) Tryz.results68 hS (RS.tmp rfl RS.nil) rfl

end Go.Proofs.YtdepmlcnllofiaaGreatDoor.Rc
