/-
  Proved here: plain functions that do what the program's functions do, each with its proof.
-/
import Derived.Test.YtdepmlcnllofiaaDoorPae
namespace Go.Proofs.YtdepmlcnllofiaaDoor.Pa
open Go.EY Go.EX Go.SX Go.RowKit
noncomputable def g27_k1 (ro : List HT) (y2 y3 y23 : AV) (T5 : HT) (n5 : Nat) : R :=
 condK 270020 y23
 (
  callK (g28 ro (.lit (.int .i64 (.negSucc 0))) T5 n5) fun x24_10 T6 n6 =>
  stAK 270022 T6 y2 x24_10 5 fun T7 =>
  ldAK 270023 T7 ro y2 5 fun x2_11 =>
  .ok (.val x2_11) T7 n6
 )
 (
  ncK 270025 y3 fun x26_12 =>
  faK 270026 x26_12 1 fun x27_13 =>
  ldQK 270027 T5 ro [y3] x27_13 fun x28_14 =>
  ncK 270029 y3 fun x31_15 =>
  faK 270030 x31_15 0 fun x32_16 =>
  ldQK 270031 T5 ro [y3] x32_16 fun x33_17 =>
  callK (g40 ro x28_14 T5 n5) fun x29_18 T8 n8 =>
  keepK 270033 T5 T8 [y3] <|
  callK (g10 ro x29_18 x33_17 T8 n8) fun x34_19 T9 n9 =>
  stAK 270035 T9 y2 x34_19 5 fun T10 =>
  ldAK 270036 T10 ro y2 5 fun x2_20 =>
  .ok (.val x2_20) T10 n9
 )
noncomputable def g27 (ro : List HT) (a0 : AV) (T : HT) (nx : Nat) : R :=
 newK T nx (.obj [.lit (.int .i64 0), .lit (.bool false), .lit (.int .i64 0), .lit (.bool false), .lit (.string ⟨#[]⟩)] 36) fun x2_1 T1 n1 =>
 asK 270003 a0 54 (.tup [.lit (.pointer none), .lit (.bool false)]) fun x7_2 =>
 exK 270005 x7_2 0 fun x8_3 =>
 exK 270006 x7_2 1 fun x9_4 =>
 notK 270010 x9_4 fun x11_5 =>
 condK 270011 x11_5
 (
  callK (g40 ro a0 T1 n1) fun x13_6 T2 n2 =>
  callK (g28 ro x13_6 T2 n2) fun x14_7 T3 n3 =>
  stAK 270015 T3 x2_1 x14_7 5 fun T4 =>
  ldAK 270016 T4 ro x2_1 5 fun x2_8 =>
  .ok (.val x2_8) T4 n3
 )
 (
  bin0 Tryd.prog .eql 54 (.tmp 15) (.const (.pointer none)) 270018 x8_3 (.lit (.pointer none)) fun x16_9 =>
  condK 270037 x16_9
  (
   g27_k1 ro x2_1 x8_3 (.lit (.bool true)) T1 n1
  )
  (
   ncK 270040 x8_3 fun x19_21 =>
   faK 270041 x19_21 1 fun x20_22 =>
   ldK 270042 T1 ro x20_22 fun x21_23 =>
   bin0 Tryd.prog .eql 25 (.tmp 21) (.const (.nilIface)) 270043 x21_23 (.lit (.nilIface)) fun x22_24 =>
   g27_k1 ro x2_1 x8_3 x22_24 T1 n1
  )
 )
theorem g27_ok (ro : List HT) (a0 : AV) (T : HT) (nx : Nat) : GOk Tryd.prog envE 27 [a0] ro T nx (g27 ro a0 T nx) := by
 refine GOk.of_body Tryd.func27 rfl Tryd.ntmps27 (by kernel_rfl) rfl fun r T' n' h1 w0 base ρ0 its hS hP => ?_
 have X : CtxW envE ρ0 ro r T' n' := trivial
 unfold g27 at h1
 refine sr ?_
 refine LV.alloc hS h1 rfl Paf.zr36 rfl rfl rfl fun x2_1 T1 n1 h2 ρ its hS hdr => ?_
 refine dn ?_
 refine sr ?_
 refine mv ?_
 refine vy (V.as h2 rfl Paf.ni54 Paf.za54) fun x7_2 h3 => ?_
 refine mv ?_
 refine vy (V.ex h3 rfl) fun x8_3 h4 => ?_
 refine vy (V.ex h4 rfl) fun x9_4 h5 => ?_
 refine as_ ?_
 refine as_ ?_
 refine dn ?_
 refine CV.seq ?_
 refine sr ?_
 refine mv ?_
 refine vy (V.not h5 rfl) fun x11_5 h6 => ?_
 refine dn ?_
 refine CV.cond h6 rfl (fun e h7 => ?_) (fun e h7 => ?_)
 ·
  clear h1 h2 h3 h4 h5 h6
  subst e
  refine sr ?_
  refine mv ?_
  refine LV.call hS h7 (g40_ok _ _ _ _ ) hP rfl rfl rfl rfl fun x13_6 T2 n2 h8 ρ its hS => ?_
  refine LV.call hS h8 (g28_ok _ _ _ _ ) hP rfl rfl rfl rfl fun x14_7 T3 n3 h9 ρ its hS => ?_
  refine LV.stA hS h9 rfl rfl rfl Paf.agg36 rfl rfl rfl fun T4 its h10 hS => ?_
  refine dn ?_
  refine CV.ret ?_
  refine PV.thenR ?_
  refine PV.ldA (x := .tmp 2) (t := 36) hS h10 rfl Paf.agg36 fun x2_8 h11 hVx2_8 => ?_
  cases h11
  exact PV.ret (by simp) Tryd.results27 hS (RS.cell hVx2_8 RS.nil) rfl
 ·
  clear h1 h2 h3 h4 h5 h6
  subst e
  refine CV.skip ?_
  refine PV.thenN ?_
  refine CV.seq ?_
  refine sr ?_
  refine mv ?_
  refine vy (V.bin0 h7 rfl rfl) fun x16_9 h12 => ?_
  refine mv ?_
  refine ls3 X 2 3 23 [] (g27_k1 ro) 6 ?_ ?_
  ·
   rcases condK_inv h12 with ⟨e, h29⟩ | ⟨e, h29⟩
   ·
    clear h7 h12
    subst e
    refine sk ?_
    refine sk ?_
    refine sk ?_
    refine sk ?_
    refine sk ?_
    refine pu ?_
    exact la3 hS h29 ⟨rfl, rfl, rfl, trivial⟩
   ·
    clear h7 h12
    subst e
    refine mv ?_
    refine vy (V.nc h29 rfl) fun x19_21 h30 => ?_
    refine vy (V.fa h30 rfl Paf.fo80_1) fun x20_22 h31 => ?_
    refine vy (V.ld hS h31 rfl Paf.one25) fun x21_23 h32 => ?_
    refine vy (V.bin0 h32 rfl rfl) fun x22_24 h33 => ?_
    refine pu ?_
    exact la3 hS h33 ⟨rfl, rfl, rfl, trivial⟩
  ·
   intro y2 y3 y23 T5 n5 ρ its hS h13
   unfold g27_k1 at h13
   clear h7 h12
   refine dn ?_
   refine CV.cond h13 rfl (fun e h14 => ?_) (fun e h14 => ?_)
   ·
    clear h13
    subst e
    refine sr ?_
    refine LV.call hS h14 (g28_ok _ _ _ _ ) hP rfl rfl rfl rfl fun x24_10 T6 n6 h15 ρ its hS => ?_
    refine LV.stA hS h15 rfl rfl rfl Paf.agg36 rfl rfl rfl fun T7 its h16 hS => ?_
    refine dn ?_
    refine CV.ret ?_
    refine PV.thenR ?_
    refine PV.ldA (x := .tmp 2) (t := 36) hS h16 rfl Paf.agg36 fun x2_11 h17 hVx2_11 => ?_
    cases h17
    exact PV.ret (by simp) Tryd.results27 hS (RS.cell hVx2_11 RS.nil) rfl
   ·
    clear h13
    subst e
    refine CV.skip ?_
    refine PV.thenN ?_
    refine CV.seq ?_
    refine CV.regionMS hS [y3] [(0, .anywhere), (1, .anywhere), (2, .anywhere), (3, .held), (5, .anywhere), (6, .anywhere), (7, .anywhere), (8, .held), (4, .alone), (9, .alone), (10, .alone)] rfl (fun c a a' w hd hq => PanicOk.root (P := Tryd.prog) (fn := Tryd.f27) (w0 := w0) (base := base) (E := envE) (ro := ro) (r := r) (T' := T') (n' := n') (ρ0 := ρ0) c a a' w hd hq) (by kernel_rfl) ?_
    have hK := KeepS.start [y3] hS
    have hR := hS
    have hP0 := hP
    replace hP := PK.up hR hP
    replace hS := hR.root
    refine MV.step0 (i := 0) rfl (VAL.move rfl) rfl rfl rfl ?_
    refine MV.lift0 (i := 1) rfl (V.nc h14 rfl) rfl rfl rfl fun x26_12 h18 => ?_
    refine MV.lift0 (i := 2) rfl (V.fa h18 rfl Paf.fo80_1) rfl rfl rfl fun x27_13 h19 => ?_
    refine MV.lift1 (i := 3) rfl hK (V.ldQ hS h19 rfl Paf.one25) rfl rfl rfl [] (by kernel_rfl) fun x28_14 h20 => ?_
    refine MV.step0 (i := 5) rfl (VAL.move rfl) rfl rfl rfl ?_
    refine MV.lift0 (i := 6) rfl (V.nc h20 rfl) rfl rfl rfl fun x31_15 h21 => ?_
    refine MV.lift0 (i := 7) rfl (V.fa h21 rfl Paf.fo80_0) rfl rfl rfl fun x32_16 h22 => ?_
    refine MV.lift1 (i := 8) rfl hK (V.ldQ hS h22 rfl Paf.one3) rfl rfl rfl [3] (by kernel_rfl) fun x33_17 h23 => ?_
    refine MV.force (i := 4) rfl ?_
    refine LV.call hS h23 (g40_ok _ _ _ _ ) hP rfl rfl rfl rfl fun x29_18 T8 n8 h24 ρ its hS => ?_
    obtain ⟨hK, h25⟩ := KeepS.step hR hS h24
    refine LV.nextM [8] (by kernel_rfl) (fun _ => hK) ?_
    refine MV.force (i := 9) rfl ?_
    refine LV.call hS h25 (g10_ok _ _ _ _ _ ) hP rfl rfl rfl rfl fun x34_19 T9 n9 h26 ρ its hS => ?_
    refine LV.nextM [] (by kernel_rfl) (fun z => absurd rfl z) ?_
    refine MV.force (i := 10) rfl ?_
    refine LV.stA hS h26 rfl rfl rfl Paf.agg36 rfl rfl rfl fun T10 its h27 hS => ?_
    refine LV.nextM [] (by kernel_rfl) (fun z => absurd rfl z) ?_
    replace hS := hR.up hS
    replace hP := hP0
    refine mdn ?_
    refine CV.ret ?_
    refine PV.ldA (x := .tmp 2) (t := 36) hS h27 rfl Paf.agg36 fun x2_20 h28 hVx2_20 => ?_
    cases h28
    exact PV.ret (by simp) Tryd.results27 hS (RS.cell hVx2_20 RS.nil) rfl
noncomputable def g17_k1 (ro : List HT) (y2 y3 y26 : AV) (T6 : HT) (n6 : Nat) : R :=
 condK 170025 y26
 (
  callK (g28 ro (.lit (.int .i64 (.negSucc 0))) T6 n6) fun x27_12 T7 n7 =>
  stAK 170027 T7 y2 x27_12 5 fun T8 =>
  ldAK 170028 T8 ro y2 5 fun x2_13 =>
  .ok (.val x2_13) T8 n7
 )
 (
  ncK 170030 y3 fun x29_14 =>
  faK 170031 x29_14 1 fun x30_15 =>
  ldK 170032 T6 ro x30_15 fun x31_16 =>
  callK (g27 ro x31_16 T6 n6) fun x32_17 T9 n9 =>
  newK T9 n9 (.obj [.lit (.int .i64 0), .lit (.bool false), .lit (.int .i64 0), .lit (.bool false), .lit (.string ⟨#[]⟩)] 36) fun x5_18 T10 n10 =>
  stAK 170035 T10 x5_18 x32_17 5 fun T11 =>
  faK 170036 x5_18 0 fun x33_19 =>
  ldK 170037 T11 ro x33_19 fun x34_20 =>
  faK 170038 x5_18 1 fun x35_21 =>
  ldK 170039 T11 ro x35_21 fun x36_22 =>
  faK 170040 x5_18 2 fun x37_23 =>
  ldK 170041 T11 ro x37_23 fun x38_24 =>
  ncK 170043 y3 fun x40_25 =>
  faK 170044 x40_25 0 fun x41_26 =>
  ldK 170045 T11 ro x41_26 fun x42_27 =>
  optK 170046 (bld36 [(0, x34_20), (1, x36_22), (2, x38_24), (3, (.lit (.bool true))), (4, x42_27)]) fun x43_28 =>
  stAK 170047 T11 y2 x43_28 5 fun T12 =>
  ldAK 170048 T12 ro y2 5 fun x2_29 =>
  .ok (.val x2_29) T12 n10
 )
noncomputable def g17 (ro : List HT) (a0 : AV) (T : HT) (nx : Nat) : R :=
 newK T nx (.obj [.lit (.int .i64 0), .lit (.bool false), .lit (.int .i64 0), .lit (.bool false), .lit (.string ⟨#[]⟩)] 36) fun x2_1 T1 n1 =>
 bin0 Tryd.prog .eql 25 (.tmp 6) (.const (.nilIface)) 170003 a0 (.lit (.nilIface)) fun x7_2 =>
 condK 170004 x7_2
 (
  callK (g18 ro T1 n1) fun x8_3 T2 n2 =>
  stAK 170006 T2 x2_1 x8_3 5 fun T3 =>
  ldAK 170007 T3 ro x2_1 5 fun x2_4 =>
  .ok (.val x2_4) T3 n2
 )
 (
  asK 170009 a0 60 (.tup [.lit (.pointer none), .lit (.bool false)]) fun x11_5 =>
  exK 170011 x11_5 0 fun x12_6 =>
  exK 170012 x11_5 1 fun x13_7 =>
  notK 170016 x13_7 fun x15_8 =>
  condK 170017 x15_8
  (
   callK (g27 ro a0 T1 n1) fun x17_9 T4 n4 =>
   stAK 170020 T4 x2_1 x17_9 5 fun T5 =>
   ldAK 170021 T5 ro x2_1 5 fun x2_10 =>
   .ok (.val x2_10) T5 n4
  )
  (
   bin0 Tryd.prog .eql 60 (.tmp 18) (.const (.pointer none)) 170023 x12_6 (.lit (.pointer none)) fun x19_11 =>
   condK 170049 x19_11
   (
    g17_k1 ro x2_1 x12_6 (.lit (.bool true)) T1 n1
   )
   (
    ncK 170052 x12_6 fun x22_30 =>
    faK 170053 x22_30 1 fun x23_31 =>
    ldK 170054 T1 ro x23_31 fun x24_32 =>
    bin0 Tryd.prog .eql 25 (.tmp 24) (.const (.nilIface)) 170055 x24_32 (.lit (.nilIface)) fun x25_33 =>
    g17_k1 ro x2_1 x12_6 x25_33 T1 n1
   )
  )
 )
theorem g17_ok (ro : List HT) (a0 : AV) (T : HT) (nx : Nat) : GOk Tryd.prog envE 17 [a0] ro T nx (g17 ro a0 T nx) := by
 refine GOk.of_body Tryd.func17 rfl Tryd.ntmps17 (by kernel_rfl) rfl fun r T' n' h1 w0 base ρ0 its hS hP => ?_
 have X : CtxW envE ρ0 ro r T' n' := trivial
 unfold g17 at h1
 refine sr ?_
 refine LV.alloc hS h1 rfl Paf.zr36 rfl rfl rfl fun x2_1 T1 n1 h2 ρ its hS hdr => ?_
 refine dn ?_
 refine CV.seq ?_
 refine sr ?_
 refine mv ?_
 refine vy (V.bin0 h2 rfl rfl) fun x7_2 h3 => ?_
 refine dn ?_
 refine CV.cond h3 rfl (fun e h4 => ?_) (fun e h4 => ?_)
 ·
  clear h1 h2 h3
  subst e
  refine sr ?_
  refine LV.call hS h4 (g18_ok _ _ _ ) hP rfl rfl rfl rfl fun x8_3 T2 n2 h5 ρ its hS => ?_
  refine LV.stA hS h5 rfl rfl rfl Paf.agg36 rfl rfl rfl fun T3 its h6 hS => ?_
  refine dn ?_
  refine CV.ret ?_
  refine PV.thenR ?_
  refine PV.ldA (x := .tmp 2) (t := 36) hS h6 rfl Paf.agg36 fun x2_4 h7 hVx2_4 => ?_
  cases h7
  exact PV.ret (by simp) Tryd.results17 hS (RS.cell hVx2_4 RS.nil) rfl
 ·
  clear h1 h2 h3
  subst e
  refine CV.skip ?_
  refine PV.thenN ?_
  refine sr ?_
  refine mv ?_
  refine vy (V.as h4 rfl Paf.ni60 Paf.za60) fun x11_5 h8 => ?_
  refine mv ?_
  refine vy (V.ex h8 rfl) fun x12_6 h9 => ?_
  refine vy (V.ex h9 rfl) fun x13_7 h10 => ?_
  refine as_ ?_
  refine as_ ?_
  refine dn ?_
  refine CV.seq ?_
  refine sr ?_
  refine mv ?_
  refine vy (V.not h10 rfl) fun x15_8 h11 => ?_
  refine dn ?_
  refine CV.cond h11 rfl (fun e h12 => ?_) (fun e h12 => ?_)
  ·
   clear h4 h8 h9 h10 h11
   subst e
   refine sr ?_
   refine mv ?_
   refine LV.call hS h12 (g27_ok _ _ _ _ ) hP rfl rfl rfl rfl fun x17_9 T4 n4 h13 ρ its hS => ?_
   refine LV.stA hS h13 rfl rfl rfl Paf.agg36 rfl rfl rfl fun T5 its h14 hS => ?_
   refine dn ?_
   refine CV.ret ?_
   refine PV.thenR ?_
   refine PV.ldA (x := .tmp 2) (t := 36) hS h14 rfl Paf.agg36 fun x2_10 h15 hVx2_10 => ?_
   cases h15
   exact PV.ret (by simp) Tryd.results17 hS (RS.cell hVx2_10 RS.nil) rfl
  ·
   clear h4 h8 h9 h10 h11
   subst e
   refine CV.skip ?_
   refine PV.thenN ?_
   refine CV.seq ?_
   refine sr ?_
   refine mv ?_
   refine vy (V.bin0 h12 rfl rfl) fun x19_11 h16 => ?_
   refine mv ?_
   refine ls3 X 2 3 26 [] (g17_k1 ro) 6 ?_ ?_
   ·
    rcases condK_inv h16 with ⟨e, h40⟩ | ⟨e, h40⟩
    ·
     clear h12 h16
     subst e
     refine sk ?_
     refine sk ?_
     refine sk ?_
     refine sk ?_
     refine sk ?_
     refine pu ?_
     exact la3 hS h40 ⟨rfl, rfl, rfl, trivial⟩
    ·
     clear h12 h16
     subst e
     refine mv ?_
     refine vy (V.nc h40 rfl) fun x22_30 h41 => ?_
     refine vy (V.fa h41 rfl Paf.fo63_1) fun x23_31 h42 => ?_
     refine vy (V.ld hS h42 rfl Paf.one25) fun x24_32 h43 => ?_
     refine vy (V.bin0 h43 rfl rfl) fun x25_33 h44 => ?_
     refine pu ?_
     exact la3 hS h44 ⟨rfl, rfl, rfl, trivial⟩
   ·
    intro y2 y3 y26 T6 n6 ρ its hS h17
    unfold g17_k1 at h17
    clear h12 h16
    refine dn ?_
    refine CV.cond h17 rfl (fun e h18 => ?_) (fun e h18 => ?_)
    ·
     clear h17
     subst e
     refine sr ?_
     refine LV.call hS h18 (g28_ok _ _ _ _ ) hP rfl rfl rfl rfl fun x27_12 T7 n7 h19 ρ its hS => ?_
     refine LV.stA hS h19 rfl rfl rfl Paf.agg36 rfl rfl rfl fun T8 its h20 hS => ?_
     refine dn ?_
     refine CV.ret ?_
     refine PV.thenR ?_
     refine PV.ldA (x := .tmp 2) (t := 36) hS h20 rfl Paf.agg36 fun x2_13 h21 hVx2_13 => ?_
     cases h21
     exact PV.ret (by simp) Tryd.results17 hS (RS.cell hVx2_13 RS.nil) rfl
    ·
     clear h17
     subst e
     refine CV.skip ?_
     refine PV.thenN ?_
     refine sr ?_
     refine mv ?_
     refine vy (V.nc h18 rfl) fun x29_14 h22 => ?_
     refine vy (V.fa h22 rfl Paf.fo63_1) fun x30_15 h23 => ?_
     refine vy (V.ld hS h23 rfl Paf.one25) fun x31_16 h24 => ?_
     refine LV.call hS h24 (g27_ok _ _ _ _ ) hP rfl rfl rfl rfl fun x32_17 T9 n9 h25 ρ its hS => ?_
     refine LV.alloc hS h25 rfl Paf.zr36 rfl rfl rfl fun x5_18 T10 n10 h26 ρ its hS hdr => ?_
     refine LV.stA hS h26 rfl rfl rfl Paf.agg36 rfl rfl rfl fun T11 its h27 hS => ?_
     refine dn ?_
     refine CV.seq ?_
     refine CV.regionM [(0, .anywhere), (1, .held), (2, .anywhere), (3, .held), (4, .anywhere), (5, .held), (6, .anywhere), (7, .anywhere), (8, .anywhere), (9, .held), (10, .held), (11, .alone)] rfl (fun c a a' w hd hq => PanicOk.root (P := Tryd.prog) (fn := Tryd.f17) (w0 := w0) (base := base) (E := envE) (ro := ro) (r := r) (T' := T') (n' := n') (ρ0 := ρ0) c a a' w hd hq) (by kernel_rfl) ?_
     refine MV.lift0 (i := 0) rfl (V.fa h27 rfl Paf.fo36_0) rfl rfl rfl fun x33_19 h28 => ?_
     refine MV.lift1 (i := 1) rfl (fun _ z => z) (V.ld hS h28 rfl Paf.one3) rfl rfl rfl [] (by kernel_rfl) fun x34_20 h29 => ?_
     refine MV.lift0 (i := 2) rfl (V.fa h29 rfl Paf.fo36_1) rfl rfl rfl fun x35_21 h30 => ?_
     refine MV.lift1 (i := 3) rfl (fun _ z => z) (V.ld hS h30 rfl Paf.one4) rfl rfl rfl [1] (by kernel_rfl) fun x36_22 h31 => ?_
     refine MV.lift0 (i := 4) rfl (V.fa h31 rfl Paf.fo36_2) rfl rfl rfl fun x37_23 h32 => ?_
     refine MV.lift1 (i := 5) rfl (fun _ z => z) (V.ld hS h32 rfl Paf.one3) rfl rfl rfl [3, 1] (by kernel_rfl) fun x38_24 h33 => ?_
     refine MV.step0 (i := 6) rfl (VAL.move rfl) rfl rfl rfl ?_
     refine MV.lift0 (i := 7) rfl (V.nc h33 rfl) rfl rfl rfl fun x40_25 h34 => ?_
     refine MV.lift0 (i := 8) rfl (V.fa h34 rfl Paf.fo63_0) rfl rfl rfl fun x41_26 h35 => ?_
     refine MV.lift1 (i := 9) rfl (fun _ z => z) (V.ld hS h35 rfl Paf.one9) rfl rfl rfl [5, 3, 1] (by kernel_rfl) fun x42_27 h36 => ?_
     refine MV.lift1 (i := 10) rfl (fun _ z => z) (V.bld h36 rfl) rfl rfl rfl [] (by kernel_rfl) fun x43_28 h37 => ?_
     refine MV.force (i := 11) rfl ?_
     refine LV.stA hS h37 rfl rfl rfl Paf.agg36 rfl rfl rfl fun T12 its h38 hS => ?_
     refine LV.nextM [] (by kernel_rfl) (fun z => absurd rfl z) ?_
     refine mdn ?_
     refine CV.ret ?_
     refine PV.ldA (x := .tmp 2) (t := 36) hS h38 rfl Paf.agg36 fun x2_29 h39 hVx2_29 => ?_
     cases h39
     exact PV.ret (by simp) Tryd.results17 hS (RS.cell hVx2_29 RS.nil) rfl
noncomputable def g9 (ro : List HT) (a0 a1 : AV) (T : HT) (nx : Nat) : R :=
 boxK 90001 T nx a1 36 fun x3_1 T1 n1 =>
 ldAQK 90004 T1 ro [x3_1] x3_1 5 fun x7_2 =>
 callK (g17 ro a0 T1 n1) fun x6_3 T2 n2 =>
 keepK 90006 T1 T2 [x3_1] <|
 callK (g16 ro x6_3 x7_2 T2 n2) fun x8_4 T3 n3 =>
 .ok (.val x8_4) T3 n3
theorem g9_ok (ro : List HT) (a0 a1 : AV) (T : HT) (nx : Nat) : GOk Tryd.prog envE 9 [a0, a1] ro T nx (g9 ro a0 a1 T nx) := by
 refine GOk.of_body Tryd.func9 rfl Tryd.ntmps9 (by kernel_rfl) rfl fun r T' n' h1 w0 base ρ0 its hS hP => ?_
 have X : CtxW envE ρ0 ro r T' n' := trivial
 unfold g9 at h1
 refine sr ?_
 refine LV.box hS h1 rfl rfl rfl rfl rfl fun x3_1 T1 n1 h2 ρ its hS hdr => ?_
 refine as_ ?_
 refine dn ?_
 refine CV.seq ?_
 refine CV.regionMS hS [x3_1] [(0, .anywhere), (2, .held), (1, .alone), (3, .alone), (4, .alone)] rfl (fun c a a' w hd hq => PanicOk.root (P := Tryd.prog) (fn := Tryd.f9) (w0 := w0) (base := base) (E := envE) (ro := ro) (r := r) (T' := T') (n' := n') (ρ0 := ρ0) c a a' w hd hq) (by kernel_rfl) ?_
 have hK := KeepS.start [x3_1] hS
 have hR := hS
 have hP0 := hP
 replace hP := PK.up hR hP
 replace hS := hR.root
 refine MV.step0 (i := 0) rfl (VAL.move rfl) rfl rfl rfl ?_
 refine MV.lift1 (i := 2) rfl hK (V.ldAQ hS h2 rfl Paf.agg36) rfl rfl rfl [] (by kernel_rfl) fun x7_2 h3 => ?_
 refine MV.force (i := 1) rfl ?_
 refine LV.call hS h3 (g17_ok _ _ _ _ ) hP rfl rfl rfl rfl fun x6_3 T2 n2 h4 ρ its hS => ?_
 obtain ⟨hK, h5⟩ := KeepS.step hR hS h4
 refine LV.nextM [2] (by kernel_rfl) (fun _ => hK) ?_
 refine MV.force (i := 3) rfl ?_
 refine LV.call hS h5 (g16_ok _ _ _ _ _ ) hP rfl rfl rfl rfl fun x8_4 T3 n3 h6 ρ its hS => ?_
 refine LV.nextM [] (by kernel_rfl) (fun z => absurd rfl z) ?_
 refine MV.force (i := 4) rfl ?_
 refine as_ ?_
 refine LV.nextM [] (by kernel_rfl) (fun z => absurd rfl z) ?_
 replace hS := hR.up hS
 replace hP := hP0
 refine mdn ?_
 refine CV.ret ?_
 cases h6
 exact PV.ret (by simp) Tryd.results9 hS (RS.tmp rfl RS.nil) rfl
noncomputable def g4_k3 (c1a : AV) (c1b : AV) (c1 : AV) (c2a : AV) (c2b : AV) (c2 : AV) (ro : List HT) (y4 y59 : AV) (T7 : HT) (n7 : Nat) : R :=
 .ok (.val y59) T7 n7
noncomputable def g4_k2 (c1a : AV) (c1b : AV) (c1 : AV) (c2a : AV) (c2b : AV) (c2 : AV) (ro : List HT) (y0 y4 y6 y9 y11 y47 : AV) (T6 : HT) (n6 : Nat) : R :=
 condK 40051 y47
 (
  lenTK 40054 y6 fun x51_14 =>
  iaK 40057 y9 y0 1 fun x54_15 =>
  ldK 40058 T6 ro x54_15 fun x55_16 =>
  addK Tryd.prog 3 (.tmp 51) (.tmp 55) 40059 x51_14 x55_16 fun x56_17 =>
  callK (g10 ro (.lit (.int .i64 (.ofNat 102))) x56_17 T6 n6) fun x57_18 T8 n8 =>
  callK (g9 ro y11 x57_18 T8 n8) fun x58_19 T9 n9 =>
  g4_k3 c1a c1b c1 c2a c2b c2 ro y4 x58_19 T9 n9
 )
 (
  g4_k3 c1a c1b c1 c2a c2b c2 ro y4 (.lit (.bool false)) T6 n6
 )
noncomputable def g4_b1 (c1a : AV) (c1b : AV) (c1 : AV) (c2a : AV) (c2b : AV) (c2 : AV) (ro : List HT) (lp1 : AV → AV → AV → AV → AV → HT → Nat → R) (y1 y4 y5 y6 y7 : AV) (T2 : HT) (n2 : Nat) : R :=
 ltK Tryd.prog 3 (.tmp 19) (.tmp 20) 40018 y7 y1 fun x21_3 =>
 condK 40019 x21_3
 (
  addSK Tryd.prog 9 (.tmp 24) (.const (.string ⟨⟨[120, 32, 61, 32, 49, 10]⟩⟩)) 40021 y6 (.lit (.string ⟨⟨[120, 32, 61, 32, 49, 10]⟩⟩)) fun x25_4 =>
  addK Tryd.prog 3 (.tmp 22) (.const (.int .i64 (.ofNat 1))) 40024 y7 (.lit (.int .i64 (.ofNat 1))) fun x23_5 =>
  lp1 y1 y4 y5 x25_4 x23_5 T2 n2
 )
 (
  bsK 40031 T2 n2 8 9 1 [(0, (.lit (.string ⟨⟨[98, 114, 101, 97, 107, 10]⟩⟩))), (1, (.lit (.string ⟨⟨[99, 111, 110, 116, 105, 110, 117, 101, 10]⟩⟩))), (2, (.lit (.string ⟨⟨[114, 101, 116, 117, 114, 110, 32, 49, 10]⟩⟩))), (3, (.lit (.string ⟨⟨[49, 32, 61, 32, 50, 10]⟩⟩))), (4, (.lit (.string ⟨⟨[102, 40, 97, 32, 61, 32, 49, 44, 32, 50, 41, 10]⟩⟩))), (5, (.lit (.string ⟨⟨[100, 101, 102, 32, 102, 40, 97, 44, 32, 97, 41, 58, 32, 112, 97, 115, 115, 10]⟩⟩))), (6, (.lit (.string ⟨⟨[105, 102, 32, 120, 58, 10, 32, 32, 100, 101, 102, 32, 103, 40, 41, 58, 32, 112, 97, 115, 115, 10]⟩⟩))), (7, (.lit (.string ⟨⟨[102, 111, 114, 32, 49, 32, 105, 110, 32, 120, 58, 32, 112, 97, 115, 115, 10]⟩⟩)))] fun x30_6 T3 n3 =>
  bsK 40033 T3 n3 8 3 1 [(0, (.lit (.int .i64 (.ofNat 0)))), (1, (.lit (.int .i64 (.ofNat 0)))), (2, (.lit (.int .i64 (.ofNat 0)))), (3, (.lit (.int .i64 (.ofNat 2)))), (4, (.lit (.int .i64 (.ofNat 9)))), (5, (.lit (.int .i64 (.ofNat 9)))), (6, (.lit (.int .i64 (.ofNat 8)))), (7, (.lit (.int .i64 (.ofNat 4))))] fun x31_7 T4 n4 =>
  iaK 40038 x30_6 c2 1 fun x36_8 =>
  ldK 40039 T4 ro x36_8 fun x37_9 =>
  addSK Tryd.prog 9 (.tmp 33) (.tmp 37) 40040 y6 x37_9 fun x38_10 =>
  callK (g7 ro x38_10 T4 n4) fun x39_11 T5 n5 =>
  exK 40043 x39_11 0 fun x40_12 =>
  exK 40044 x39_11 1 fun x41_13 =>
  condK 40064 y5
  (
   lenSK 40066 x40_12 fun x45_20 =>
   eqK Tryd.prog 3 (.tmp 45) (.const (.int .i64 (.ofNat 0))) 40067 x45_20 (.lit (.int .i64 (.ofNat 0))) fun x46_21 =>
   g4_k2 c1a c1b c1 c2a c2b c2 ro c2 y4 y6 x31_7 x41_13 x46_21 T5 n5
  )
  (
   g4_k2 c1a c1b c1 c2a c2b c2 ro c2 y4 y6 x31_7 x41_13 (.lit (.bool false)) T5 n5
  )
 )
noncomputable def g4 (c1a : AV) (c1b : AV) (c1 : AV) (c2a : AV) (c2b : AV) (c2 : AV) (ro : List HT) (q0 q1 : AV) (T : HT) (nx : Nat) : R :=
 callK (.ok (.val (.lit (.bool true))) T nx) fun x12_1 T1 n1 =>
 notK 40005 x12_1 fun x14_2 =>
 condK 40006 x14_2
 (
  .ok (.val (.lit (.bool false))) T1 n1
 )
 (
  lpf5 40015 (g4_b1 c1a c1b c1 c2a c2b c2 ro) 100000 c1 (.lit (.bool false)) x12_1 (.lit (.string ⟨⟨[]⟩⟩)) (.lit (.int .i64 (.ofNat 0))) T1 n1
 )
theorem g4_ok (c1a : AV) (c1b : AV) (c1 : AV) (c2a : AV) (c2b : AV) (c2 : AV) (q0 q1 : AV) (hOc1a : ∀ (W : World → Prop) (ρ : Rho) (af : AF), evalA af (.tmp 15) = some q1 → VAL Tryd.prog W ρ af (.binOp .rem 3 (.tmp 15) (.const (.int .i64 (.ofNat 20))) 3) c1a) (hOc1b : ∀ (W : World → Prop) (ρ : Rho) (af : AF), evalA af (.tmp 16) = some c1a → VAL Tryd.prog W ρ af (.binOp .add 3 (.tmp 16) (.const (.int .i64 (.ofNat 20))) 3) c1b) (hOc1 : ∀ (W : World → Prop) (ρ : Rho) (af : AF), evalA af (.tmp 17) = some c1b → VAL Tryd.prog W ρ af (.binOp .rem 3 (.tmp 17) (.const (.int .i64 (.ofNat 20))) 3) c1) (hOc2a : ∀ (W : World → Prop) (ρ : Rho) (af : AF), evalA af (.tmp 26) = some q0 → VAL Tryd.prog W ρ af (.binOp .rem 3 (.tmp 26) (.const (.int .i64 (.ofNat 8))) 3) c2a) (hOc2b : ∀ (W : World → Prop) (ρ : Rho) (af : AF), evalA af (.tmp 27) = some c2a → VAL Tryd.prog W ρ af (.binOp .add 3 (.tmp 27) (.const (.int .i64 (.ofNat 8))) 3) c2b) (hOc2 : ∀ (W : World → Prop) (ρ : Rho) (af : AF), evalA af (.tmp 28) = some c2b → VAL Tryd.prog W ρ af (.binOp .rem 3 (.tmp 28) (.const (.int .i64 (.ofNat 8))) 3) c2) (ro : List HT) (T : HT) (nx : Nat) (hF : GOk Tryd.prog envE 6 [] ro T nx (.ok (.val (.lit (.bool true))) T nx)) : GOk Tryd.prog envE 4 [q0, q1] ro T nx (g4 c1a c1b c1 c2a c2b c2 ro q0 q1 T nx) := by
 refine GOk.of_body Tryd.func4 rfl Tryd.ntmps4 (by kernel_rfl) rfl fun r T' n' h1 w0 base ρ0 its hS hP => ?_
 have X : CtxW envE ρ0 ro r T' n' := trivial
 unfold g4 at h1
 refine sr ?_
 refine as_ ?_
 refine dn ?_
 refine sr ?_
 refine LV.call hS h1 (hF) hP rfl rfl rfl rfl fun x12_1 T1 n1 h2 ρ its hS => ?_
 refine as_ ?_
 refine dn ?_
 refine CV.seq ?_
 refine sr ?_
 refine mv ?_
 refine vy (V.not h2 rfl) fun x14_2 h3 => ?_
 refine dn ?_
 refine CV.cond h3 rfl (fun e h4 => ?_) (fun e h4 => ?_)
 ·
  clear h1 h2 h3
  subst e
  refine sr ?_
  refine as_ ?_
  refine dn ?_
  refine CV.ret ?_
  refine PV.thenR ?_
  cases h4
  exact PV.ret (by simp) Tryd.results4 hS (RS.tmp rfl RS.nil) rfl
 ·
  clear h1 h2 h3
  subst e
  refine CV.skip ?_
  refine PV.thenN ?_
  refine sr ?_
  refine mv ?_
  refine sv (hOc1a _ _ _ rfl) ?_
  refine sv (hOc1b _ _ _ rfl) ?_
  refine sv (hOc1 _ _ _ rfl) ?_
  refine as_ ?_
  refine dn ?_
  refine sr ?_
  refine as_ ?_
  refine dn ?_
  refine CV.seq ?_
  refine sr ?_
  refine as_ ?_
  refine dn ?_
  refine CV.block ?_
  refine cl5 X 1 4 5 6 7 [(0, q0)] hS h4 ⟨rfl, rfl, rfl, rfl, rfl, rfl, trivial⟩ ?_
  intro f1 y1 y4 y5 y6 y7 T2 n2 ρ its hS h5
  unfold g4_b1 at h5
  clear h4
  refine CV.seq ?_
  refine sr ?_
  refine mv ?_
  refine mv ?_
  refine vy (V.lt h5 rfl rfl) fun x21_3 h6 => ?_
  refine dn ?_
  refine CV.cond h6 rfl (fun e h7 => ?_) (fun e h7 => ?_)
  ·
   clear h5 h6
   subst e
   refine CV.skip ?_
   refine PV.thenN ?_
   refine CV.seq ?_
   refine CV.block ?_
   refine CV.region ?_
   refine mv ?_
   refine vy (V.addS h7 rfl rfl) fun x25_4 h8 => ?_
   refine as_ ?_
   refine LV.done ?_
   refine PV.blockN ?_
   refine PV.thenN ?_
   refine CV.region ?_
   refine mv ?_
   refine vy (V.add h8 rfl rfl) fun x23_5 h9 => ?_
   refine as_ ?_
   refine LV.done ?_
   exact pb5 hS h9 ⟨rfl, rfl, rfl, rfl, rfl, rfl, trivial⟩
  ·
   clear h5 h6
   subst e
   refine CV.exit ?_
   refine PV.thenE ?_
   refine PV.thenE ?_
   refine PV.blockE ?_
   refine PV.thenN ?_
   refine sr ?_
   refine mv ?_
   refine sv (hOc2a _ _ _ rfl) ?_
   refine sv (hOc2b _ _ _ rfl) ?_
   refine sv (hOc2 _ _ _ rfl) ?_
   refine as_ ?_
   refine dn ?_
   refine sr ?_
   refine LV.bslice hS h7 rfl rfl Paf.el33 rfl rfl rfl rfl fun x30_6 T3 n3 h10 ρ its hS hdr => ?_
   refine as_ ?_
   refine dn ?_
   refine sr ?_
   refine LV.bslice hS h10 rfl rfl Paf.el29 rfl rfl rfl rfl fun x31_7 T4 n4 h11 ρ its hS hdr => ?_
   refine as_ ?_
   refine dn ?_
   refine sr ?_
   refine mv ?_
   refine mv ?_
   refine mv ?_
   refine vy (V.ia h11 rfl rfl Paf.el33) fun x36_8 h12 => ?_
   refine vy (V.ld hS h12 rfl Paf.one9) fun x37_9 h13 => ?_
   refine vy (V.addS h13 rfl rfl) fun x38_10 h14 => ?_
   refine LV.call hS h14 (g7_ok _ _ _ _ ) hP rfl rfl rfl rfl fun x39_11 T5 n5 h15 ρ its hS => ?_
   refine mv ?_
   refine vy (V.ex h15 rfl) fun x40_12 h16 => ?_
   refine vy (V.ex h16 rfl) fun x41_13 h17 => ?_
   refine as_ ?_
   refine as_ ?_
   refine dn ?_
   refine sr ?_
   refine mv ?_
   refine mv ?_
   refine ls6 X 0 4 6 9 11 47 [] (g4_k2 c1a c1b c1 c2a c2b c2 ro) 4 ?_ ?_
   ·
    rcases condK_inv h17 with ⟨e, h27⟩ | ⟨e, h27⟩
    ·
     clear h7 h10 h11 h12 h13 h14 h15 h16 h17
     subst e
     refine mv ?_
     refine vy (V.lenS h27 rfl Paf.ls23) fun x45_20 h28 => ?_
     refine vy (V.eq h28 rfl rfl) fun x46_21 h29 => ?_
     refine pu ?_
     exact la6 hS h29 ⟨rfl, rfl, rfl, rfl, rfl, rfl, trivial⟩
    ·
     clear h7 h10 h11 h12 h13 h14 h15 h16 h17
     subst e
     refine sk ?_
     refine sk ?_
     refine sk ?_
     refine pu ?_
     exact la6 hS h27 ⟨rfl, rfl, rfl, rfl, rfl, rfl, trivial⟩
   ·
    intro y0 y4 y6 y9 y11 y47 T6 n6 ρ its hS h18
    unfold g4_k2 at h18
    clear h7 h10 h11 h12 h13 h14 h15 h16 h17
    refine mv ?_
    refine ls2 X 4 59 [] (g4_k3 c1a c1b c1 c2a c2b c2 ro) 11 ?_ ?_
    ·
     rcases condK_inv h18 with ⟨e, h20⟩ | ⟨e, h20⟩
     ·
      clear h18
      subst e
      refine mv ?_
      refine mv ?_
      refine vy (V.lenT h20 rfl Paf.ls9) fun x51_14 h21 => ?_
      refine mv ?_
      refine mv ?_
      refine vy (V.ia h21 rfl rfl Paf.el29) fun x54_15 h22 => ?_
      refine vy (V.ld hS h22 rfl Paf.one3) fun x55_16 h23 => ?_
      refine vy (V.add h23 rfl rfl) fun x56_17 h24 => ?_
      refine LV.call hS h24 (g10_ok _ _ _ _ _ ) hP rfl rfl rfl rfl fun x57_18 T8 n8 h25 ρ its hS => ?_
      refine LV.call hS h25 (g9_ok _ _ _ _ _ ) hP rfl rfl rfl rfl fun x58_19 T9 n9 h26 ρ its hS => ?_
      refine pu ?_
      exact la2 hS h26 ⟨rfl, rfl, trivial⟩
     ·
      clear h18
      subst e
      refine sk ?_
      refine sk ?_
      refine sk ?_
      refine sk ?_
      refine sk ?_
      refine sk ?_
      refine sk ?_
      refine sk ?_
      refine sk ?_
      refine sk ?_
      refine pu ?_
      exact la2 hS h20 ⟨rfl, rfl, trivial⟩
    ·
     intro y4 y59 T7 n7 ρ its hS h19
     unfold g4_k3 at h19
     clear h18
     refine as_ ?_
     refine dn ?_
     refine CV.ret ?_
     cases h19
     exact PV.ret (by simp) Tryd.results4 hS (RS.tmp rfl RS.nil) rfl
noncomputable def g11 (ro : List HT) (a0 : AV) (T : HT) (nx : Nat) : R :=
 callK (g12 ro a0 (.lit (.func (.func 19) #[] #[])) T nx) fun x5_1 T1 n1 =>
 exK 110005 x5_1 0 fun x6_2 =>
 exK 110006 x5_1 1 fun x7_3 =>
 .ok (.val (.tup [x6_2, x7_3])) T1 n1
theorem g11_ok (ro : List HT) (a0 : AV) (T : HT) (nx : Nat) : GOk Tryd.prog envE 11 [a0] ro T nx (g11 ro a0 T nx) := by
 refine GOk.of_body Tryd.func11 rfl Tryd.ntmps11 (by kernel_rfl) rfl fun r T' n' h1 w0 base ρ0 its hS hP => ?_
 have X : CtxW envE ρ0 ro r T' n' := trivial
 unfold g11 at h1
 refine sr ?_
 refine as_ ?_
 refine as_ ?_
 refine dn ?_
 refine sr ?_
 refine mv ?_
 refine LV.call hS h1 (g12_ok _ _ _ _ _ ) hP rfl rfl rfl rfl fun x5_1 T1 n1 h2 ρ its hS => ?_
 refine vy (V.ex h2 rfl) fun x6_2 h3 => ?_
 refine vy (V.ex h3 rfl) fun x7_3 h4 => ?_
 refine as_ ?_
 refine as_ ?_
 refine dn ?_
 refine CV.ret ?_
 cases h4
 exact PV.ret (by simp) Tryd.results11 hS (RS.tmp rfl (RS.tmp rfl RS.nil)) rfl
noncomputable def g5_k2 (c1a : AV) (c1b : AV) (c1 : AV) (c2a : AV) (c2b : AV) (c2 : AV) (ro : List HT) (y0 y1 y5 y6 y7 y8 y45 : AV) (T7 : HT) (n7 : Nat) : R :=
 .ok (.val y45) T7 n7
noncomputable def g5_k6 (c1a : AV) (c1b : AV) (c1 : AV) (c2a : AV) (c2b : AV) (c2 : AV) (ro : List HT) (y0 y1 y4 y5 y7 y11 y13 y15 : AV) (T15 : HT) (n15 : Nat) : R :=
 condK 50093 y5
 (
  iaK 50095 y11 (.lit (.int .i64 (.ofNat 4))) 5 fun x114_37 =>
  faK 50096 x114_37 0 fun x115_38 =>
  ldK 50097 T15 ro x115_38 fun x116_39 =>
  eqK Tryd.prog 3 (.tmp 116) (.tmp 117) 50099 x116_39 y15 fun x118_40 =>
  condK 50102 x118_40
  (
   iaK 50104 y13 (.lit (.int .i64 (.ofNat 4))) 5 fun x122_41 =>
   faK 50105 x122_41 0 fun x123_42 =>
   ldK 50106 T15 ro x123_42 fun x124_43 =>
   iaK 50109 y7 y0 1 fun x127_44 =>
   ldK 50110 T15 ro x127_44 fun x128_45 =>
   eqK Tryd.prog 3 (.tmp 124) (.tmp 128) 50111 x124_43 x128_45 fun x129_46 =>
   condK 50114 x129_46
   (
    iaK 50116 y13 (.lit (.int .i64 (.ofNat 3))) 5 fun x133_47 =>
    faK 50117 x133_47 0 fun x134_48 =>
    ldK 50118 T15 ro x134_48 fun x135_49 =>
    iaK 50121 y7 y1 1 fun x138_50 =>
    ldK 50122 T15 ro x138_50 fun x139_51 =>
    eqK Tryd.prog 3 (.tmp 135) (.tmp 139) 50123 x135_49 x139_51 fun x140_52 =>
    .ok (.val x140_52) T15 n15
   )
   (
    .ok (.val (.lit (.bool false))) T15 n15
   )
  )
  (
   condK 50130 (.lit (.bool false))
   (
    .bad 0
   )
   (
    .ok (.val (.lit (.bool false))) T15 n15
   )
  )
 )
 (
  condK 50135 (.lit (.bool false))
  (
   .bad 0
  )
  (
   condK 50138 (.lit (.bool false))
   (
    .bad 0
   )
   (
    .ok (.val (.lit (.bool false))) T15 n15
   )
  )
 )
noncomputable def g5_k5 (c1a : AV) (c1b : AV) (c1 : AV) (c2a : AV) (c2b : AV) (c2 : AV) (ro : List HT) (y0 y1 y5 y7 y8 y11 y13 y93 : AV) (T14 : HT) (n14 : Nat) : R :=
 condK 50084 y93
 (
  .ok (.val (.lit (.bool false))) T14 n14
 )
 (
  iaK 50088 y7 y1 1 fun x96_35 =>
  ldK 50089 T14 ro x96_35 fun x97_36 =>
  iaK 50143 y8 y1 1 fun x100_53 =>
  ldK 50144 T14 ro x100_53 fun x101_54 =>
  iaK 50147 y8 y0 1 fun x104_55 =>
  ldK 50148 T14 ro x104_55 fun x105_56 =>
  gtK Tryd.prog 3 (.tmp 101) (.tmp 105) 50149 x101_54 x105_56 fun x106_57 =>
  condK 50150 x106_57
  (
   iaK 50153 y7 y0 1 fun x109_58 =>
   ldK 50154 T14 ro x109_58 fun x110_59 =>
   g5_k6 c1a c1b c1 c2a c2b c2 ro y0 y1 (.lit (.bool false)) y5 y7 y11 y13 x110_59 T14 n14
  )
  (
   g5_k6 c1a c1b c1 c2a c2b c2 ro y0 y1 (.lit (.bool false)) y5 y7 y11 y13 x97_36 T14 n14
  )
 )
noncomputable def g5_k4 (c1a : AV) (c1b : AV) (c1 : AV) (c2a : AV) (c2b : AV) (c2 : AV) (ro : List HT) (y0 y1 y5 y7 y8 y11 y13 y88 : AV) (T13 : HT) (n13 : Nat) : R :=
 condK 50156 y88
 (
  g5_k5 c1a c1b c1 c2a c2b c2 ro y0 y1 y5 y7 y8 y11 y13 (.lit (.bool true)) T13 n13
 )
 (
  lenSK 50159 y13 fun x91_60 =>
  neK Tryd.prog 3 (.tmp 91) (.const (.int .i64 (.ofNat 5))) 50160 x91_60 (.lit (.int .i64 (.ofNat 5))) fun x92_61 =>
  g5_k5 c1a c1b c1 c2a c2b c2 ro y0 y1 y5 y7 y8 y11 y13 x92_61 T13 n13
 )
noncomputable def g5_k3 (c1a : AV) (c1b : AV) (c1 : AV) (c2a : AV) (c2b : AV) (c2 : AV) (ro : List HT) (y0 y1 y5 y7 y8 y11 y13 y83 : AV) (T12 : HT) (n12 : Nat) : R :=
 condK 50162 y83
 (
  g5_k4 c1a c1b c1 c2a c2b c2 ro y0 y1 y5 y7 y8 y11 y13 (.lit (.bool true)) T12 n12
 )
 (
  lenSK 50165 y11 fun x86_62 =>
  neK Tryd.prog 3 (.tmp 86) (.const (.int .i64 (.ofNat 5))) 50166 x86_62 (.lit (.int .i64 (.ofNat 5))) fun x87_63 =>
  g5_k4 c1a c1b c1 c2a c2b c2 ro y0 y1 y5 y7 y8 y11 y13 x87_63 T12 n12
 )
noncomputable def g5_k1 (c1a : AV) (c1b : AV) (c1 : AV) (c2a : AV) (c2b : AV) (c2 : AV) (ro : List HT) (y0 y1 y5 y6 y7 y8 y35 : AV) (T5 : HT) (n5 : Nat) : R :=
 condK 50027 y35
 (
  callK (g11 ro (.lit (.string ⟨⟨[97, 32, 61, 61, 32, 98, 32, 61, 61, 32, 99]⟩⟩)) T5 n5) fun x37_7 T6 n6 =>
  exK 50030 x37_7 0 fun x38_8 =>
  exK 50031 x37_7 1 fun x39_9 =>
  condK 50037 y5
  (
   callK (g10 ro (.lit (.int .i64 (.ofNat 102))) (.lit (.int .i64 (.ofNat 7))) T6 n6) fun x43_10 T8 n8 =>
   callK (g9 ro x39_9 x43_10 T8 n8) fun x44_11 T9 n9 =>
   g5_k2 c1a c1b c1 c2a c2b c2 ro y0 y1 (.lit (.bool true)) y6 y7 y8 x44_11 T9 n9
  )
  (
   g5_k2 c1a c1b c1 c2a c2b c2 ro y0 y1 (.lit (.bool false)) y6 y7 y8 (.lit (.bool false)) T6 n6
  )
 )
 (
  iaK 50045 y6 y0 1 fun x49_12 =>
  ldK 50046 T5 ro x49_12 fun x50_13 =>
  addSK Tryd.prog 9 (.const (.string ⟨⟨[97, 32]⟩⟩)) (.tmp 50) 50047 (.lit (.string ⟨⟨[97, 32]⟩⟩)) x50_13 fun x51_14 =>
  addSK Tryd.prog 9 (.tmp 51) (.const (.string ⟨⟨[32, 98, 32]⟩⟩)) 50048 x51_14 (.lit (.string ⟨⟨[32, 98, 32]⟩⟩)) fun x52_15 =>
  iaK 50051 y6 y1 1 fun x55_16 =>
  ldK 50052 T5 ro x55_16 fun x56_17 =>
  addSK Tryd.prog 9 (.tmp 52) (.tmp 56) 50053 x52_15 x56_17 fun x57_18 =>
  addSK Tryd.prog 9 (.tmp 57) (.const (.string ⟨⟨[32, 99]⟩⟩)) 50054 x57_18 (.lit (.string ⟨⟨[32, 99]⟩⟩)) fun x58_19 =>
  callK (g11 ro x58_19 T5 n5) fun x59_20 T10 n10 =>
  exK 50057 x59_20 0 fun x60_21 =>
  exK 50058 x59_20 1 fun x61_22 =>
  iaK 50063 y6 y0 1 fun x65_23 =>
  ldK 50064 T10 ro x65_23 fun x66_24 =>
  addSK Tryd.prog 9 (.const (.string ⟨⟨[97, 32]⟩⟩)) (.tmp 66) 50065 (.lit (.string ⟨⟨[97, 32]⟩⟩)) x66_24 fun x67_25 =>
  addSK Tryd.prog 9 (.tmp 67) (.const (.string ⟨⟨[32, 40, 98, 32]⟩⟩)) 50066 x67_25 (.lit (.string ⟨⟨[32, 40, 98, 32]⟩⟩)) fun x68_26 =>
  iaK 50069 y6 y1 1 fun x71_27 =>
  ldK 50070 T10 ro x71_27 fun x72_28 =>
  addSK Tryd.prog 9 (.tmp 68) (.tmp 72) 50071 x68_26 x72_28 fun x73_29 =>
  addSK Tryd.prog 9 (.tmp 73) (.const (.string ⟨⟨[32, 99, 41]⟩⟩)) 50072 x73_29 (.lit (.string ⟨⟨[32, 99, 41]⟩⟩)) fun x74_30 =>
  callK (g11 ro x74_30 T10 n10) fun x75_31 T11 n11 =>
  exK 50075 x75_31 0 fun x76_32 =>
  exK 50076 x75_31 1 fun x77_33 =>
  bin0 Tryd.prog .neq 25 (.tmp 78) (.const (.nilIface)) 50080 x61_22 (.lit (.nilIface)) fun x79_34 =>
  condK 50168 x79_34
  (
   g5_k3 c1a c1b c1 c2a c2b c2 ro y0 y1 y5 y7 y8 x60_21 x76_32 (.lit (.bool true)) T11 n11
  )
  (
   bin0 Tryd.prog .neq 25 (.tmp 81) (.const (.nilIface)) 50171 x77_33 (.lit (.nilIface)) fun x82_64 =>
   g5_k3 c1a c1b c1 c2a c2b c2 ro y0 y1 y5 y7 y8 x60_21 x76_32 x82_64 T11 n11
  )
 )
noncomputable def g5 (c1a : AV) (c1b : AV) (c1 : AV) (c2a : AV) (c2b : AV) (c2 : AV) (ro : List HT) (q0 q1 : AV) (T : HT) (nx : Nat) : R :=
 callK (.ok (.val (.lit (.bool true))) T nx) fun x16_1 T1 n1 =>
 notK 50005 x16_1 fun x18_2 =>
 condK 50006 x18_2
 (
  .ok (.val (.lit (.bool false))) T1 n1
 )
 (
  bsK 50008 T1 n1 8 9 1 [(0, (.lit (.string ⟨⟨[111, 114]⟩⟩))), (1, (.lit (.string ⟨⟨[97, 110, 100]⟩⟩))), (2, (.lit (.string ⟨⟨[61, 61]⟩⟩))), (3, (.lit (.string ⟨⟨[43]⟩⟩))), (4, (.lit (.string ⟨⟨[45]⟩⟩))), (5, (.lit (.string ⟨⟨[42]⟩⟩))), (6, (.lit (.string ⟨⟨[47, 47]⟩⟩))), (7, (.lit (.string ⟨⟨[37]⟩⟩)))] fun x19_3 T2 n2 =>
  bsK 50010 T2 n2 8 3 1 [(0, (.lit (.int .i64 (.ofNat 19)))), (1, (.lit (.int .i64 (.ofNat 18)))), (2, (.lit (.int .i64 (.ofNat 26)))), (3, (.lit (.int .i64 (.ofNat 21)))), (4, (.lit (.int .i64 (.ofNat 22)))), (5, (.lit (.int .i64 (.ofNat 23)))), (6, (.lit (.int .i64 (.ofNat 24)))), (7, (.lit (.int .i64 (.ofNat 25))))] fun x20_4 T3 n3 =>
  bsK 50012 T3 n3 8 3 1 [(0, (.lit (.int .i64 (.ofNat 1)))), (1, (.lit (.int .i64 (.ofNat 2)))), (2, (.lit (.int .i64 (.ofNat 3)))), (3, (.lit (.int .i64 (.ofNat 4)))), (4, (.lit (.int .i64 (.ofNat 4)))), (5, (.lit (.int .i64 (.ofNat 5)))), (6, (.lit (.int .i64 (.ofNat 5)))), (7, (.lit (.int .i64 (.ofNat 5))))] fun x21_5 T4 n4 =>
  eqK Tryd.prog 3 (.tmp 30) (.const (.int .i64 (.ofNat 2))) 50025 c1 (.lit (.int .i64 (.ofNat 2))) fun x31_6 =>
  condK 50173 x31_6
  (
   eqK Tryd.prog 3 (.tmp 33) (.const (.int .i64 (.ofNat 2))) 50175 c2 (.lit (.int .i64 (.ofNat 2))) fun x34_65 =>
   g5_k1 c1a c1b c1 c2a c2b c2 ro c1 c2 x16_1 x19_3 x20_4 x21_5 x34_65 T4 n4
  )
  (
   g5_k1 c1a c1b c1 c2a c2b c2 ro c1 c2 x16_1 x19_3 x20_4 x21_5 (.lit (.bool false)) T4 n4
  )
 )
theorem g5_ok (c1a : AV) (c1b : AV) (c1 : AV) (c2a : AV) (c2b : AV) (c2 : AV) (q0 q1 : AV) (hOc1a : ∀ (W : World → Prop) (ρ : Rho) (af : AF), evalA af (.tmp 22) = some q0 → VAL Tryd.prog W ρ af (.binOp .rem 3 (.tmp 22) (.const (.int .i64 (.ofNat 8))) 3) c1a) (hOc1b : ∀ (W : World → Prop) (ρ : Rho) (af : AF), evalA af (.tmp 23) = some c1a → VAL Tryd.prog W ρ af (.binOp .add 3 (.tmp 23) (.const (.int .i64 (.ofNat 8))) 3) c1b) (hOc1 : ∀ (W : World → Prop) (ρ : Rho) (af : AF), evalA af (.tmp 24) = some c1b → VAL Tryd.prog W ρ af (.binOp .rem 3 (.tmp 24) (.const (.int .i64 (.ofNat 8))) 3) c1) (hOc2a : ∀ (W : World → Prop) (ρ : Rho) (af : AF), evalA af (.tmp 26) = some q1 → VAL Tryd.prog W ρ af (.binOp .rem 3 (.tmp 26) (.const (.int .i64 (.ofNat 8))) 3) c2a) (hOc2b : ∀ (W : World → Prop) (ρ : Rho) (af : AF), evalA af (.tmp 27) = some c2a → VAL Tryd.prog W ρ af (.binOp .add 3 (.tmp 27) (.const (.int .i64 (.ofNat 8))) 3) c2b) (hOc2 : ∀ (W : World → Prop) (ρ : Rho) (af : AF), evalA af (.tmp 28) = some c2b → VAL Tryd.prog W ρ af (.binOp .rem 3 (.tmp 28) (.const (.int .i64 (.ofNat 8))) 3) c2) (ro : List HT) (T : HT) (nx : Nat) (hF : GOk Tryd.prog envE 6 [] ro T nx (.ok (.val (.lit (.bool true))) T nx)) : GOk Tryd.prog envE 5 [q0, q1] ro T nx (g5 c1a c1b c1 c2a c2b c2 ro q0 q1 T nx) := by
 refine GOk.of_body Tryd.func5 rfl Tryd.ntmps5 (by kernel_rfl) rfl fun r T' n' h1 w0 base ρ0 its hS hP => ?_
 have X : CtxW envE ρ0 ro r T' n' := trivial
 unfold g5 at h1
 refine sr ?_
 refine as_ ?_
 refine dn ?_
 refine sr ?_
 refine LV.call hS h1 (hF) hP rfl rfl rfl rfl fun x16_1 T1 n1 h2 ρ its hS => ?_
 refine as_ ?_
 refine dn ?_
 refine CV.seq ?_
 refine sr ?_
 refine mv ?_
 refine vy (V.not h2 rfl) fun x18_2 h3 => ?_
 refine dn ?_
 refine CV.cond h3 rfl (fun e h4 => ?_) (fun e h4 => ?_)
 ·
  clear h1 h2 h3
  subst e
  refine sr ?_
  refine as_ ?_
  refine dn ?_
  refine CV.ret ?_
  refine PV.thenR ?_
  cases h4
  exact PV.ret (by simp) Tryd.results5 hS (RS.tmp rfl RS.nil) rfl
 ·
  clear h1 h2 h3
  subst e
  refine CV.skip ?_
  refine PV.thenN ?_
  refine sr ?_
  refine LV.bslice hS h4 rfl rfl Paf.el33 rfl rfl rfl rfl fun x19_3 T2 n2 h5 ρ its hS hdr => ?_
  refine as_ ?_
  refine dn ?_
  refine sr ?_
  refine LV.bslice hS h5 rfl rfl Paf.el29 rfl rfl rfl rfl fun x20_4 T3 n3 h6 ρ its hS hdr => ?_
  refine as_ ?_
  refine dn ?_
  refine sr ?_
  refine LV.bslice hS h6 rfl rfl Paf.el29 rfl rfl rfl rfl fun x21_5 T4 n4 h7 ρ its hS hdr => ?_
  refine as_ ?_
  refine dn ?_
  refine sr ?_
  refine mv ?_
  refine sv (hOc1a _ _ _ rfl) ?_
  refine sv (hOc1b _ _ _ rfl) ?_
  refine sv (hOc1 _ _ _ rfl) ?_
  refine as_ ?_
  refine dn ?_
  refine sr ?_
  refine mv ?_
  refine sv (hOc2a _ _ _ rfl) ?_
  refine sv (hOc2b _ _ _ rfl) ?_
  refine sv (hOc2 _ _ _ rfl) ?_
  refine as_ ?_
  refine dn ?_
  refine CV.seq ?_
  refine sr ?_
  refine mv ?_
  refine vy (V.eq h7 rfl rfl) fun x31_6 h8 => ?_
  refine mv ?_
  refine ls7 X 0 1 5 6 7 8 35 [(4, (.lit (.bool false)))] (g5_k1 c1a c1b c1 c2a c2b c2 ro) 3 ?_ ?_
  ·
   rcases condK_inv h8 with ⟨e, h86⟩ | ⟨e, h86⟩
   ·
    clear h4 h5 h6 h7 h8
    subst e
    refine mv ?_
    refine vy (V.eq h86 rfl rfl) fun x34_65 h87 => ?_
    refine pu ?_
    exact la7 hS h87 ⟨rfl, rfl, rfl, rfl, rfl, rfl, rfl, rfl, trivial⟩
   ·
    clear h4 h5 h6 h7 h8
    subst e
    refine sk ?_
    refine sk ?_
    refine pu ?_
    exact la7 hS h86 ⟨rfl, rfl, rfl, rfl, rfl, rfl, rfl, rfl, trivial⟩
  ·
   intro y0 y1 y5 y6 y7 y8 y35 T5 n5 ρ its hS h9
   unfold g5_k1 at h9
   clear h4 h5 h6 h7 h8
   refine dn ?_
   refine CV.cond h9 rfl (fun e h10 => ?_) (fun e h10 => ?_)
   ·
    clear h9
    subst e
    refine sr ?_
    refine LV.call hS h10 (g11_ok _ _ _ _ ) hP rfl rfl rfl rfl fun x37_7 T6 n6 h11 ρ its hS => ?_
    refine mv ?_
    refine vy (V.ex h11 rfl) fun x38_8 h12 => ?_
    refine vy (V.ex h12 rfl) fun x39_9 h13 => ?_
    refine as_ ?_
    refine as_ ?_
    refine dn ?_
    refine sr ?_
    refine mv ?_
    refine mv ?_
    refine ls7 X 0 1 5 6 7 8 45 [(4, (.lit (.bool false)))] (g5_k2 c1a c1b c1 c2a c2b c2 ro) 4 ?_ ?_
    ·
     rcases condK_inv h13 with ⟨e, h15⟩ | ⟨e, h15⟩
     ·
      clear h10 h11 h12 h13
      subst e
      refine mv ?_
      refine LV.call hS h15 (g10_ok _ _ _ _ _ ) hP rfl rfl rfl rfl fun x43_10 T8 n8 h16 ρ its hS => ?_
      refine LV.call hS h16 (g9_ok _ _ _ _ _ ) hP rfl rfl rfl rfl fun x44_11 T9 n9 h17 ρ its hS => ?_
      refine pu ?_
      exact la7 hS h17 ⟨rfl, rfl, rfl, rfl, rfl, rfl, rfl, rfl, trivial⟩
     ·
      clear h10 h11 h12 h13
      subst e
      refine sk ?_
      refine sk ?_
      refine sk ?_
      refine pu ?_
      exact la7 hS h15 ⟨rfl, rfl, rfl, rfl, rfl, rfl, rfl, rfl, trivial⟩
    ·
     intro y0 y1 y5 y6 y7 y8 y45 T7 n7 ρ its hS h14
     unfold g5_k2 at h14
     clear h10 h11 h12 h13
     refine as_ ?_
     refine dn ?_
     refine CV.ret ?_
     refine PV.thenR ?_
     cases h14
     exact PV.ret (by simp) Tryd.results5 hS (RS.tmp rfl RS.nil) rfl
   ·
    clear h9
    subst e
    refine CV.skip ?_
    refine PV.thenN ?_
    refine CV.seq ?_
    refine CV.regionM [(0, .anywhere), (1, .anywhere), (2, .anywhere), (3, .held), (4, .held), (5, .held), (6, .anywhere), (7, .anywhere), (8, .anywhere), (9, .held), (10, .held), (11, .held), (12, .alone), (13, .alone), (14, .anywhere), (15, .anywhere), (16, .alone), (17, .alone)] rfl (fun c a a' w hd hq => PanicOk.root (P := Tryd.prog) (fn := Tryd.f5) (w0 := w0) (base := base) (E := envE) (ro := ro) (r := r) (T' := T') (n' := n') (ρ0 := ρ0) c a a' w hd hq) (by kernel_rfl) ?_
    refine MV.step0 (i := 0) rfl (VAL.move rfl) rfl rfl rfl ?_
    refine MV.step0 (i := 1) rfl (VAL.move rfl) rfl rfl rfl ?_
    refine MV.lift0 (i := 2) rfl (V.ia h10 rfl rfl Paf.el33) rfl rfl rfl fun x49_12 h18 => ?_
    refine MV.lift1 (i := 3) rfl (fun _ z => z) (V.ld hS h18 rfl Paf.one9) rfl rfl rfl [] (by kernel_rfl) fun x50_13 h19 => ?_
    refine MV.lift1 (i := 4) rfl (fun _ z => z) (V.addS h19 rfl rfl) rfl rfl rfl [] (by kernel_rfl) fun x51_14 h20 => ?_
    refine MV.lift1 (i := 5) rfl (fun _ z => z) (V.addS h20 rfl rfl) rfl rfl rfl [] (by kernel_rfl) fun x52_15 h21 => ?_
    refine MV.step0 (i := 6) rfl (VAL.move rfl) rfl rfl rfl ?_
    refine MV.step0 (i := 7) rfl (VAL.move rfl) rfl rfl rfl ?_
    refine MV.lift0 (i := 8) rfl (V.ia h21 rfl rfl Paf.el33) rfl rfl rfl fun x55_16 h22 => ?_
    refine MV.lift1 (i := 9) rfl (fun _ z => z) (V.ld hS h22 rfl Paf.one9) rfl rfl rfl [5] (by kernel_rfl) fun x56_17 h23 => ?_
    refine MV.lift1 (i := 10) rfl (fun _ z => z) (V.addS h23 rfl rfl) rfl rfl rfl [] (by kernel_rfl) fun x57_18 h24 => ?_
    refine MV.lift1 (i := 11) rfl (fun _ z => z) (V.addS h24 rfl rfl) rfl rfl rfl [] (by kernel_rfl) fun x58_19 h25 => ?_
    refine MV.force (i := 12) rfl ?_
    refine LV.call hS h25 (g11_ok _ _ _ _ ) hP rfl rfl rfl rfl fun x59_20 T10 n10 h26 ρ its hS => ?_
    refine LV.nextM [] (by kernel_rfl) (fun z => absurd rfl z) ?_
    refine MV.force (i := 13) rfl ?_
    refine mv ?_
    refine LV.nextM [] (by kernel_rfl) (fun z => absurd rfl z) ?_
    refine MV.lift0 (i := 14) rfl (V.ex h26 rfl) rfl rfl rfl fun x60_21 h27 => ?_
    refine MV.lift0 (i := 15) rfl (V.ex h27 rfl) rfl rfl rfl fun x61_22 h28 => ?_
    refine MV.force (i := 16) rfl ?_
    refine as_ ?_
    refine LV.nextM [] (by kernel_rfl) (fun z => absurd rfl z) ?_
    refine MV.force (i := 17) rfl ?_
    refine as_ ?_
    refine LV.nextM [] (by kernel_rfl) (fun z => absurd rfl z) ?_
    refine mdn ?_
    refine CV.seq ?_
    refine CV.regionM [(0, .anywhere), (1, .anywhere), (2, .anywhere), (3, .held), (4, .held), (5, .held), (6, .anywhere), (7, .anywhere), (8, .anywhere), (9, .held), (10, .held), (11, .held), (12, .alone), (13, .alone), (14, .anywhere), (15, .anywhere), (16, .alone), (17, .alone)] rfl (fun c a a' w hd hq => PanicOk.root (P := Tryd.prog) (fn := Tryd.f5) (w0 := w0) (base := base) (E := envE) (ro := ro) (r := r) (T' := T') (n' := n') (ρ0 := ρ0) c a a' w hd hq) (by kernel_rfl) ?_
    refine MV.step0 (i := 0) rfl (VAL.move rfl) rfl rfl rfl ?_
    refine MV.step0 (i := 1) rfl (VAL.move rfl) rfl rfl rfl ?_
    refine MV.lift0 (i := 2) rfl (V.ia h28 rfl rfl Paf.el33) rfl rfl rfl fun x65_23 h29 => ?_
    refine MV.lift1 (i := 3) rfl (fun _ z => z) (V.ld hS h29 rfl Paf.one9) rfl rfl rfl [] (by kernel_rfl) fun x66_24 h30 => ?_
    refine MV.lift1 (i := 4) rfl (fun _ z => z) (V.addS h30 rfl rfl) rfl rfl rfl [] (by kernel_rfl) fun x67_25 h31 => ?_
    refine MV.lift1 (i := 5) rfl (fun _ z => z) (V.addS h31 rfl rfl) rfl rfl rfl [] (by kernel_rfl) fun x68_26 h32 => ?_
    refine MV.step0 (i := 6) rfl (VAL.move rfl) rfl rfl rfl ?_
    refine MV.step0 (i := 7) rfl (VAL.move rfl) rfl rfl rfl ?_
    refine MV.lift0 (i := 8) rfl (V.ia h32 rfl rfl Paf.el33) rfl rfl rfl fun x71_27 h33 => ?_
    refine MV.lift1 (i := 9) rfl (fun _ z => z) (V.ld hS h33 rfl Paf.one9) rfl rfl rfl [5] (by kernel_rfl) fun x72_28 h34 => ?_
    refine MV.lift1 (i := 10) rfl (fun _ z => z) (V.addS h34 rfl rfl) rfl rfl rfl [] (by kernel_rfl) fun x73_29 h35 => ?_
    refine MV.lift1 (i := 11) rfl (fun _ z => z) (V.addS h35 rfl rfl) rfl rfl rfl [] (by kernel_rfl) fun x74_30 h36 => ?_
    refine MV.force (i := 12) rfl ?_
    refine LV.call hS h36 (g11_ok _ _ _ _ ) hP rfl rfl rfl rfl fun x75_31 T11 n11 h37 ρ its hS => ?_
    refine LV.nextM [] (by kernel_rfl) (fun z => absurd rfl z) ?_
    refine MV.force (i := 13) rfl ?_
    refine mv ?_
    refine LV.nextM [] (by kernel_rfl) (fun z => absurd rfl z) ?_
    refine MV.lift0 (i := 14) rfl (V.ex h37 rfl) rfl rfl rfl fun x76_32 h38 => ?_
    refine MV.lift0 (i := 15) rfl (V.ex h38 rfl) rfl rfl rfl fun x77_33 h39 => ?_
    refine MV.force (i := 16) rfl ?_
    refine as_ ?_
    refine LV.nextM [] (by kernel_rfl) (fun z => absurd rfl z) ?_
    refine MV.force (i := 17) rfl ?_
    refine as_ ?_
    refine LV.nextM [] (by kernel_rfl) (fun z => absurd rfl z) ?_
    refine mdn ?_
    refine CV.seq ?_
    refine sr ?_
    refine mv ?_
    refine vy (V.bin0 h39 rfl rfl) fun x79_34 h40 => ?_
    refine mv ?_
    refine ls8 X 0 1 5 7 8 11 13 83 [(4, (.lit (.bool false)))] (g5_k3 c1a c1b c1 c2a c2b c2 ro) 3 ?_ ?_
    ·
     rcases condK_inv h40 with ⟨e, h84⟩ | ⟨e, h84⟩
     ·
      clear h10 h18 h19 h20 h21 h22 h23 h24 h25 h26 h27 h28 h29 h30 h31 h32 h33 h34 h35 h36 h37 h38 h39 h40
      subst e
      refine sk ?_
      refine sk ?_
      refine pu ?_
      exact la8 hS h84 ⟨rfl, rfl, rfl, rfl, rfl, rfl, rfl, rfl, rfl, trivial⟩
     ·
      clear h10 h18 h19 h20 h21 h22 h23 h24 h25 h26 h27 h28 h29 h30 h31 h32 h33 h34 h35 h36 h37 h38 h39 h40
      subst e
      refine mv ?_
      refine vy (V.bin0 h84 rfl rfl) fun x82_64 h85 => ?_
      refine pu ?_
      exact la8 hS h85 ⟨rfl, rfl, rfl, rfl, rfl, rfl, rfl, rfl, rfl, trivial⟩
    ·
     intro y0 y1 y5 y7 y8 y11 y13 y83 T12 n12 ρ its hS h41
     unfold g5_k3 at h41
     clear h10 h18 h19 h20 h21 h22 h23 h24 h25 h26 h27 h28 h29 h30 h31 h32 h33 h34 h35 h36 h37 h38 h39 h40
     refine mv ?_
     refine ls8 X 0 1 5 7 8 11 13 88 [(4, (.lit (.bool false)))] (g5_k4 c1a c1b c1 c2a c2b c2 ro) 4 ?_ ?_
     ·
      rcases condK_inv h41 with ⟨e, h81⟩ | ⟨e, h81⟩
      ·
       clear h41
       subst e
       refine sk ?_
       refine sk ?_
       refine sk ?_
       refine pu ?_
       exact la8 hS h81 ⟨rfl, rfl, rfl, rfl, rfl, rfl, rfl, rfl, rfl, trivial⟩
      ·
       clear h41
       subst e
       refine mv ?_
       refine vy (V.lenS h81 rfl Paf.ls23) fun x86_62 h82 => ?_
       refine vy (V.ne h82 rfl rfl) fun x87_63 h83 => ?_
       refine pu ?_
       exact la8 hS h83 ⟨rfl, rfl, rfl, rfl, rfl, rfl, rfl, rfl, rfl, trivial⟩
     ·
      intro y0 y1 y5 y7 y8 y11 y13 y88 T13 n13 ρ its hS h42
      unfold g5_k4 at h42
      clear h41
      refine mv ?_
      refine ls8 X 0 1 5 7 8 11 13 93 [(4, (.lit (.bool false)))] (g5_k5 c1a c1b c1 c2a c2b c2 ro) 4 ?_ ?_
      ·
       rcases condK_inv h42 with ⟨e, h78⟩ | ⟨e, h78⟩
       ·
        clear h42
        subst e
        refine sk ?_
        refine sk ?_
        refine sk ?_
        refine pu ?_
        exact la8 hS h78 ⟨rfl, rfl, rfl, rfl, rfl, rfl, rfl, rfl, rfl, trivial⟩
       ·
        clear h42
        subst e
        refine mv ?_
        refine vy (V.lenS h78 rfl Paf.ls23) fun x91_60 h79 => ?_
        refine vy (V.ne h79 rfl rfl) fun x92_61 h80 => ?_
        refine pu ?_
        exact la8 hS h80 ⟨rfl, rfl, rfl, rfl, rfl, rfl, rfl, rfl, rfl, trivial⟩
      ·
       intro y0 y1 y5 y7 y8 y11 y13 y93 T14 n14 ρ its hS h43
       unfold g5_k5 at h43
       clear h42
       refine dn ?_
       refine CV.cond h43 rfl (fun e h44 => ?_) (fun e h44 => ?_)
       ·
        clear h43
        subst e
        refine sr ?_
        refine as_ ?_
        refine dn ?_
        refine CV.ret ?_
        refine PV.thenR ?_
        cases h44
        exact PV.ret (by simp) Tryd.results5 hS (RS.tmp rfl RS.nil) rfl
       ·
        clear h43
        subst e
        refine CV.skip ?_
        refine PV.thenN ?_
        refine sr ?_
        refine mv ?_
        refine mv ?_
        refine vy (V.ia h44 rfl rfl Paf.el29) fun x96_35 h45 => ?_
        refine vy (V.ld hS h45 rfl Paf.one3) fun x97_36 h46 => ?_
        refine as_ ?_
        refine dn ?_
        refine cs8 X 0 1 4 5 7 11 13 15 [] (g5_k6 c1a c1b c1 c2a c2b c2 ro) ?_ ?_
        ·
         refine CV.seq ?_
         refine CV.regionM [(0, .anywhere), (1, .anywhere), (2, .anywhere), (3, .held), (4, .anywhere), (5, .anywhere), (6, .anywhere), (7, .held), (8, .held)] rfl (fun c a a' w hd hq => PanicOk.root (P := Tryd.prog) (fn := Tryd.f5) (w0 := w0) (base := base) (E := envE) (ro := ro) (r := r) (T' := T') (n' := n') (ρ0 := ρ0) c a a' w hd hq) (by kernel_rfl) ?_
         refine MV.step0 (i := 0) rfl (VAL.move rfl) rfl rfl rfl ?_
         refine MV.step0 (i := 1) rfl (VAL.move rfl) rfl rfl rfl ?_
         refine MV.lift0 (i := 2) rfl (V.ia h46 rfl rfl Paf.el29) rfl rfl rfl fun x100_53 h70 => ?_
         refine MV.lift1 (i := 3) rfl (fun _ z => z) (V.ld hS h70 rfl Paf.one3) rfl rfl rfl [] (by kernel_rfl) fun x101_54 h71 => ?_
         refine MV.step0 (i := 4) rfl (VAL.move rfl) rfl rfl rfl ?_
         refine MV.step0 (i := 5) rfl (VAL.move rfl) rfl rfl rfl ?_
         refine MV.lift0 (i := 6) rfl (V.ia h71 rfl rfl Paf.el29) rfl rfl rfl fun x104_55 h72 => ?_
         refine MV.lift1 (i := 7) rfl (fun _ z => z) (V.ld hS h72 rfl Paf.one3) rfl rfl rfl [3] (by kernel_rfl) fun x105_56 h73 => ?_
         refine MV.lift1 (i := 8) rfl (fun _ z => z) (V.gt h73 rfl rfl) rfl rfl rfl [] (by kernel_rfl) fun x106_57 h74 => ?_
         refine mdn ?_
         refine CV.cond h74 rfl (fun e h75 => ?_) (fun e h75 => ?_)
         ·
          clear h44 h45 h46 h70 h71 h72 h73 h74
          subst e
          refine CV.region ?_
          refine mv ?_
          refine mv ?_
          refine vy (V.ia h75 rfl rfl Paf.el29) fun x109_58 h76 => ?_
          refine vy (V.ld hS h76 rfl Paf.one3) fun x110_59 h77 => ?_
          refine as_ ?_
          refine LV.done ?_
          exact pa8 hS h77 ⟨rfl, rfl, rfl, rfl, rfl, rfl, rfl, rfl, trivial⟩
         ·
          clear h44 h45 h46 h70 h71 h72 h73 h74
          subst e
          refine CV.skip ?_
          exact pa8 hS h75 ⟨rfl, rfl, rfl, rfl, rfl, rfl, rfl, rfl, trivial⟩
        ·
         intro y0 y1 y4 y5 y7 y11 y13 y15 T15 n15 ρ its hS h47
         unfold g5_k6 at h47
         clear h44 h45 h46
         refine CV.seq ?_
         refine CV.regionM [(0, .anywhere), (1, .anywhere), (2, .anywhere), (3, .anywhere), (4, .anywhere), (5, .held), (6, .anywhere), (7, .held), (8, .held), (9, .held), (10, .held), (11, .held), (12, .held), (13, .held), (14, .anywhere), (15, .anywhere), (16, .anywhere), (17, .held), (18, .held), (19, .held), (20, .held), (21, .held), (22, .held), (23, .held), (24, .held), (25, .anywhere), (26, .anywhere), (27, .anywhere), (28, .held), (29, .held), (30, .held), (31, .held)] rfl (fun c a a' w hd hq => PanicOk.root (P := Tryd.prog) (fn := Tryd.f5) (w0 := w0) (base := base) (E := envE) (ro := ro) (r := r) (T' := T') (n' := n') (ρ0 := ρ0) c a a' w hd hq) (by kernel_rfl) ?_
         refine MV.step0 (i := 0) rfl (VAL.move rfl) rfl rfl rfl ?_
         refine MV.step0 (i := 1) rfl (VAL.move rfl) rfl rfl rfl ?_
         rcases condK_inv h47 with ⟨e, h48⟩ | ⟨e, h48⟩
         ·
          clear h47
          subst e
          refine MV.step0 (i := 2) rfl (VAL.move rfl) rfl rfl rfl ?_
          refine MV.lift0 (i := 3) rfl (V.ia h48 rfl rfl Paf.el23) rfl rfl rfl fun x114_37 h49 => ?_
          refine MV.lift0 (i := 4) rfl (V.fa h49 rfl Paf.fo31_0) rfl rfl rfl fun x115_38 h50 => ?_
          refine MV.lift1 (i := 5) rfl (fun _ z => z) (V.ld hS h50 rfl Paf.one3) rfl rfl rfl [] (by kernel_rfl) fun x116_39 h51 => ?_
          refine MV.step0 (i := 6) rfl (VAL.move rfl) rfl rfl rfl ?_
          refine MV.lift1 (i := 7) rfl (fun _ z => z) (V.eq h51 rfl rfl) rfl rfl rfl [] (by kernel_rfl) fun x118_40 h52 => ?_
          refine MV.step1 (i := 8) rfl (fun _ z => z) (VAL.pure rfl) rfl rfl rfl [] (by kernel_rfl) ?_
          refine MV.step1 (i := 9) rfl (fun _ z => z) (VAL.move rfl) rfl rfl rfl [] (by kernel_rfl) ?_
          rcases condK_inv h52 with ⟨e, h53⟩ | ⟨e, h53⟩
          ·
           clear h48 h49 h50 h51 h52
           subst e
           refine MV.step1 (i := 10) rfl (fun _ z => z) (VAL.move rfl) rfl rfl rfl [] (by kernel_rfl) ?_
           refine MV.lift1 (i := 11) rfl (fun _ z => z) (V.ia h53 rfl rfl Paf.el23) rfl rfl rfl [] (by kernel_rfl) fun x122_41 h54 => ?_
           refine MV.lift1 (i := 12) rfl (fun _ z => z) (V.fa h54 rfl Paf.fo31_0) rfl rfl rfl [] (by kernel_rfl) fun x123_42 h55 => ?_
           refine MV.lift1 (i := 13) rfl (fun _ z => z) (V.ld hS h55 rfl Paf.one3) rfl rfl rfl [] (by kernel_rfl) fun x124_43 h56 => ?_
           refine MV.step0 (i := 14) rfl (VAL.move rfl) rfl rfl rfl ?_
           refine MV.step0 (i := 15) rfl (VAL.move rfl) rfl rfl rfl ?_
           refine MV.lift0 (i := 16) rfl (V.ia h56 rfl rfl Paf.el29) rfl rfl rfl fun x127_44 h57 => ?_
           refine MV.lift1 (i := 17) rfl (fun _ z => z) (V.ld hS h57 rfl Paf.one3) rfl rfl rfl [13] (by kernel_rfl) fun x128_45 h58 => ?_
           refine MV.lift1 (i := 18) rfl (fun _ z => z) (V.eq h58 rfl rfl) rfl rfl rfl [] (by kernel_rfl) fun x129_46 h59 => ?_
           refine MV.step1 (i := 19) rfl (fun _ z => z) (VAL.pure rfl) rfl rfl rfl [] (by kernel_rfl) ?_
           refine MV.step1 (i := 20) rfl (fun _ z => z) (VAL.move rfl) rfl rfl rfl [] (by kernel_rfl) ?_
           rcases condK_inv h59 with ⟨e, h60⟩ | ⟨e, h60⟩
           ·
            clear h53 h54 h55 h56 h57 h58 h59
            subst e
            refine MV.step1 (i := 21) rfl (fun _ z => z) (VAL.move rfl) rfl rfl rfl [] (by kernel_rfl) ?_
            refine MV.lift1 (i := 22) rfl (fun _ z => z) (V.ia h60 rfl rfl Paf.el23) rfl rfl rfl [] (by kernel_rfl) fun x133_47 h61 => ?_
            refine MV.lift1 (i := 23) rfl (fun _ z => z) (V.fa h61 rfl Paf.fo31_0) rfl rfl rfl [] (by kernel_rfl) fun x134_48 h62 => ?_
            refine MV.lift1 (i := 24) rfl (fun _ z => z) (V.ld hS h62 rfl Paf.one3) rfl rfl rfl [] (by kernel_rfl) fun x135_49 h63 => ?_
            refine MV.step0 (i := 25) rfl (VAL.move rfl) rfl rfl rfl ?_
            refine MV.step0 (i := 26) rfl (VAL.move rfl) rfl rfl rfl ?_
            refine MV.lift0 (i := 27) rfl (V.ia h63 rfl rfl Paf.el29) rfl rfl rfl fun x138_50 h64 => ?_
            refine MV.lift1 (i := 28) rfl (fun _ z => z) (V.ld hS h64 rfl Paf.one3) rfl rfl rfl [24] (by kernel_rfl) fun x139_51 h65 => ?_
            refine MV.lift1 (i := 29) rfl (fun _ z => z) (V.eq h65 rfl rfl) rfl rfl rfl [] (by kernel_rfl) fun x140_52 h66 => ?_
            refine MV.step1 (i := 30) rfl (fun _ z => z) (VAL.pure rfl) rfl rfl rfl [] (by kernel_rfl) ?_
            refine MV.step1 (i := 31) rfl (fun _ z => z) (VAL.assign rfl) rfl rfl rfl [] (by kernel_rfl) ?_
            refine mdn ?_
            refine CV.ret ?_
            cases h66
            exact PV.ret (by simp) Tryd.results5 hS (RS.tmp rfl RS.nil) rfl
           ·
            clear h53 h54 h55 h56 h57 h58 h59
            subst e
            refine MV.skip1 (i := 21) rfl (fun _ z => z) rfl rfl rfl [] (by kernel_rfl) ?_
            refine MV.skip1 (i := 22) rfl (fun _ z => z) rfl rfl rfl [] (by kernel_rfl) ?_
            refine MV.skip1 (i := 23) rfl (fun _ z => z) rfl rfl rfl [] (by kernel_rfl) ?_
            refine MV.skip1 (i := 24) rfl (fun _ z => z) rfl rfl rfl [] (by kernel_rfl) ?_
            refine MV.skip0 (i := 25) rfl rfl rfl rfl ?_
            refine MV.skip0 (i := 26) rfl rfl rfl rfl ?_
            refine MV.skip0 (i := 27) rfl rfl rfl rfl ?_
            refine MV.skip1 (i := 28) rfl (fun _ z => z) rfl rfl rfl [24] (by kernel_rfl) ?_
            refine MV.skip1 (i := 29) rfl (fun _ z => z) rfl rfl rfl [] (by kernel_rfl) ?_
            refine MV.step1 (i := 30) rfl (fun _ z => z) (VAL.pure rfl) rfl rfl rfl [] (by kernel_rfl) ?_
            refine MV.step1 (i := 31) rfl (fun _ z => z) (VAL.assign rfl) rfl rfl rfl [] (by kernel_rfl) ?_
            refine mdn ?_
            refine CV.ret ?_
            cases h60
            exact PV.ret (by simp) Tryd.results5 hS (RS.tmp rfl RS.nil) rfl
          ·
           clear h48 h49 h50 h51 h52
           subst e
           refine MV.skip1 (i := 10) rfl (fun _ z => z) rfl rfl rfl [] (by kernel_rfl) ?_
           refine MV.skip1 (i := 11) rfl (fun _ z => z) rfl rfl rfl [] (by kernel_rfl) ?_
           refine MV.skip1 (i := 12) rfl (fun _ z => z) rfl rfl rfl [] (by kernel_rfl) ?_
           refine MV.skip1 (i := 13) rfl (fun _ z => z) rfl rfl rfl [] (by kernel_rfl) ?_
           refine MV.skip0 (i := 14) rfl rfl rfl rfl ?_
           refine MV.skip0 (i := 15) rfl rfl rfl rfl ?_
           refine MV.skip0 (i := 16) rfl rfl rfl rfl ?_
           refine MV.skip1 (i := 17) rfl (fun _ z => z) rfl rfl rfl [13] (by kernel_rfl) ?_
           refine MV.skip1 (i := 18) rfl (fun _ z => z) rfl rfl rfl [] (by kernel_rfl) ?_
           refine MV.step1 (i := 19) rfl (fun _ z => z) (VAL.pure rfl) rfl rfl rfl [] (by kernel_rfl) ?_
           refine MV.step1 (i := 20) rfl (fun _ z => z) (VAL.move rfl) rfl rfl rfl [] (by kernel_rfl) ?_
           rcases condK_inv h53 with ⟨e, h67⟩ | ⟨e, h67⟩
           ·
            clear h53
            cases e
           ·
            clear h53
            refine MV.skip1 (i := 21) rfl (fun _ z => z) rfl rfl rfl [] (by kernel_rfl) ?_
            refine MV.skip1 (i := 22) rfl (fun _ z => z) rfl rfl rfl [] (by kernel_rfl) ?_
            refine MV.skip1 (i := 23) rfl (fun _ z => z) rfl rfl rfl [] (by kernel_rfl) ?_
            refine MV.skip1 (i := 24) rfl (fun _ z => z) rfl rfl rfl [] (by kernel_rfl) ?_
            refine MV.skip0 (i := 25) rfl rfl rfl rfl ?_
            refine MV.skip0 (i := 26) rfl rfl rfl rfl ?_
            refine MV.skip0 (i := 27) rfl rfl rfl rfl ?_
            refine MV.skip1 (i := 28) rfl (fun _ z => z) rfl rfl rfl [24] (by kernel_rfl) ?_
            refine MV.skip1 (i := 29) rfl (fun _ z => z) rfl rfl rfl [] (by kernel_rfl) ?_
            refine MV.step1 (i := 30) rfl (fun _ z => z) (VAL.pure rfl) rfl rfl rfl [] (by kernel_rfl) ?_
            refine MV.step1 (i := 31) rfl (fun _ z => z) (VAL.assign rfl) rfl rfl rfl [] (by kernel_rfl) ?_
            refine mdn ?_
            refine CV.ret ?_
            cases h67
            exact PV.ret (by simp) Tryd.results5 hS (RS.tmp rfl RS.nil) rfl
         ·
          clear h47
          subst e
          refine MV.skip0 (i := 2) rfl rfl rfl rfl ?_
          refine MV.skip0 (i := 3) rfl rfl rfl rfl ?_
          refine MV.skip0 (i := 4) rfl rfl rfl rfl ?_
          refine MV.skip1 (i := 5) rfl (fun _ z => z) rfl rfl rfl [] (by kernel_rfl) ?_
          refine MV.skip0 (i := 6) rfl rfl rfl rfl ?_
          refine MV.skip1 (i := 7) rfl (fun _ z => z) rfl rfl rfl [] (by kernel_rfl) ?_
          refine MV.step1 (i := 8) rfl (fun _ z => z) (VAL.pure rfl) rfl rfl rfl [] (by kernel_rfl) ?_
          refine MV.step1 (i := 9) rfl (fun _ z => z) (VAL.move rfl) rfl rfl rfl [] (by kernel_rfl) ?_
          rcases condK_inv h48 with ⟨e, h68⟩ | ⟨e, h68⟩
          ·
           clear h48
           cases e
          ·
           clear h48
           refine MV.skip1 (i := 10) rfl (fun _ z => z) rfl rfl rfl [] (by kernel_rfl) ?_
           refine MV.skip1 (i := 11) rfl (fun _ z => z) rfl rfl rfl [] (by kernel_rfl) ?_
           refine MV.skip1 (i := 12) rfl (fun _ z => z) rfl rfl rfl [] (by kernel_rfl) ?_
           refine MV.skip1 (i := 13) rfl (fun _ z => z) rfl rfl rfl [] (by kernel_rfl) ?_
           refine MV.skip0 (i := 14) rfl rfl rfl rfl ?_
           refine MV.skip0 (i := 15) rfl rfl rfl rfl ?_
           refine MV.skip0 (i := 16) rfl rfl rfl rfl ?_
           refine MV.skip1 (i := 17) rfl (fun _ z => z) rfl rfl rfl [13] (by kernel_rfl) ?_
           refine MV.skip1 (i := 18) rfl (fun _ z => z) rfl rfl rfl [] (by kernel_rfl) ?_
           refine MV.step1 (i := 19) rfl (fun _ z => z) (VAL.pure rfl) rfl rfl rfl [] (by kernel_rfl) ?_
           refine MV.step1 (i := 20) rfl (fun _ z => z) (VAL.move rfl) rfl rfl rfl [] (by kernel_rfl) ?_
           rcases condK_inv h68 with ⟨e, h69⟩ | ⟨e, h69⟩
           ·
            clear h68
            cases e
           ·
            clear h68
            refine MV.skip1 (i := 21) rfl (fun _ z => z) rfl rfl rfl [] (by kernel_rfl) ?_
            refine MV.skip1 (i := 22) rfl (fun _ z => z) rfl rfl rfl [] (by kernel_rfl) ?_
            refine MV.skip1 (i := 23) rfl (fun _ z => z) rfl rfl rfl [] (by kernel_rfl) ?_
            refine MV.skip1 (i := 24) rfl (fun _ z => z) rfl rfl rfl [] (by kernel_rfl) ?_
            refine MV.skip0 (i := 25) rfl rfl rfl rfl ?_
            refine MV.skip0 (i := 26) rfl rfl rfl rfl ?_
            refine MV.skip0 (i := 27) rfl rfl rfl rfl ?_
            refine MV.skip1 (i := 28) rfl (fun _ z => z) rfl rfl rfl [24] (by kernel_rfl) ?_
            refine MV.skip1 (i := 29) rfl (fun _ z => z) rfl rfl rfl [] (by kernel_rfl) ?_
            refine MV.step1 (i := 30) rfl (fun _ z => z) (VAL.pure rfl) rfl rfl rfl [] (by kernel_rfl) ?_
            refine MV.step1 (i := 31) rfl (fun _ z => z) (VAL.assign rfl) rfl rfl rfl [] (by kernel_rfl) ?_
            refine mdn ?_
            refine CV.ret ?_
            cases h69
            exact PV.ret (by simp) Tryd.results5 hS (RS.tmp rfl RS.nil) rfl

end Go.Proofs.YtdepmlcnllofiaaDoor.Pa
