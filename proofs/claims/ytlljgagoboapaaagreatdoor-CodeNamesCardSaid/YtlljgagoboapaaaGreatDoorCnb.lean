/-
  Proved here: plain functions that do what the program's functions do, each with its proof.
-/
import Derived.Test.YtlljgagoboapaaaGreatDoorCna
namespace Go.Proofs.YtlljgagoboapaaaGreatDoor.Cn
open Go.EY Go.EX Go.SX Go.RowKit
noncomputable def g72 (ih : FuncId → List HT → List AV → HT → Nat → R) (ro : List HT) (a0 : AV) (T : HT) (nx : Nat) : R :=
 callK (ih 73 ro [a0] T nx) fun x3_1 T1 n1 =>
 .ok (.val (.tup [])) T1 n1
theorem g72_ok (ih : FuncId → List HT → List AV → HT → Nat → R) (hI : ∀ f ro args T nx, GOk Tryz.prog envE f args ro T nx (ih f ro args T nx)) (ro : List HT) (a0 : AV) (T : HT) (nx : Nat) : GOk Tryz.prog envE 72 [a0] ro T nx (g72 ih ro a0 T nx) := by
 refine GOk.of_body Tryz.func72 rfl Tryz.ntmps72 (by kernel_rfl) rfl fun r T' n' h1 w0 base ρ0 its hS hP => ?_
 have X : CtxW envE ρ0 ro r T' n' := trivial
 unfold g72 at h1
 refine CV.region ?_
 refine mv ?_
 refine LV.call hS h1 (hI _ _ _ _ _) hP rfl rfl rfl rfl fun x3_1 T1 n1 h2 ρ its hS => ?_
 refine LV.done ?_
 cases h2
 exact PV.ret (by simp) Tryz.results72 hS RS.nil rfl
noncomputable def g73_b1 (ih : FuncId → List HT → List AV → HT → Nat → R) (ro : List HT) (lp1 : AV → AV → HT → Nat → R) (y0 y2 : AV) (T1 : HT) (n1 : Nat) : R :=
 callK (g86 ro y0 T1 n1) fun x4_1 T2 n2 =>
 neK Tryz.prog 3 (.tmp 4) (.const (.int .i64 (.ofNat 8))) 730005 x4_1 (.lit (.int .i64 (.ofNat 8))) fun x5_2 =>
 condK 730006 x5_2
 (
  callK (ih 102 ro [y0, (.lit (.bool true))] T2 n2) fun x8_3 T3 n3 =>
  bsK 730010 T3 n3 1 3 1 [(0, x8_3)] fun x9_4 T4 n4 =>
  shrK 730012 T4 y2 fun T5 =>
  appEK 730011 T5 ro n4 3 1 8 y2 x9_4 fun x10_5 T6 n6 =>
  lp1 y0 x10_5 T6 n6
 )
 (
  lenSK 730015 y2 fun x12_6 =>
  eqK Tryz.prog 3 (.tmp 12) (.const (.int .i64 (.ofNat 0))) 730016 x12_6 (.lit (.int .i64 (.ofNat 0))) fun x13_7 =>
  condK 730017 x13_7
  (
   .bad 730018
  )
  (
   ncK 730021 y0 fun x19_8 =>
   faK 730022 x19_8 2 fun x20_9 =>
   ldK 730023 T2 ro x20_9 fun x21_10 =>
   iaK 730025 y2 (.lit (.int .i64 (.ofNat 0))) 1 fun x23_11 =>
   ldK 730026 T2 ro x23_11 fun x24_12 =>
   iaK 730027 x21_10 x24_12 5 fun x25_13 =>
   faK 730028 x25_13 2 fun x26_14 =>
   ldK 730029 T2 ro x26_14 fun x27_15 =>
   callK (g103 ro y0 (.lit (.int .i64 (.ofNat 47))) x27_15 (.lit (.string ⟨⟨[]⟩⟩)) y2 T2 n2) fun x29_16 T7 n7 =>
   .ok (.val (.tup [])) T7 n7
  )
 )
noncomputable def g73 (ih : FuncId → List HT → List AV → HT → Nat → R) (ro : List HT) (a0 : AV) (T : HT) (nx : Nat) : R :=
 lpf2 730002 (g73_b1 ih ro) 100000 a0 (.lit (.slice none 0 0)) T nx
theorem g73_ok (ih : FuncId → List HT → List AV → HT → Nat → R) (hI : ∀ f ro args T nx, GOk Tryz.prog envE f args ro T nx (ih f ro args T nx)) (ro : List HT) (a0 : AV) (T : HT) (nx : Nat) : GOk Tryz.prog envE 73 [a0] ro T nx (g73 ih ro a0 T nx) := by
 refine GOk.of_body Tryz.func73 rfl Tryz.ntmps73 (by kernel_rfl) rfl fun r T' n' h1 w0 base ρ0 its hS hP => ?_
 have X : CtxW envE ρ0 ro r T' n' := trivial
 unfold g73 at h1
 refine sr ?_
 refine as_ ?_
 refine dn ?_
 refine CV.seq ?_
 refine CV.block ?_
 refine cl2 X 0 2 [] hS h1 ⟨rfl, rfl, trivial⟩ ?_
 intro f1 y0 y2 T1 n1 ρ its hS h2
 unfold g73_b1 at h2
 clear h1
 refine CV.seq ?_
 refine sr ?_
 refine mv ?_
 refine LV.call hS h2 (g86_ok _ _ _ _ ) hP rfl rfl rfl rfl fun x4_1 T2 n2 h3 ρ its hS => ?_
 refine vy (V.ne h3 rfl rfl) fun x5_2 h4 => ?_
 refine dn ?_
 refine CV.cond h4 rfl (fun e h5 => ?_) (fun e h5 => ?_)
 ·
  clear h2 h3 h4
  subst e
  refine CV.skip ?_
  refine PV.thenN ?_
  refine CV.block ?_
  refine CV.region ?_
  refine mv ?_
  refine mv ?_
  refine LV.call hS h5 (hI _ _ _ _ _) hP rfl rfl rfl rfl fun x8_3 T3 n3 h6 ρ its hS => ?_
  refine LV.bslice hS h6 rfl rfl Cnf.el170 rfl rfl rfl rfl fun x9_4 T4 n4 h7 ρ its hS hdr => ?_
  obtain ⟨T5, its1, h8, hS, hW⟩ := shrK_inv hS h7
  refine LV.world hW ?_
  refine LV.appE hS h8 rfl rfl rfl rfl Cnf.el170 rfl rfl rfl fun x10_5 T6 n6 h9 ρ its hS => ?_
  refine as_ ?_
  refine LV.done ?_
  refine PV.blockN ?_
  exact pb2 hS h9 ⟨rfl, rfl, trivial⟩
 ·
  clear h2 h3 h4
  subst e
  refine CV.exit ?_
  refine PV.thenE ?_
  refine PV.thenE ?_
  refine PV.blockE ?_
  refine PV.thenN ?_
  refine CV.seq ?_
  refine sr ?_
  refine mv ?_
  refine vy (V.lenS h5 rfl Cnf.ls170) fun x12_6 h10 => ?_
  refine vy (V.eq h10 rfl rfl) fun x13_7 h11 => ?_
  refine dn ?_
  refine CV.cond h11 rfl (fun e h12 => ?_) (fun e h12 => ?_)
  ·
   clear h5 h10 h11
   subst e
   cases h12
  ·
   clear h5 h10 h11
   subst e
   refine CV.skip ?_
   refine PV.thenN ?_
   refine CV.regionM [(0, .anywhere), (1, .anywhere), (2, .anywhere), (3, .anywhere), (4, .held), (5, .anywhere), (6, .anywhere), (7, .held), (8, .held), (9, .held), (10, .held), (11, .anywhere), (12, .alone)] rfl (fun c a a' w hd hq => PanicOk.root (P := Tryz.prog) (fn := Tryz.f73) (w0 := w0) (base := base) (E := envE) (ro := ro) (r := r) (T' := T') (n' := n') (ρ0 := ρ0) c a a' w hd hq) (by kernel_rfl) ?_
   refine MV.step0 (i := 0) rfl (VAL.move rfl) rfl rfl rfl ?_
   refine MV.step0 (i := 1) rfl (VAL.move rfl) rfl rfl rfl ?_
   refine MV.lift0 (i := 2) rfl (V.nc h12 rfl) rfl rfl rfl fun x19_8 h13 => ?_
   refine MV.lift0 (i := 3) rfl (V.fa h13 rfl Cnf.fo185_2) rfl rfl rfl fun x20_9 h14 => ?_
   refine MV.lift1 (i := 4) rfl (fun _ z => z) (V.ld hS h14 rfl Cnf.one109) rfl rfl rfl [] (by kernel_rfl) fun x21_10 h15 => ?_
   refine MV.step0 (i := 5) rfl (VAL.move rfl) rfl rfl rfl ?_
   refine MV.lift0 (i := 6) rfl (V.ia h15 rfl rfl Cnf.el170) rfl rfl rfl fun x23_11 h16 => ?_
   refine MV.lift1 (i := 7) rfl (fun _ z => z) (V.ld hS h16 rfl Cnf.one3) rfl rfl rfl [4] (by kernel_rfl) fun x24_12 h17 => ?_
   refine MV.lift1 (i := 8) rfl (fun _ z => z) (V.ia h17 rfl rfl Cnf.el109) rfl rfl rfl [] (by kernel_rfl) fun x25_13 h18 => ?_
   refine MV.lift1 (i := 9) rfl (fun _ z => z) (V.fa h18 rfl Cnf.fo172_2) rfl rfl rfl [] (by kernel_rfl) fun x26_14 h19 => ?_
   refine MV.lift1 (i := 10) rfl (fun _ z => z) (V.ld hS h19 rfl Cnf.one3) rfl rfl rfl [] (by kernel_rfl) fun x27_15 h20 => ?_
   refine MV.step0 (i := 11) rfl (VAL.move rfl) rfl rfl rfl ?_
   refine MV.force (i := 12) rfl ?_
   refine LV.call hS h20 (g103_ok _ _ _ _ _ _ _ _ ) hP rfl rfl rfl rfl fun x29_16 T7 n7 h21 ρ its hS => ?_
   refine LV.nextM [] (by kernel_rfl) (fun z => absurd rfl z) ?_
   refine MV.done ?_
   cases h21
   exact PV.ret (by simp) Tryz.results73 hS RS.nil rfl
noncomputable def g85 (ih : FuncId → List HT → List AV → HT → Nat → R) (ro : List HT) (a0 : AV) (T : HT) (nx : Nat) : R :=
 callK (ih 115 ro [a0] T nx) fun x7_1 T1 n1 =>
 exK 850005 x7_1 0 fun x8_2 =>
 exK 850006 x7_1 1 fun x9_3 =>
 .ok (.val x8_2) T1 n1
theorem g85_ok (ih : FuncId → List HT → List AV → HT → Nat → R) (hI : ∀ f ro args T nx, GOk Tryz.prog envE f args ro T nx (ih f ro args T nx)) (ro : List HT) (a0 : AV) (T : HT) (nx : Nat) : GOk Tryz.prog envE 85 [a0] ro T nx (g85 ih ro a0 T nx) := by
 refine GOk.of_body Tryz.func85 rfl Tryz.ntmps85 (by kernel_rfl) rfl fun r T' n' h1 w0 base ρ0 its hS hP => ?_
 have X : CtxW envE ρ0 ro r T' n' := trivial
 unfold g85 at h1
 refine sr ?_
 refine as_ ?_
 refine dn ?_
 refine sr ?_
 refine mv ?_
 refine LV.call hS h1 (hI _ _ _ _ _) hP rfl rfl rfl rfl fun x7_1 T1 n1 h2 ρ its hS => ?_
 refine mv ?_
 refine vy (V.ex h2 rfl) fun x8_2 h3 => ?_
 refine vy (V.ex h3 rfl) fun x9_3 h4 => ?_
 refine as_ ?_
 refine as_ ?_
 refine dn ?_
 refine sr ?_
 refine mv ?_
 refine as_ ?_
 refine dn ?_
 refine CV.ret ?_
 cases h4
 exact PV.ret (by simp) Tryz.results85 hS (RS.tmp rfl RS.nil) rfl
noncomputable def g102 (ih : FuncId → List HT → List AV → HT → Nat → R) (ro : List HT) (a0 a1 : AV) (T : HT) (nx : Nat) : R :=
 bsK 1020003 T nx 1 9 1 [(0, (.lit (.string ⟨⟨[105, 102]⟩⟩)))] fun x8_1 T1 n1 =>
 callK (g134 ro a0 x8_1 T1 n1) fun x9_2 T2 n2 =>
 condK 1020006 x9_2
 (
  .bad 1020007
 )
 (
  bsK 1020009 T2 n2 1 9 1 [(0, (.lit (.string ⟨⟨[102, 111, 114]⟩⟩)))] fun x14_3 T3 n3 =>
  callK (g134 ro a0 x14_3 T3 n3) fun x15_4 T4 n4 =>
  condK 1020012 x15_4
  (
   .bad 1020013
  )
  (
   bsK 1020015 T4 n4 1 9 1 [(0, (.lit (.string ⟨⟨[100, 101, 102]⟩⟩)))] fun x20_5 T5 n5 =>
   callK (g134 ro a0 x20_5 T5 n5) fun x21_6 T6 n6 =>
   condK 1020018 x21_6
   (
    .bad 1020019
   )
   (
    callK (ih 138 ro [a0, a1] T6 n6) fun x30_7 T7 n7 =>
    callK (g87 ro a0 (.lit (.int .i64 (.ofNat 5))) T7 n7) fun x32_8 T8 n8 =>
    .ok (.val x30_7) T8 n8
   )
  )
 )
theorem g102_ok (ih : FuncId → List HT → List AV → HT → Nat → R) (hI : ∀ f ro args T nx, GOk Tryz.prog envE f args ro T nx (ih f ro args T nx)) (ro : List HT) (a0 a1 : AV) (T : HT) (nx : Nat) : GOk Tryz.prog envE 102 [a0, a1] ro T nx (g102 ih ro a0 a1 T nx) := by
 refine GOk.of_body Tryz.func102 rfl Tryz.ntmps102 (by kernel_rfl) rfl fun r T' n' h1 w0 base ρ0 its hS hP => ?_
 have X : CtxW envE ρ0 ro r T' n' := trivial
 unfold g102 at h1
 refine sr ?_
 refine as_ ?_
 refine dn ?_
 refine CV.seq ?_
 refine CV.block ?_
 refine sr ?_
 refine mv ?_
 refine LV.bslice hS h1 rfl rfl Cnf.el54 rfl rfl rfl rfl fun x8_1 T1 n1 h2 ρ its hS hdr => ?_
 refine LV.call hS h2 (g134_ok _ _ _ _ _ ) hP rfl rfl rfl rfl fun x9_2 T2 n2 h3 ρ its hS => ?_
 refine as_ ?_
 refine dn ?_
 refine CV.cond h3 rfl (fun e h4 => ?_) (fun e h4 => ?_)
 ·
  clear h1 h2 h3
  subst e
  cases h4
 ·
  clear h1 h2 h3
  subst e
  refine sr ?_
  refine mv ?_
  refine LV.bslice hS h4 rfl rfl Cnf.el54 rfl rfl rfl rfl fun x14_3 T3 n3 h5 ρ its hS hdr => ?_
  refine LV.call hS h5 (g134_ok _ _ _ _ _ ) hP rfl rfl rfl rfl fun x15_4 T4 n4 h6 ρ its hS => ?_
  refine as_ ?_
  refine dn ?_
  refine CV.cond h6 rfl (fun e h7 => ?_) (fun e h7 => ?_)
  ·
   clear h4 h5 h6
   subst e
   cases h7
  ·
   clear h4 h5 h6
   subst e
   refine sr ?_
   refine mv ?_
   refine LV.bslice hS h7 rfl rfl Cnf.el54 rfl rfl rfl rfl fun x20_5 T5 n5 h8 ρ its hS hdr => ?_
   refine LV.call hS h8 (g134_ok _ _ _ _ _ ) hP rfl rfl rfl rfl fun x21_6 T6 n6 h9 ρ its hS => ?_
   refine as_ ?_
   refine dn ?_
   refine CV.cond h9 rfl (fun e h10 => ?_) (fun e h10 => ?_)
   ·
    clear h7 h8 h9
    subst e
    cases h10
   ·
    clear h7 h8 h9
    subst e
    refine CV.skip ?_
    refine PV.blockN ?_
    refine PV.thenN ?_
    refine sr ?_
    refine mv ?_
    refine mv ?_
    refine LV.call hS h10 (hI _ _ _ _ _) hP rfl rfl rfl rfl fun x30_7 T7 n7 h11 ρ its hS => ?_
    refine as_ ?_
    refine dn ?_
    refine sr ?_
    refine mv ?_
    refine LV.call hS h11 (g87_ok _ _ _ _ _ ) hP rfl rfl rfl rfl fun x32_8 T8 n8 h12 ρ its hS => ?_
    refine dn ?_
    refine sr ?_
    refine mv ?_
    refine as_ ?_
    refine dn ?_
    refine CV.ret ?_
    cases h12
    exact PV.ret (by simp) Tryz.results102 hS (RS.tmp rfl RS.nil) rfl
noncomputable def g115_k1 (ih : FuncId → List HT → List AV → HT → Nat → R) (ro : List HT) (y0 y2 y3 y4 y5 y6 : AV) (T4 : HT) (n4 : Nat) : R :=
 notK 1150012 y6 fun x22_4 =>
 condK 1150013 x22_4
 (
  iaK 1150015 y5 (.lit (.int .i64 (.ofNat 0))) 1 fun x24_5 =>
  ldK 1150016 T4 ro x24_5 fun x25_6 =>
  .ok (.val (.tup [x25_6, (.lit (.bool false))])) T4 n4
 )
 (
  callK (g103 ro y0 (.lit (.int .i64 (.ofNat 8))) y4 (.lit (.string ⟨⟨[]⟩⟩)) y5 T4 n4) fun x29_7 T5 n5 =>
  .ok (.val (.tup [x29_7, (.lit (.bool true))])) T5 n5
 )
noncomputable def g115_b2 (ih : FuncId → List HT → List AV → HT → Nat → R) (ro : List HT) (lp2 : AV → AV → AV → AV → AV → AV → HT → Nat → R) (y0 y2 y3 y4 y5 y6 : AV) (T6 : HT) (n6 : Nat) : R :=
 callK (g154 ro y0 (.lit (.string ⟨⟨[44]⟩⟩)) T6 n6) fun x13_8 T7 n7 =>
 condK 1150028 x13_8
 (
  callK (g155 ro y0 T7 n7) fun x15_9 T8 n8 =>
  condK 1150032 x15_9
  (
   g115_k1 ih ro y0 y2 y3 y4 y5 (.lit (.bool true)) T8 n8
  )
  (
   callK (ih 153 ro [y0] T8 n8) fun x18_10 T9 n9 =>
   bsK 1150036 T9 n9 1 3 1 [(0, x18_10)] fun x19_11 T10 n10 =>
   shrK 1150038 T10 y5 fun T11 =>
   appEK 1150037 T11 ro n10 3 1 8 y5 x19_11 fun x20_12 T12 n12 =>
   lp2 y0 y2 y3 y4 x20_12 (.lit (.bool true)) T12 n12
  )
 )
 (
  g115_k1 ih ro y0 y2 y3 y4 y5 y6 T7 n7
 )
noncomputable def g115 (ih : FuncId → List HT → List AV → HT → Nat → R) (ro : List HT) (a0 : AV) (T : HT) (nx : Nat) : R :=
 callK (g152 ro a0 T nx) fun x8_1 T1 n1 =>
 callK (ih 153 ro [a0] T1 n1) fun x10_2 T2 n2 =>
 bsK 1150008 T2 n2 1 3 1 [(0, x10_2)] fun x11_3 T3 n3 =>
 lpf6 1150025 (g115_b2 ih ro) 100000 a0 (.lit (.int .i64 (.ofNat 0))) (.lit (.bool false)) x8_1 x11_3 (.lit (.bool false)) T3 n3
theorem g115_ok (ih : FuncId → List HT → List AV → HT → Nat → R) (hI : ∀ f ro args T nx, GOk Tryz.prog envE f args ro T nx (ih f ro args T nx)) (ro : List HT) (a0 : AV) (T : HT) (nx : Nat) : GOk Tryz.prog envE 115 [a0] ro T nx (g115 ih ro a0 T nx) := by
 refine GOk.of_body Tryz.func115 rfl Tryz.ntmps115 (by kernel_rfl) rfl fun r T' n' h1 w0 base ρ0 its hS hP => ?_
 have X : CtxW envE ρ0 ro r T' n' := trivial
 unfold g115 at h1
 refine sr ?_
 refine as_ ?_
 refine as_ ?_
 refine dn ?_
 refine sr ?_
 refine mv ?_
 refine LV.call hS h1 (g152_ok _ _ _ _ ) hP rfl rfl rfl rfl fun x8_1 T1 n1 h2 ρ its hS => ?_
 refine as_ ?_
 refine dn ?_
 refine sr ?_
 refine mv ?_
 refine LV.call hS h2 (hI _ _ _ _ _) hP rfl rfl rfl rfl fun x10_2 T2 n2 h3 ρ its hS => ?_
 refine LV.bslice hS h3 rfl rfl Cnf.el170 rfl rfl rfl rfl fun x11_3 T3 n3 h4 ρ its hS hdr => ?_
 refine as_ ?_
 refine dn ?_
 refine sr ?_
 refine as_ ?_
 refine dn ?_
 refine cs6 X 0 2 3 4 5 6 [] (g115_k1 ih ro) ?_ ?_
 ·
  refine CV.block ?_
  refine cl6 X 0 2 3 4 5 6 [] hS h4 ⟨rfl, rfl, rfl, rfl, rfl, rfl, trivial⟩ ?_
  intro f2 y0 y2 y3 y4 y5 y6 T6 n6 ρ its hS h11
  unfold g115_b2 at h11
  clear h1 h2 h3 h4
  refine CV.seq ?_
  refine sr ?_
  refine mv ?_
  refine LV.call hS h11 (g154_ok _ _ _ _ _ ) hP rfl rfl rfl rfl fun x13_8 T7 n7 h12 ρ its hS => ?_
  refine dn ?_
  refine CV.cond h12 rfl (fun e h13 => ?_) (fun e h13 => ?_)
  ·
   clear h11 h12
   subst e
   refine CV.skip ?_
   refine PV.thenN ?_
   refine CV.block ?_
   refine sr ?_
   refine as_ ?_
   refine dn ?_
   refine CV.seq ?_
   refine sr ?_
   refine mv ?_
   refine LV.call hS h13 (g155_ok _ _ _ _ ) hP rfl rfl rfl rfl fun x15_9 T8 n8 h14 ρ its hS => ?_
   refine dn ?_
   refine CV.cond h14 rfl (fun e h15 => ?_) (fun e h15 => ?_)
   ·
    clear h13 h14
    subst e
    refine CV.exit ?_
    refine PV.thenE ?_
    refine PV.blockO rfl ?_
    refine PV.thenE ?_
    refine PV.blockE ?_
    exact pa6 hS h15 ⟨rfl, rfl, rfl, rfl, rfl, rfl, trivial⟩
   ·
    clear h13 h14
    subst e
    refine CV.skip ?_
    refine PV.thenN ?_
    refine CV.region ?_
    refine mv ?_
    refine mv ?_
    refine LV.call hS h15 (hI _ _ _ _ _) hP rfl rfl rfl rfl fun x18_10 T9 n9 h16 ρ its hS => ?_
    refine LV.bslice hS h16 rfl rfl Cnf.el170 rfl rfl rfl rfl fun x19_11 T10 n10 h17 ρ its hS hdr => ?_
    obtain ⟨T11, its1, h18, hS, hW⟩ := shrK_inv hS h17
    refine LV.world hW ?_
    refine LV.appE hS h18 rfl rfl rfl rfl Cnf.el170 rfl rfl rfl fun x20_12 T12 n12 h19 ρ its hS => ?_
    refine as_ ?_
    refine LV.done ?_
    refine PV.blockN ?_
    exact pb6 hS h19 ⟨rfl, rfl, rfl, rfl, rfl, rfl, trivial⟩
  ·
   clear h11 h12
   subst e
   refine CV.exit ?_
   refine PV.thenE ?_
   refine PV.thenE ?_
   refine PV.blockE ?_
   exact pa6 hS h13 ⟨rfl, rfl, rfl, rfl, rfl, rfl, trivial⟩
 ·
  intro y0 y2 y3 y4 y5 y6 T4 n4 ρ its hS h5
  unfold g115_k1 at h5
  clear h1 h2 h3 h4
  refine CV.seq ?_
  refine sr ?_
  refine mv ?_
  refine vy (V.not h5 rfl) fun x22_4 h6 => ?_
  refine dn ?_
  refine CV.cond h6 rfl (fun e h7 => ?_) (fun e h7 => ?_)
  ·
   clear h5 h6
   subst e
   refine sr ?_
   refine mv ?_
   refine vy (V.ia h7 rfl rfl Cnf.el170) fun x24_5 h8 => ?_
   refine vy (V.ld hS h8 rfl Cnf.one3) fun x25_6 h9 => ?_
   refine as_ ?_
   refine as_ ?_
   refine dn ?_
   refine CV.ret ?_
   refine PV.thenR ?_
   cases h9
   exact PV.ret (by simp) Tryz.results115 hS (RS.tmp rfl (RS.tmp rfl RS.nil)) rfl
  ·
   clear h5 h6
   subst e
   refine CV.skip ?_
   refine PV.thenN ?_
   refine sr ?_
   refine mv ?_
   refine mv ?_
   refine mv ?_
   refine LV.call hS h7 (g103_ok _ _ _ _ _ _ _ _ ) hP rfl rfl rfl rfl fun x29_7 T5 n5 h10 ρ its hS => ?_
   refine as_ ?_
   refine as_ ?_
   refine dn ?_
   refine CV.ret ?_
   cases h10
   exact PV.ret (by simp) Tryz.results115 hS (RS.tmp rfl (RS.tmp rfl RS.nil)) rfl
noncomputable def g138 (ih : FuncId → List HT → List AV → HT → Nat → R) (ro : List HT) (a0 a1 : AV) (T : HT) (nx : Nat) : R :=
 callK (g152 ro a0 T nx) fun x10_1 T1 n1 =>
 callK (g154 ro a0 (.lit (.string ⟨⟨[112, 97, 115, 115]⟩⟩)) T1 n1) fun x13_2 T2 n2 =>
 condK 1380008 x13_2
 (
  .bad 1380009
 )
 (
  bsK 1380011 T2 n2 2 9 1 [(0, (.lit (.string ⟨⟨[98, 114, 101, 97, 107]⟩⟩))), (1, (.lit (.string ⟨⟨[99, 111, 110, 116, 105, 110, 117, 101]⟩⟩)))] fun x19_3 T3 n3 =>
  callK (g134 ro a0 x19_3 T3 n3) fun x20_4 T4 n4 =>
  condK 1380014 x20_4
  (
   .bad 1380015
  )
  (
   bsK 1380017 T4 n4 1 9 1 [(0, (.lit (.string ⟨⟨[114, 101, 116, 117, 114, 110]⟩⟩)))] fun x45_5 T5 n5 =>
   callK (g134 ro a0 x45_5 T5 n5) fun x46_6 T6 n6 =>
   condK 1380020 x46_6
   (
    .bad 1380021
   )
   (
    bsK 1380023 T6 n6 1 9 1 [(0, (.lit (.string ⟨⟨[108, 111, 97, 100]⟩⟩)))] fun x51_7 T7 n7 =>
    callK (g134 ro a0 x51_7 T7 n7) fun x52_8 T8 n8 =>
    condK 1380026 x52_8
    (
     .bad 1380027
    )
    (
     callK (ih 85 ro [a0] T8 n8) fun x60_9 T9 n9 =>
     callK (g152 ro a0 T9 n9) fun x62_10 T10 n10 =>
     bsK 1380035 T10 n10 1 9 1 [(0, (.lit (.string ⟨⟨[61]⟩⟩)))] fun x65_11 T11 n11 =>
     callK (g134 ro a0 x65_11 T11 n11) fun x66_12 T12 n12 =>
     condK 1380038 x66_12
     (
      callK (scc1 4000 185 ro [a0, x60_9] T12 n12) fun x69_13 T13 n13 =>
      notK 1380042 x69_13 fun x70_14 =>
      condK 1380043 x70_14
      (
       .bad 1380044
      )
      (
       fldK 1380046 T13 ro a0 1 fun x76_15 =>
       addK Tryz.prog 3 (.tmp 76) (.const (.int .i64 (.ofNat 1))) 1380047 x76_15 (.lit (.int .i64 (.ofNat 1))) fun x77_16 =>
       faK 1380048 a0 1 fun x79_17 =>
       stK 1380049 T13 x79_17 x77_16 fun T14 =>
       callK (ih 85 ro [a0] T14 n13) fun x84_18 T15 n15 =>
       bsK 1380055 T15 n15 2 3 1 [(0, x60_9), (1, x84_18)] fun x85_19 T16 n16 =>
       callK (g103 ro a0 (.lit (.int .i64 (.ofNat 36))) x62_10 (.lit (.string ⟨⟨[]⟩⟩)) x85_19 T16 n16) fun x86_20 T17 n17 =>
       .ok (.val x86_20) T17 n17
      )
     )
     (
      bsK 1380059 T12 n12 1 9 1 [(0, (.lit (.string ⟨⟨[43, 61]⟩⟩)))] fun x89_21 T18 n18 =>
      callK (g134 ro a0 x89_21 T18 n18) fun x90_22 T19 n19 =>
      condK 1380062 x90_22
      (
       .bad 1380063
      )
      (
       fldK 1380066 T19 ro a0 2 fun x125_23 =>
       iaK 1380068 x125_23 x60_9 5 fun x127_24 =>
       faK 1380069 x127_24 2 fun x128_25 =>
       ldK 1380070 T19 ro x128_25 fun x129_26 =>
       bsK 1380072 T19 n19 1 3 1 [(0, x60_9)] fun x131_27 T20 n20 =>
       callK (g103 ro a0 (.lit (.int .i64 (.ofNat 35))) x129_26 (.lit (.string ⟨⟨[]⟩⟩)) x131_27 T20 n20) fun x132_28 T21 n21 =>
       .ok (.val x132_28) T21 n21
      )
     )
    )
   )
  )
 )
theorem g138_ok (ih : FuncId → List HT → List AV → HT → Nat → R) (hI : ∀ f ro args T nx, GOk Tryz.prog envE f args ro T nx (ih f ro args T nx)) (ro : List HT) (a0 a1 : AV) (T : HT) (nx : Nat) : GOk Tryz.prog envE 138 [a0, a1] ro T nx (g138 ih ro a0 a1 T nx) := by
 refine GOk.of_body Tryz.func138 rfl Tryz.ntmps138 (by kernel_rfl) rfl fun r T' n' h1 w0 base ρ0 its hS hP => ?_
 have X : CtxW envE ρ0 ro r T' n' := trivial
 unfold g138 at h1
 refine sr ?_
 refine as_ ?_
 refine dn ?_
 refine sr ?_
 refine mv ?_
 refine LV.call hS h1 (g152_ok _ _ _ _ ) hP rfl rfl rfl rfl fun x10_1 T1 n1 h2 ρ its hS => ?_
 refine as_ ?_
 refine dn ?_
 refine CV.seq ?_
 refine CV.block ?_
 refine sr ?_
 refine mv ?_
 refine LV.call hS h2 (g154_ok _ _ _ _ _ ) hP rfl rfl rfl rfl fun x13_2 T2 n2 h3 ρ its hS => ?_
 refine as_ ?_
 refine dn ?_
 refine CV.cond h3 rfl (fun e h4 => ?_) (fun e h4 => ?_)
 ·
  clear h1 h2 h3
  subst e
  cases h4
 ·
  clear h1 h2 h3
  subst e
  refine sr ?_
  refine mv ?_
  refine LV.bslice hS h4 rfl rfl Cnf.el54 rfl rfl rfl rfl fun x19_3 T3 n3 h5 ρ its hS hdr => ?_
  refine LV.call hS h5 (g134_ok _ _ _ _ _ ) hP rfl rfl rfl rfl fun x20_4 T4 n4 h6 ρ its hS => ?_
  refine as_ ?_
  refine dn ?_
  refine CV.cond h6 rfl (fun e h7 => ?_) (fun e h7 => ?_)
  ·
   clear h4 h5 h6
   subst e
   cases h7
  ·
   clear h4 h5 h6
   subst e
   refine sr ?_
   refine mv ?_
   refine LV.bslice hS h7 rfl rfl Cnf.el54 rfl rfl rfl rfl fun x45_5 T5 n5 h8 ρ its hS hdr => ?_
   refine LV.call hS h8 (g134_ok _ _ _ _ _ ) hP rfl rfl rfl rfl fun x46_6 T6 n6 h9 ρ its hS => ?_
   refine as_ ?_
   refine dn ?_
   refine CV.cond h9 rfl (fun e h10 => ?_) (fun e h10 => ?_)
   ·
    clear h7 h8 h9
    subst e
    cases h10
   ·
    clear h7 h8 h9
    subst e
    refine sr ?_
    refine mv ?_
    refine LV.bslice hS h10 rfl rfl Cnf.el54 rfl rfl rfl rfl fun x51_7 T7 n7 h11 ρ its hS hdr => ?_
    refine LV.call hS h11 (g134_ok _ _ _ _ _ ) hP rfl rfl rfl rfl fun x52_8 T8 n8 h12 ρ its hS => ?_
    refine as_ ?_
    refine dn ?_
    refine CV.cond h12 rfl (fun e h13 => ?_) (fun e h13 => ?_)
    ·
     clear h10 h11 h12
     subst e
     cases h13
    ·
     clear h10 h11 h12
     subst e
     refine CV.skip ?_
     refine PV.blockN ?_
     refine PV.thenN ?_
     refine sr ?_
     refine mv ?_
     refine LV.call hS h13 (hI _ _ _ _ _) hP rfl rfl rfl rfl fun x60_9 T9 n9 h14 ρ its hS => ?_
     refine as_ ?_
     refine dn ?_
     refine sr ?_
     refine mv ?_
     refine LV.call hS h14 (g152_ok _ _ _ _ ) hP rfl rfl rfl rfl fun x62_10 T10 n10 h15 ρ its hS => ?_
     refine as_ ?_
     refine dn ?_
     refine CV.seq ?_
     refine CV.block ?_
     refine sr ?_
     refine mv ?_
     refine LV.bslice hS h15 rfl rfl Cnf.el54 rfl rfl rfl rfl fun x65_11 T11 n11 h16 ρ its hS hdr => ?_
     refine LV.call hS h16 (g134_ok _ _ _ _ _ ) hP rfl rfl rfl rfl fun x66_12 T12 n12 h17 ρ its hS => ?_
     refine as_ ?_
     refine dn ?_
     refine CV.cond h17 rfl (fun e h18 => ?_) (fun e h18 => ?_)
     ·
      clear h13 h14 h15 h16 h17
      subst e
      refine CV.seq ?_
      refine sr ?_
      refine mv ?_
      refine mv ?_
      refine LV.call hS h18 (scc1_ok _ _ _ _ _ _) hP rfl rfl rfl rfl fun x69_13 T13 n13 h19 ρ its hS => ?_
      refine vy (V.not h19 rfl) fun x70_14 h20 => ?_
      refine dn ?_
      refine CV.cond h20 rfl (fun e h21 => ?_) (fun e h21 => ?_)
      ·
       clear h18 h19 h20
       subst e
       cases h21
      ·
       clear h18 h19 h20
       subst e
       refine CV.skip ?_
       refine PV.thenN ?_
       refine sr ?_
       refine mv ?_
       refine fl hS h21 Cnf.fo185_1 Cnf.one3 fun x76_15 h22 => ?_
       refine vy (V.add h22 rfl rfl) fun x77_16 h23 => ?_
       refine fa2 h23 Cnf.fo185_1 fun x79_17 h24 => ?_
       refine LV.st hS h24 rfl rfl rfl Cnf.siz3 rfl rfl fun T14 its h25 hS => ?_
       refine dn ?_
       refine sr ?_
       refine mv ?_
       refine mv ?_
       refine mv ?_
       refine mv ?_
       refine LV.call hS h25 (hI _ _ _ _ _) hP rfl rfl rfl rfl fun x84_18 T15 n15 h26 ρ its hS => ?_
       refine LV.bslice hS h26 rfl rfl Cnf.el170 rfl rfl rfl rfl fun x85_19 T16 n16 h27 ρ its hS hdr => ?_
       refine LV.call hS h27 (g103_ok _ _ _ _ _ _ _ _ ) hP rfl rfl rfl rfl fun x86_20 T17 n17 h28 ρ its hS => ?_
       refine as_ ?_
       refine dn ?_
       refine CV.ret ?_
       refine PV.blockR ?_
       refine PV.thenR ?_
       cases h28
       exact PV.ret (by simp) Tryz.results138 hS (RS.tmp rfl RS.nil) rfl
     ·
      clear h13 h14 h15 h16 h17
      subst e
      refine sr ?_
      refine mv ?_
      refine LV.bslice hS h18 rfl rfl Cnf.el54 rfl rfl rfl rfl fun x89_21 T18 n18 h29 ρ its hS hdr => ?_
      refine LV.call hS h29 (g134_ok _ _ _ _ _ ) hP rfl rfl rfl rfl fun x90_22 T19 n19 h30 ρ its hS => ?_
      refine as_ ?_
      refine dn ?_
      refine CV.cond h30 rfl (fun e h31 => ?_) (fun e h31 => ?_)
      ·
       clear h18 h29 h30
       subst e
       cases h31
      ·
       clear h18 h29 h30
       subst e
       refine CV.skip ?_
       refine PV.blockN ?_
       refine PV.thenN ?_
       refine sr ?_
       refine mv ?_
       refine mv ?_
       refine fl hS h31 Cnf.fo185_2 Cnf.one109 fun x125_23 h32 => ?_
       refine mv ?_
       refine vy (V.ia h32 rfl rfl Cnf.el109) fun x127_24 h33 => ?_
       refine vy (V.fa h33 rfl Cnf.fo172_2) fun x128_25 h34 => ?_
       refine vy (V.ld hS h34 rfl Cnf.one3) fun x129_26 h35 => ?_
       refine mv ?_
       refine LV.bslice hS h35 rfl rfl Cnf.el170 rfl rfl rfl rfl fun x131_27 T20 n20 h36 ρ its hS hdr => ?_
       refine LV.call hS h36 (g103_ok _ _ _ _ _ _ _ _ ) hP rfl rfl rfl rfl fun x132_28 T21 n21 h37 ρ its hS => ?_
       refine as_ ?_
       refine dn ?_
       refine CV.ret ?_
       cases h37
       exact PV.ret (by simp) Tryz.results138 hS (RS.tmp rfl RS.nil) rfl
noncomputable def g153 (ih : FuncId → List HT → List AV → HT → Nat → R) (ro : List HT) (a0 : AV) (T : HT) (nx : Nat) : R :=
 callK (ih 210 ro [a0] T nx) fun x8_1 T1 n1 =>
 bsK 1530006 T1 n1 1 9 1 [(0, (.lit (.string ⟨⟨[105, 102]⟩⟩)))] fun x10_2 T2 n2 =>
 callK (g134 ro a0 x10_2 T2 n2) fun x11_3 T3 n3 =>
 notK 1530008 x11_3 fun x12_4 =>
 condK 1530009 x12_4
 (
  .ok (.val x8_1) T3 n3
 )
 (
  callK (g180 ro a0 (.lit (.string ⟨⟨[105, 102]⟩⟩)) T3 n3) fun x15_5 T4 n4 =>
  callK (g179 ro a0 x15_5 T4 n4) fun x18_6 T5 n5 =>
  callK (ih 210 ro [a0] T5 n5) fun x20_7 T6 n6 =>
  callK (g180 ro a0 (.lit (.string ⟨⟨[101, 108, 115, 101]⟩⟩)) T6 n6) fun x22_8 T7 n7 =>
  callK (ih 153 ro [a0] T7 n7) fun x24_9 T8 n8 =>
  fldK 1530027 T8 ro a0 3 fun x28_10 =>
  subK Tryz.prog 3 (.tmp 28) (.const (.int .i64 (.ofNat 1))) 1530028 x28_10 (.lit (.int .i64 (.ofNat 1))) fun x29_11 =>
  faK 1530029 a0 3 fun x31_12 =>
  stK 1530030 T8 x31_12 x29_11 fun T9 =>
  bsK 1530036 T9 n8 3 3 1 [(0, x20_7), (1, x8_1), (2, x24_9)] fun x37_13 T10 n10 =>
  callK (g103 ro a0 (.lit (.int .i64 (.ofNat 20))) x15_5 (.lit (.string ⟨⟨[]⟩⟩)) x37_13 T10 n10) fun x38_14 T11 n11 =>
  .ok (.val x38_14) T11 n11
 )
theorem g153_ok (ih : FuncId → List HT → List AV → HT → Nat → R) (hI : ∀ f ro args T nx, GOk Tryz.prog envE f args ro T nx (ih f ro args T nx)) (ro : List HT) (a0 : AV) (T : HT) (nx : Nat) : GOk Tryz.prog envE 153 [a0] ro T nx (g153 ih ro a0 T nx) := by
 refine GOk.of_body Tryz.func153 rfl Tryz.ntmps153 (by kernel_rfl) rfl fun r T' n' h1 w0 base ρ0 its hS hP => ?_
 have X : CtxW envE ρ0 ro r T' n' := trivial
 unfold g153 at h1
 refine sr ?_
 refine as_ ?_
 refine dn ?_
 refine sr ?_
 refine mv ?_
 refine LV.call hS h1 (hI _ _ _ _ _) hP rfl rfl rfl rfl fun x8_1 T1 n1 h2 ρ its hS => ?_
 refine as_ ?_
 refine dn ?_
 refine CV.seq ?_
 refine sr ?_
 refine mv ?_
 refine LV.bslice hS h2 rfl rfl Cnf.el54 rfl rfl rfl rfl fun x10_2 T2 n2 h3 ρ its hS hdr => ?_
 refine LV.call hS h3 (g134_ok _ _ _ _ _ ) hP rfl rfl rfl rfl fun x11_3 T3 n3 h4 ρ its hS => ?_
 refine vy (V.not h4 rfl) fun x12_4 h5 => ?_
 refine dn ?_
 refine CV.cond h5 rfl (fun e h6 => ?_) (fun e h6 => ?_)
 ·
  clear h1 h2 h3 h4 h5
  subst e
  refine sr ?_
  refine mv ?_
  refine as_ ?_
  refine dn ?_
  refine CV.ret ?_
  refine PV.thenR ?_
  cases h6
  exact PV.ret (by simp) Tryz.results153 hS (RS.tmp rfl RS.nil) rfl
 ·
  clear h1 h2 h3 h4 h5
  subst e
  refine CV.skip ?_
  refine PV.thenN ?_
  refine sr ?_
  refine mv ?_
  refine LV.call hS h6 (g180_ok _ _ _ _ _ ) hP rfl rfl rfl rfl fun x15_5 T4 n4 h7 ρ its hS => ?_
  refine as_ ?_
  refine dn ?_
  refine sr ?_
  refine mv ?_
  refine mv ?_
  refine LV.call hS h7 (g179_ok _ _ _ _ _ ) hP rfl rfl rfl rfl fun x18_6 T5 n5 h8 ρ its hS => ?_
  refine dn ?_
  refine sr ?_
  refine mv ?_
  refine LV.call hS h8 (hI _ _ _ _ _) hP rfl rfl rfl rfl fun x20_7 T6 n6 h9 ρ its hS => ?_
  refine as_ ?_
  refine dn ?_
  refine sr ?_
  refine mv ?_
  refine LV.call hS h9 (g180_ok _ _ _ _ _ ) hP rfl rfl rfl rfl fun x22_8 T7 n7 h10 ρ its hS => ?_
  refine dn ?_
  refine sr ?_
  refine mv ?_
  refine LV.call hS h10 (hI _ _ _ _ _) hP rfl rfl rfl rfl fun x24_9 T8 n8 h11 ρ its hS => ?_
  refine as_ ?_
  refine dn ?_
  refine sr ?_
  refine mv ?_
  refine fl hS h11 Cnf.fo185_3 Cnf.one3 fun x28_10 h12 => ?_
  refine vy (V.sub h12 rfl rfl) fun x29_11 h13 => ?_
  refine fa2 h13 Cnf.fo185_3 fun x31_12 h14 => ?_
  refine LV.st hS h14 rfl rfl rfl Cnf.siz3 rfl rfl fun T9 its h15 hS => ?_
  refine dn ?_
  refine sr ?_
  refine mv ?_
  refine mv ?_
  refine mv ?_
  refine mv ?_
  refine mv ?_
  refine LV.bslice hS h15 rfl rfl Cnf.el170 rfl rfl rfl rfl fun x37_13 T10 n10 h16 ρ its hS hdr => ?_
  refine LV.call hS h16 (g103_ok _ _ _ _ _ _ _ _ ) hP rfl rfl rfl rfl fun x38_14 T11 n11 h17 ρ its hS => ?_
  refine as_ ?_
  refine dn ?_
  refine CV.ret ?_
  cases h17
  exact PV.ret (by simp) Tryz.results153 hS (RS.tmp rfl RS.nil) rfl
noncomputable def g210 (ih : FuncId → List HT → List AV → HT → Nat → R) (ro : List HT) (a0 : AV) (T : HT) (nx : Nat) : R :=
 bsK 2100005 T nx 1 9 1 [(0, (.lit (.string ⟨⟨[111, 114]⟩⟩)))] fun x6_1 T1 n1 =>
 callK (ih 256 ro [a0, (.fn (.func 257) [a0] []), x6_1] T1 n1) fun x7_2 T2 n2 =>
 .ok (.val x7_2) T2 n2
theorem g210_ok (ih : FuncId → List HT → List AV → HT → Nat → R) (hI : ∀ f ro args T nx, GOk Tryz.prog envE f args ro T nx (ih f ro args T nx)) (ro : List HT) (a0 : AV) (T : HT) (nx : Nat) : GOk Tryz.prog envE 210 [a0] ro T nx (g210 ih ro a0 T nx) := by
 refine GOk.of_body Tryz.func210 rfl Tryz.ntmps210 (by kernel_rfl) rfl fun r T' n' h1 w0 base ρ0 its hS hP => ?_
 have X : CtxW envE ρ0 ro r T' n' := trivial
 unfold g210 at h1
 refine sr ?_
 refine as_ ?_
 refine dn ?_
 refine sr ?_
 refine mv ?_
 refine mv ?_
 refine pu ?_
 refine LV.bslice hS h1 rfl rfl Cnf.el54 rfl rfl rfl rfl fun x6_1 T1 n1 h2 ρ its hS hdr => ?_
 refine LV.call hS h2 (hI _ _ _ _ _) hP rfl rfl rfl rfl fun x7_2 T2 n2 h3 ρ its hS => ?_
 refine as_ ?_
 refine dn ?_
 refine CV.ret ?_
 cases h3
 exact PV.ret (by simp) Tryz.results210 hS (RS.tmp rfl RS.nil) rfl
noncomputable def g256_b1 (ih : FuncId → List HT → List AV → HT → Nat → R) (ro : List HT) (lp1 : AV → AV → AV → AV → AV → HT → Nat → R) (y0 y1 y2 y6 y7 : AV) (T2 : HT) (n2 : Nat) : R :=
 callK (g134 ro y0 y2 T2 n2) fun x13_2 T3 n3 =>
 condK 2560009 x13_2
 (
  ncK 2560011 y0 fun x15_3 =>
  faK 2560012 x15_3 0 fun x16_4 =>
  ldK 2560013 T3 ro x16_4 fun x17_5 =>
  ncK 2560015 y0 fun x19_6 =>
  faK 2560016 x19_6 1 fun x20_7 =>
  ldK 2560017 T3 ro x20_7 fun x21_8 =>
  iaK 2560018 x17_5 x21_8 3 fun x22_9 =>
  ldAK 2560019 T3 ro x22_9 3 fun x23_10 =>
  newK T3 n3 (.obj [.lit (.int .i64 0), .lit (.string ⟨#[]⟩), .lit (.int .i64 0)] 233) fun x8_11 T4 n4 =>
  stAK 2560021 T4 x8_11 x23_10 3 fun T5 =>
  fldK 2560023 T5 ro y0 1 fun x27_12 =>
  addK Tryz.prog 3 (.tmp 27) (.const (.int .i64 (.ofNat 1))) 2560024 x27_12 (.lit (.int .i64 (.ofNat 1))) fun x28_13 =>
  faK 2560025 y0 1 fun x30_14 =>
  stK 2560026 T5 x30_14 x28_13 fun T6 =>
  faK 2560028 x8_11 1 fun x32_15 =>
  ldQK 2560029 T6 ro [(x8_11, 1, 1), (x8_11, 2, 1)] x32_15 fun x33_16 =>
  faK 2560030 x8_11 2 fun x35_17 =>
  ldQK 2560031 T6 ro [(x8_11, 1, 1), (x8_11, 2, 1)] x35_17 fun x36_18 =>
  callK (g274 ro x33_16 T6 n4) fun x34_19 T7 n7 =>
  keepK 2560035 T6 T7 [(x8_11, 1, 1), (x8_11, 2, 1)] <|
  dynK 2560036 y1 fun f p q => callK (ih f ro (p ++ ([] ++ q)) T7 n7) fun x39_20 T8 n8 =>
  keepK 2560037 T6 T8 [(x8_11, 1, 1), (x8_11, 2, 1)] <|
  bsK 2560038 T8 n8 2 3 1 [(0, y7), (1, x39_20)] fun x40_21 T9 n9 =>
  keepK 2560039 T6 T9 [(x8_11, 1, 1), (x8_11, 2, 1)] <|
  callK (g103 ro y0 x34_19 x36_18 (.lit (.string ⟨⟨[]⟩⟩)) x40_21 T9 n9) fun x41_22 T10 n10 =>
  lp1 y0 y1 y2 y6 x41_22 T10 n10
 )
 (
  .ok (.val y7) T3 n3
 )
noncomputable def g256 (ih : FuncId → List HT → List AV → HT → Nat → R) (ro : List HT) (a0 a1 a2 : AV) (T : HT) (nx : Nat) : R :=
 dynK 2560003 a1 fun f p q => callK (ih f ro (p ++ ([] ++ q)) T nx) fun x10_1 T1 n1 =>
 lpf5 2560005 (g256_b1 ih ro) 100000 a0 a1 a2 (.lit (.int .i64 (.ofNat 0))) x10_1 T1 n1
theorem g256_ok (ih : FuncId → List HT → List AV → HT → Nat → R) (hI : ∀ f ro args T nx, GOk Tryz.prog envE f args ro T nx (ih f ro args T nx)) (ro : List HT) (a0 a1 a2 : AV) (T : HT) (nx : Nat) : GOk Tryz.prog envE 256 [a0, a1, a2] ro T nx (g256 ih ro a0 a1 a2 T nx) := by
 refine GOk.of_body Tryz.func256 rfl Tryz.ntmps256 (by kernel_rfl) rfl fun r T' n' h1 w0 base ρ0 its hS hP => ?_
 have X : CtxW envE ρ0 ro r T' n' := trivial
 unfold g256 at h1
 refine sr ?_
 refine as_ ?_
 refine dn ?_
 refine sr ?_
 refine mv ?_
 refine LV.callD (G := fun f gs => ih f ro gs T nx) (qs := []) hS h1 (fun f gs => hI _ _ _ _ _) hP rfl rfl rfl rfl rfl rfl rfl fun x10_1 T1 n1 h2 ρ its hS => ?_
 refine as_ ?_
 refine dn ?_
 refine CV.seq ?_
 refine CV.block ?_
 refine cl5 X 0 1 2 6 7 [] hS h2 ⟨rfl, rfl, rfl, rfl, rfl, trivial⟩ ?_
 intro f1 y0 y1 y2 y6 y7 T2 n2 ρ its hS h3
 unfold g256_b1 at h3
 clear h1 h2
 refine CV.seq ?_
 refine sr ?_
 refine mv ?_
 refine mv ?_
 refine LV.call hS h3 (g134_ok _ _ _ _ _ ) hP rfl rfl rfl rfl fun x13_2 T3 n3 h4 ρ its hS => ?_
 refine dn ?_
 refine CV.cond h4 rfl (fun e h5 => ?_) (fun e h5 => ?_)
 ·
  clear h3 h4
  subst e
  refine CV.skip ?_
  refine PV.thenN ?_
  refine CV.block ?_
  refine CV.seq ?_
  refine CV.regionM [(0, .anywhere), (1, .anywhere), (2, .anywhere), (3, .held), (4, .anywhere), (5, .anywhere), (6, .anywhere), (7, .held), (8, .held), (9, .held), (10, .alone), (11, .alone)] rfl (fun c a a' w hd hq => PanicOk.root (P := Tryz.prog) (fn := Tryz.f256) (w0 := w0) (base := base) (E := envE) (ro := ro) (r := r) (T' := T') (n' := n') (ρ0 := ρ0) c a a' w hd hq) (by kernel_rfl) ?_
  refine MV.step0 (i := 0) rfl (VAL.move rfl) rfl rfl rfl ?_
  refine MV.lift0 (i := 1) rfl (V.nc h5 rfl) rfl rfl rfl fun x15_3 h6 => ?_
  refine MV.lift0 (i := 2) rfl (V.fa h6 rfl Cnf.fo185_0) rfl rfl rfl fun x16_4 h7 => ?_
  refine MV.lift1 (i := 3) rfl (fun _ z => z) (V.ld hS h7 rfl Cnf.one183) rfl rfl rfl [] (by kernel_rfl) fun x17_5 h8 => ?_
  refine MV.step0 (i := 4) rfl (VAL.move rfl) rfl rfl rfl ?_
  refine MV.lift0 (i := 5) rfl (V.nc h8 rfl) rfl rfl rfl fun x19_6 h9 => ?_
  refine MV.lift0 (i := 6) rfl (V.fa h9 rfl Cnf.fo185_1) rfl rfl rfl fun x20_7 h10 => ?_
  refine MV.lift1 (i := 7) rfl (fun _ z => z) (V.ld hS h10 rfl Cnf.one3) rfl rfl rfl [3] (by kernel_rfl) fun x21_8 h11 => ?_
  refine MV.lift1 (i := 8) rfl (fun _ z => z) (V.ia h11 rfl rfl Cnf.el183) rfl rfl rfl [] (by kernel_rfl) fun x22_9 h12 => ?_
  refine MV.lift1 (i := 9) rfl (fun _ z => z) (V.ldA hS h12 rfl Cnf.agg233) rfl rfl rfl [] (by kernel_rfl) fun x23_10 h13 => ?_
  refine MV.force (i := 10) rfl ?_
  refine LV.alloc hS h13 rfl Cnf.zr233 rfl rfl rfl fun x8_11 T4 n4 h14 ρ its hS hdr => ?_
  refine LV.nextM [9] (by kernel_rfl) (fun _ => hdr) ?_
  refine MV.force (i := 11) rfl ?_
  refine LV.stA hS h14 rfl rfl rfl Cnf.agg233 rfl rfl rfl fun T5 its h15 hS => ?_
  refine LV.nextM [] (by kernel_rfl) (fun z => absurd rfl z) ?_
  refine mdn ?_
  refine sr ?_
  refine mv ?_
  refine fl hS h15 Cnf.fo185_1 Cnf.one3 fun x27_12 h16 => ?_
  refine vy (V.add h16 rfl rfl) fun x28_13 h17 => ?_
  refine fa2 h17 Cnf.fo185_1 fun x30_14 h18 => ?_
  refine LV.st hS h18 rfl rfl rfl Cnf.siz3 rfl rfl fun T6 its h19 hS => ?_
  refine dn ?_
  refine CV.regionMS hS [(x8_11, 1, 1), (x8_11, 2, 1)] [(0, .anywhere), (1, .anywhere), (2, .held), (4, .anywhere), (5, .held), (6, .anywhere), (7, .anywhere), (3, .alone), (8, .alone), (9, .alone), (10, .alone), (11, .alone)] rfl (fun c a a' w hd hq => PanicOk.root (P := Tryz.prog) (fn := Tryz.f256) (w0 := w0) (base := base) (E := envE) (ro := ro) (r := r) (T' := T') (n' := n') (ρ0 := ρ0) c a a' w hd hq) (by kernel_rfl) ?_
  have hK := KeepS.start [(x8_11, 1, 1), (x8_11, 2, 1)] hS
  have hR := hS
  have hP0 := hP
  replace hP := PK.up hR hP
  replace hS := hR.root
  refine MV.step0 (i := 0) rfl (VAL.move rfl) rfl rfl rfl ?_
  refine MV.lift0 (i := 1) rfl (V.fa h19 rfl Cnf.fo233_1) rfl rfl rfl fun x32_15 h20 => ?_
  refine MV.lift1 (i := 2) rfl hK (V.ldQ hS h20 rfl Cnf.one9) rfl rfl rfl [] (by kernel_rfl) fun x33_16 h21 => ?_
  refine MV.lift0 (i := 4) rfl (V.fa h21 rfl Cnf.fo233_2) rfl rfl rfl fun x35_17 h22 => ?_
  refine MV.lift1 (i := 5) rfl hK (V.ldQ hS h22 rfl Cnf.one3) rfl rfl rfl [2] (by kernel_rfl) fun x36_18 h23 => ?_
  refine MV.step0 (i := 6) rfl (VAL.move rfl) rfl rfl rfl ?_
  refine MV.step0 (i := 7) rfl (VAL.move rfl) rfl rfl rfl ?_
  refine MV.force (i := 3) rfl ?_
  refine LV.call hS h23 (g274_ok _ _ _ _ ) hP rfl rfl rfl rfl fun x34_19 T7 n7 h24 ρ its hS => ?_
  obtain ⟨hK, h25⟩ := KeepS.step hR hS h24
  refine LV.nextM [5] (by kernel_rfl) (fun _ => hK) ?_
  refine MV.force (i := 8) rfl ?_
  refine LV.callD (G := fun f gs => ih f ro gs T7 n7) (qs := []) hS h25 (fun f gs => hI _ _ _ _ _) hP rfl rfl rfl rfl rfl rfl rfl fun x39_20 T8 n8 h26 ρ its hS => ?_
  obtain ⟨hK, h27⟩ := KeepS.step hR hS h26
  refine LV.nextM [5] (by kernel_rfl) (fun _ => hK) ?_
  refine MV.force (i := 9) rfl ?_
  refine LV.bslice hS h27 rfl rfl Cnf.el170 rfl rfl rfl rfl fun x40_21 T9 n9 h28 ρ its hS hdr => ?_
  obtain ⟨hK, h29⟩ := KeepS.step hR hS h28
  refine LV.nextM [5] (by kernel_rfl) (fun _ => hK) ?_
  refine MV.force (i := 10) rfl ?_
  refine LV.call hS h29 (g103_ok _ _ _ _ _ _ _ _ ) hP rfl rfl rfl rfl fun x41_22 T10 n10 h30 ρ its hS => ?_
  refine LV.nextM [] (by kernel_rfl) (fun z => absurd rfl z) ?_
  refine MV.force (i := 11) rfl ?_
  refine as_ ?_
  refine LV.nextM [] (by kernel_rfl) (fun z => absurd rfl z) ?_
  replace hS := hR.up hS
  replace hP := hP0
  refine MV.done ?_
  refine PV.blockN ?_
  exact pb5 hS h30 ⟨rfl, rfl, rfl, rfl, rfl, trivial⟩
 ·
  clear h3 h4
  subst e
  refine CV.exit ?_
  refine PV.thenE ?_
  refine PV.thenE ?_
  refine PV.blockE ?_
  refine PV.thenN ?_
  refine sr ?_
  refine mv ?_
  refine as_ ?_
  refine dn ?_
  refine CV.ret ?_
  cases h5
  exact PV.ret (by simp) Tryz.results256 hS (RS.tmp rfl RS.nil) rfl
noncomputable def g257 (ih : FuncId → List HT → List AV → HT → Nat → R) (ro : List HT) (a0 : AV) (T : HT) (nx : Nat) : R :=
 bsK 2570005 T nx 1 9 1 [(0, (.lit (.string ⟨⟨[97, 110, 100]⟩⟩)))] fun x6_1 T1 n1 =>
 callK (ih 256 ro [a0, (.fn (.func 275) [a0] []), x6_1] T1 n1) fun x7_2 T2 n2 =>
 .ok (.val x7_2) T2 n2
theorem g257_ok (ih : FuncId → List HT → List AV → HT → Nat → R) (hI : ∀ f ro args T nx, GOk Tryz.prog envE f args ro T nx (ih f ro args T nx)) (ro : List HT) (a0 : AV) (T : HT) (nx : Nat) : GOk Tryz.prog envE 257 [a0] ro T nx (g257 ih ro a0 T nx) := by
 refine GOk.of_body Tryz.func257 rfl Tryz.ntmps257 (by kernel_rfl) rfl fun r T' n' h1 w0 base ρ0 its hS hP => ?_
 have X : CtxW envE ρ0 ro r T' n' := trivial
 unfold g257 at h1
 refine sr ?_
 refine as_ ?_
 refine dn ?_
 refine sr ?_
 refine mv ?_
 refine mv ?_
 refine pu ?_
 refine LV.bslice hS h1 rfl rfl Cnf.el54 rfl rfl rfl rfl fun x6_1 T1 n1 h2 ρ its hS hdr => ?_
 refine LV.call hS h2 (hI _ _ _ _ _) hP rfl rfl rfl rfl fun x7_2 T2 n2 h3 ρ its hS => ?_
 refine as_ ?_
 refine dn ?_
 refine CV.ret ?_
 cases h3
 exact PV.ret (by simp) Tryz.results257 hS (RS.tmp rfl RS.nil) rfl
noncomputable def g275 (ih : FuncId → List HT → List AV → HT → Nat → R) (ro : List HT) (a0 : AV) (T : HT) (nx : Nat) : R :=
 bsK 2750003 T nx 1 9 1 [(0, (.lit (.string ⟨⟨[110, 111, 116]⟩⟩)))] fun x6_1 T1 n1 =>
 callK (g134 ro a0 x6_1 T1 n1) fun x7_2 T2 n2 =>
 notK 2750005 x7_2 fun x8_3 =>
 condK 2750006 x8_3
 (
  callK (ih 280 ro [a0] T2 n2) fun x10_4 T3 n3 =>
  .ok (.val x10_4) T3 n3
 )
 (
  callK (g180 ro a0 (.lit (.string ⟨⟨[110, 111, 116]⟩⟩)) T2 n2) fun x12_5 T4 n4 =>
  callK (g179 ro a0 x12_5 T4 n4) fun x15_6 T5 n5 =>
  callK (ih 275 ro [a0] T5 n5) fun x17_7 T6 n6 =>
  fldK 2750020 T6 ro a0 3 fun x21_8 =>
  subK Tryz.prog 3 (.tmp 21) (.const (.int .i64 (.ofNat 1))) 2750021 x21_8 (.lit (.int .i64 (.ofNat 1))) fun x22_9 =>
  faK 2750022 a0 3 fun x24_10 =>
  stK 2750023 T6 x24_10 x22_9 fun T7 =>
  bsK 2750027 T7 n6 1 3 1 [(0, x17_7)] fun x28_11 T8 n8 =>
  callK (g103 ro a0 (.lit (.int .i64 (.ofNat 17))) x12_5 (.lit (.string ⟨⟨[]⟩⟩)) x28_11 T8 n8) fun x29_12 T9 n9 =>
  .ok (.val x29_12) T9 n9
 )
theorem g275_ok (ih : FuncId → List HT → List AV → HT → Nat → R) (hI : ∀ f ro args T nx, GOk Tryz.prog envE f args ro T nx (ih f ro args T nx)) (ro : List HT) (a0 : AV) (T : HT) (nx : Nat) : GOk Tryz.prog envE 275 [a0] ro T nx (g275 ih ro a0 T nx) := by
 refine GOk.of_body Tryz.func275 rfl Tryz.ntmps275 (by kernel_rfl) rfl fun r T' n' h1 w0 base ρ0 its hS hP => ?_
 have X : CtxW envE ρ0 ro r T' n' := trivial
 unfold g275 at h1
 refine sr ?_
 refine as_ ?_
 refine dn ?_
 refine CV.seq ?_
 refine sr ?_
 refine mv ?_
 refine LV.bslice hS h1 rfl rfl Cnf.el54 rfl rfl rfl rfl fun x6_1 T1 n1 h2 ρ its hS hdr => ?_
 refine LV.call hS h2 (g134_ok _ _ _ _ _ ) hP rfl rfl rfl rfl fun x7_2 T2 n2 h3 ρ its hS => ?_
 refine vy (V.not h3 rfl) fun x8_3 h4 => ?_
 refine dn ?_
 refine CV.cond h4 rfl (fun e h5 => ?_) (fun e h5 => ?_)
 ·
  clear h1 h2 h3 h4
  subst e
  refine sr ?_
  refine mv ?_
  refine LV.call hS h5 (hI _ _ _ _ _) hP rfl rfl rfl rfl fun x10_4 T3 n3 h6 ρ its hS => ?_
  refine as_ ?_
  refine dn ?_
  refine CV.ret ?_
  refine PV.thenR ?_
  cases h6
  exact PV.ret (by simp) Tryz.results275 hS (RS.tmp rfl RS.nil) rfl
 ·
  clear h1 h2 h3 h4
  subst e
  refine CV.skip ?_
  refine PV.thenN ?_
  refine sr ?_
  refine mv ?_
  refine LV.call hS h5 (g180_ok _ _ _ _ _ ) hP rfl rfl rfl rfl fun x12_5 T4 n4 h7 ρ its hS => ?_
  refine as_ ?_
  refine dn ?_
  refine sr ?_
  refine mv ?_
  refine mv ?_
  refine LV.call hS h7 (g179_ok _ _ _ _ _ ) hP rfl rfl rfl rfl fun x15_6 T5 n5 h8 ρ its hS => ?_
  refine dn ?_
  refine sr ?_
  refine mv ?_
  refine LV.call hS h8 (hI _ _ _ _ _) hP rfl rfl rfl rfl fun x17_7 T6 n6 h9 ρ its hS => ?_
  refine as_ ?_
  refine dn ?_
  refine sr ?_
  refine mv ?_
  refine fl hS h9 Cnf.fo185_3 Cnf.one3 fun x21_8 h10 => ?_
  refine vy (V.sub h10 rfl rfl) fun x22_9 h11 => ?_
  refine fa2 h11 Cnf.fo185_3 fun x24_10 h12 => ?_
  refine LV.st hS h12 rfl rfl rfl Cnf.siz3 rfl rfl fun T7 its h13 hS => ?_
  refine dn ?_
  refine sr ?_
  refine mv ?_
  refine mv ?_
  refine mv ?_
  refine LV.bslice hS h13 rfl rfl Cnf.el170 rfl rfl rfl rfl fun x28_11 T8 n8 h14 ρ its hS hdr => ?_
  refine LV.call hS h14 (g103_ok _ _ _ _ _ _ _ _ ) hP rfl rfl rfl rfl fun x29_12 T9 n9 h15 ρ its hS => ?_
  refine as_ ?_
  refine dn ?_
  refine CV.ret ?_
  cases h15
  exact PV.ret (by simp) Tryz.results275 hS (RS.tmp rfl RS.nil) rfl
noncomputable def g280 (ih : FuncId → List HT → List AV → HT → Nat → R) (ro : List HT) (a0 : AV) (T : HT) (nx : Nat) : R :=
 callK (ih 284 ro [a0] T nx) fun x7_1 T1 n1 =>
 callK (g152 ro a0 T1 n1) fun x9_2 T2 n2 =>
 bsK 2800009 T2 n2 1 9 1 [(0, (.lit (.string ⟨⟨[110, 111, 116]⟩⟩)))] fun x12_3 T3 n3 =>
 callK (g134 ro a0 x12_3 T3 n3) fun x13_4 T4 n4 =>
 condK 2800012 x13_4
 (
  .bad 2800013
 )
 (
  bsK 2800015 T4 n4 7 9 1 [(0, (.lit (.string ⟨⟨[61, 61]⟩⟩))), (1, (.lit (.string ⟨⟨[33, 61]⟩⟩))), (2, (.lit (.string ⟨⟨[60]⟩⟩))), (3, (.lit (.string ⟨⟨[60, 61]⟩⟩))), (4, (.lit (.string ⟨⟨[62]⟩⟩))), (5, (.lit (.string ⟨⟨[62, 61]⟩⟩))), (6, (.lit (.string ⟨⟨[105, 110]⟩⟩)))] fun x32_5 T5 n5 =>
  callK (g134 ro a0 x32_5 T5 n5) fun x33_6 T6 n6 =>
  condK 2800018 x33_6
  (
   .bad 2800019
  )
  (
   .ok (.val x7_1) T6 n6
  )
 )
theorem g280_ok (ih : FuncId → List HT → List AV → HT → Nat → R) (hI : ∀ f ro args T nx, GOk Tryz.prog envE f args ro T nx (ih f ro args T nx)) (ro : List HT) (a0 : AV) (T : HT) (nx : Nat) : GOk Tryz.prog envE 280 [a0] ro T nx (g280 ih ro a0 T nx) := by
 refine GOk.of_body Tryz.func280 rfl Tryz.ntmps280 (by kernel_rfl) rfl fun r T' n' h1 w0 base ρ0 its hS hP => ?_
 have X : CtxW envE ρ0 ro r T' n' := trivial
 unfold g280 at h1
 refine sr ?_
 refine as_ ?_
 refine dn ?_
 refine sr ?_
 refine mv ?_
 refine LV.call hS h1 (hI _ _ _ _ _) hP rfl rfl rfl rfl fun x7_1 T1 n1 h2 ρ its hS => ?_
 refine as_ ?_
 refine dn ?_
 refine sr ?_
 refine mv ?_
 refine LV.call hS h2 (g152_ok _ _ _ _ ) hP rfl rfl rfl rfl fun x9_2 T2 n2 h3 ρ its hS => ?_
 refine as_ ?_
 refine dn ?_
 refine CV.seq ?_
 refine CV.block ?_
 refine sr ?_
 refine mv ?_
 refine LV.bslice hS h3 rfl rfl Cnf.el54 rfl rfl rfl rfl fun x12_3 T3 n3 h4 ρ its hS hdr => ?_
 refine LV.call hS h4 (g134_ok _ _ _ _ _ ) hP rfl rfl rfl rfl fun x13_4 T4 n4 h5 ρ its hS => ?_
 refine as_ ?_
 refine dn ?_
 refine CV.cond h5 rfl (fun e h6 => ?_) (fun e h6 => ?_)
 ·
  clear h1 h2 h3 h4 h5
  subst e
  cases h6
 ·
  clear h1 h2 h3 h4 h5
  subst e
  refine sr ?_
  refine mv ?_
  refine LV.bslice hS h6 rfl rfl Cnf.el54 rfl rfl rfl rfl fun x32_5 T5 n5 h7 ρ its hS hdr => ?_
  refine LV.call hS h7 (g134_ok _ _ _ _ _ ) hP rfl rfl rfl rfl fun x33_6 T6 n6 h8 ρ its hS => ?_
  refine as_ ?_
  refine dn ?_
  refine CV.cond h8 rfl (fun e h9 => ?_) (fun e h9 => ?_)
  ·
   clear h6 h7 h8
   subst e
   cases h9
  ·
   clear h6 h7 h8
   subst e
   refine CV.skip ?_
   refine PV.blockN ?_
   refine PV.thenN ?_
   refine sr ?_
   refine mv ?_
   refine as_ ?_
   refine dn ?_
   refine CV.ret ?_
   cases h9
   exact PV.ret (by simp) Tryz.results280 hS (RS.tmp rfl RS.nil) rfl
noncomputable def g284 (ih : FuncId → List HT → List AV → HT → Nat → R) (ro : List HT) (a0 : AV) (T : HT) (nx : Nat) : R :=
 bsK 2840005 T nx 2 9 1 [(0, (.lit (.string ⟨⟨[43]⟩⟩))), (1, (.lit (.string ⟨⟨[45]⟩⟩)))] fun x6_1 T1 n1 =>
 callK (ih 256 ro [a0, (.fn (.func 288) [a0] []), x6_1] T1 n1) fun x7_2 T2 n2 =>
 .ok (.val x7_2) T2 n2
theorem g284_ok (ih : FuncId → List HT → List AV → HT → Nat → R) (hI : ∀ f ro args T nx, GOk Tryz.prog envE f args ro T nx (ih f ro args T nx)) (ro : List HT) (a0 : AV) (T : HT) (nx : Nat) : GOk Tryz.prog envE 284 [a0] ro T nx (g284 ih ro a0 T nx) := by
 refine GOk.of_body Tryz.func284 rfl Tryz.ntmps284 (by kernel_rfl) rfl fun r T' n' h1 w0 base ρ0 its hS hP => ?_
 have X : CtxW envE ρ0 ro r T' n' := trivial
 unfold g284 at h1
 refine sr ?_
 refine as_ ?_
 refine dn ?_
 refine sr ?_
 refine mv ?_
 refine mv ?_
 refine pu ?_
 refine LV.bslice hS h1 rfl rfl Cnf.el54 rfl rfl rfl rfl fun x6_1 T1 n1 h2 ρ its hS hdr => ?_
 refine LV.call hS h2 (hI _ _ _ _ _) hP rfl rfl rfl rfl fun x7_2 T2 n2 h3 ρ its hS => ?_
 refine as_ ?_
 refine dn ?_
 refine CV.ret ?_
 cases h3
 exact PV.ret (by simp) Tryz.results284 hS (RS.tmp rfl RS.nil) rfl
noncomputable def g288 (ih : FuncId → List HT → List AV → HT → Nat → R) (ro : List HT) (a0 : AV) (T : HT) (nx : Nat) : R :=
 bsK 2880005 T nx 3 9 1 [(0, (.lit (.string ⟨⟨[42]⟩⟩))), (1, (.lit (.string ⟨⟨[47, 47]⟩⟩))), (2, (.lit (.string ⟨⟨[37]⟩⟩)))] fun x6_1 T1 n1 =>
 callK (ih 256 ro [a0, (.fn (.func 290) [a0] []), x6_1] T1 n1) fun x7_2 T2 n2 =>
 .ok (.val x7_2) T2 n2
theorem g288_ok (ih : FuncId → List HT → List AV → HT → Nat → R) (hI : ∀ f ro args T nx, GOk Tryz.prog envE f args ro T nx (ih f ro args T nx)) (ro : List HT) (a0 : AV) (T : HT) (nx : Nat) : GOk Tryz.prog envE 288 [a0] ro T nx (g288 ih ro a0 T nx) := by
 refine GOk.of_body Tryz.func288 rfl Tryz.ntmps288 (by kernel_rfl) rfl fun r T' n' h1 w0 base ρ0 its hS hP => ?_
 have X : CtxW envE ρ0 ro r T' n' := trivial
 unfold g288 at h1
 refine sr ?_
 refine as_ ?_
 refine dn ?_
 refine sr ?_
 refine mv ?_
 refine mv ?_
 refine pu ?_
 refine LV.bslice hS h1 rfl rfl Cnf.el54 rfl rfl rfl rfl fun x6_1 T1 n1 h2 ρ its hS hdr => ?_
 refine LV.call hS h2 (hI _ _ _ _ _) hP rfl rfl rfl rfl fun x7_2 T2 n2 h3 ρ its hS => ?_
 refine as_ ?_
 refine dn ?_
 refine CV.ret ?_
 cases h3
 exact PV.ret (by simp) Tryz.results288 hS (RS.tmp rfl RS.nil) rfl
noncomputable def ap3 (ih : FuncId → List HT → List AV → HT → Nat → R) (f : FuncId) (ro : List HT) (args : List AV) (T : HT) (nx : Nat) : R :=
  Bool.rec (motive := fun _ => R) (Bool.rec (motive := fun _ => R) (Bool.rec (motive := fun _ => R) (Bool.rec (motive := fun _ => R) (Bool.rec (motive := fun _ => R) (Bool.rec (motive := fun _ => R) (.bad 2) (List.rec (motive := fun _ => R) (.bad 1) (fun a0 l0 _ => List.rec (motive := fun _ => R) (scc2 4000 290 ro [a0] T nx) (fun _ _ _ => .bad 1) l0) args) (Nat.beq f 290)) (Bool.rec (motive := fun _ => R) (.bad 2) (List.rec (motive := fun _ => R) (.bad 1) (fun a0 l0 _ => List.rec (motive := fun _ => R) (g288 ih ro a0 T nx) (fun _ _ _ => .bad 1) l0) args) (Nat.beq f 288)) (Nat.ble f 288)) (Bool.rec (motive := fun _ => R) (.bad 2) (List.rec (motive := fun _ => R) (.bad 1) (fun a0 l0 _ => List.rec (motive := fun _ => R) (g284 ih ro a0 T nx) (fun _ _ _ => .bad 1) l0) args) (Nat.beq f 284)) (Nat.ble f 284)) (Bool.rec (motive := fun _ => R) (Bool.rec (motive := fun _ => R) (Bool.rec (motive := fun _ => R) (.bad 2) (List.rec (motive := fun _ => R) (.bad 1) (fun a0 l0 _ => List.rec (motive := fun _ => R) (g280 ih ro a0 T nx) (fun _ _ _ => .bad 1) l0) args) (Nat.beq f 280)) (Bool.rec (motive := fun _ => R) (.bad 2) (List.rec (motive := fun _ => R) (.bad 1) (fun a0 l0 _ => List.rec (motive := fun _ => R) (g275 ih ro a0 T nx) (fun _ _ _ => .bad 1) l0) args) (Nat.beq f 275)) (Nat.ble f 275)) (Bool.rec (motive := fun _ => R) (.bad 2) (List.rec (motive := fun _ => R) (.bad 1) (fun a0 l0 _ => List.rec (motive := fun _ => R) (g258 ro a0 T nx) (fun _ _ _ => .bad 1) l0) args) (Nat.beq f 258)) (Nat.ble f 258)) (Nat.ble f 280)) (Bool.rec (motive := fun _ => R) (Bool.rec (motive := fun _ => R) (Bool.rec (motive := fun _ => R) (Bool.rec (motive := fun _ => R) (.bad 2) (List.rec (motive := fun _ => R) (.bad 1) (fun a0 l0 _ => List.rec (motive := fun _ => R) (g257 ih ro a0 T nx) (fun _ _ _ => .bad 1) l0) args) (Nat.beq f 257)) (Bool.rec (motive := fun _ => R) (.bad 2) (List.rec (motive := fun _ => R) (.bad 1) (fun a0 l0 _ => List.rec (motive := fun _ => R) (.bad 1) (fun a1 l1 _ => List.rec (motive := fun _ => R) (.bad 1) (fun a2 l2 _ => List.rec (motive := fun _ => R) (g256 ih ro a0 a1 a2 T nx) (fun _ _ _ => .bad 1) l2) l1) l0) args) (Nat.beq f 256)) (Nat.ble f 256)) (Bool.rec (motive := fun _ => R) (.bad 2) (List.rec (motive := fun _ => R) (.bad 1) (fun a0 l0 _ => List.rec (motive := fun _ => R) (g221 ro a0 T nx) (fun _ _ _ => .bad 1) l0) args) (Nat.beq f 221)) (Nat.ble f 221)) (Bool.rec (motive := fun _ => R) (Bool.rec (motive := fun _ => R) (.bad 2) (List.rec (motive := fun _ => R) (.bad 1) (fun a0 l0 _ => List.rec (motive := fun _ => R) (g210 ih ro a0 T nx) (fun _ _ _ => .bad 1) l0) args) (Nat.beq f 210)) (Bool.rec (motive := fun _ => R) (.bad 2) (List.rec (motive := fun _ => R) (.bad 1) (fun a0 l0 _ => List.rec (motive := fun _ => R) (g153 ih ro a0 T nx) (fun _ _ _ => .bad 1) l0) args) (Nat.beq f 153)) (Nat.ble f 153)) (Nat.ble f 210)) (Nat.ble f 257)) (Bool.rec (motive := fun _ => R) (Bool.rec (motive := fun _ => R) (Bool.rec (motive := fun _ => R) (Bool.rec (motive := fun _ => R) (Bool.rec (motive := fun _ => R) (.bad 2) (List.rec (motive := fun _ => R) (.bad 1) (fun a0 l0 _ => List.rec (motive := fun _ => R) (.bad 1) (fun a1 l1 _ => List.rec (motive := fun _ => R) (.bad 1) (fun a2 l2 _ => List.rec (motive := fun _ => R) (g149 ro a0 a1 a2 T nx) (fun _ _ _ => .bad 1) l2) l1) l0) args) (Nat.beq f 149)) (Bool.rec (motive := fun _ => R) (.bad 2) (List.rec (motive := fun _ => R) (.bad 1) (fun a0 l0 _ => List.rec (motive := fun _ => R) (.bad 1) (fun a1 l1 _ => List.rec (motive := fun _ => R) (g141 ro a0 a1 T nx) (fun _ _ _ => .bad 1) l1) l0) args) (Nat.beq f 141)) (Nat.ble f 141)) (Bool.rec (motive := fun _ => R) (.bad 2) (List.rec (motive := fun _ => R) (.bad 1) (fun a0 l0 _ => List.rec (motive := fun _ => R) (.bad 1) (fun a1 l1 _ => List.rec (motive := fun _ => R) (g138 ih ro a0 a1 T nx) (fun _ _ _ => .bad 1) l1) l0) args) (Nat.beq f 138)) (Nat.ble f 138)) (Bool.rec (motive := fun _ => R) (Bool.rec (motive := fun _ => R) (.bad 2) (List.rec (motive := fun _ => R) (.bad 1) (fun a0 l0 _ => List.rec (motive := fun _ => R) (g115 ih ro a0 T nx) (fun _ _ _ => .bad 1) l0) args) (Nat.beq f 115)) (Bool.rec (motive := fun _ => R) (.bad 2) (List.rec (motive := fun _ => R) (.bad 1) (fun a0 l0 _ => List.rec (motive := fun _ => R) (.bad 1) (fun a1 l1 _ => List.rec (motive := fun _ => R) (g107 ro a0 a1 T nx) (fun _ _ _ => .bad 1) l1) l0) args) (Nat.beq f 107)) (Nat.ble f 107)) (Nat.ble f 115)) (Bool.rec (motive := fun _ => R) (Bool.rec (motive := fun _ => R) (Bool.rec (motive := fun _ => R) (Bool.rec (motive := fun _ => R) (.bad 2) (List.rec (motive := fun _ => R) (.bad 1) (fun a0 l0 _ => List.rec (motive := fun _ => R) (.bad 1) (fun a1 l1 _ => List.rec (motive := fun _ => R) (g102 ih ro a0 a1 T nx) (fun _ _ _ => .bad 1) l1) l0) args) (Nat.beq f 102)) (Bool.rec (motive := fun _ => R) (.bad 2) (List.rec (motive := fun _ => R) (.bad 1) (fun a0 l0 _ => List.rec (motive := fun _ => R) (g85 ih ro a0 T nx) (fun _ _ _ => .bad 1) l0) args) (Nat.beq f 85)) (Nat.ble f 85)) (Bool.rec (motive := fun _ => R) (.bad 2) (List.rec (motive := fun _ => R) (.bad 1) (fun a0 l0 _ => List.rec (motive := fun _ => R) (.bad 1) (fun a1 l1 _ => List.rec (motive := fun _ => R) (g81 ro a0 a1 T nx) (fun _ _ _ => .bad 1) l1) l0) args) (Nat.beq f 81)) (Nat.ble f 81)) (Bool.rec (motive := fun _ => R) (Bool.rec (motive := fun _ => R) (.bad 2) (List.rec (motive := fun _ => R) (.bad 1) (fun a0 l0 _ => List.rec (motive := fun _ => R) (g73 ih ro a0 T nx) (fun _ _ _ => .bad 1) l0) args) (Nat.beq f 73)) (Bool.rec (motive := fun _ => R) (.bad 2) (List.rec (motive := fun _ => R) (.bad 1) (fun a0 l0 _ => List.rec (motive := fun _ => R) (g72 ih ro a0 T nx) (fun _ _ _ => .bad 1) l0) args) (Nat.beq f 72)) (Nat.ble f 72)) (Nat.ble f 73)) (Nat.ble f 102)) (Nat.ble f 149)
noncomputable def scc3 (fuel : Nat) : FuncId → List HT → List AV → HT → Nat → R :=
  Nat.rec (motive := fun _ => FuncId → List HT → List AV → HT → Nat → R) (fun _ _ _ _ _ => .bad 3) (fun _ ih => ap3 ih) fuel
theorem ap3_ok (ih : FuncId → List HT → List AV → HT → Nat → R) (hI : ∀ f ro args T nx, GOk Tryz.prog envE f args ro T nx (ih f ro args T nx)) (f : FuncId) (ro : List HT) (args : List AV) (T : HT) (nx : Nat) : GOk Tryz.prog envE f args ro T nx (ap3 ih f ro args T nx) := by
  unfold ap3
  refine recb_go (fun hb => ?_) (fun _ => ?_)
  · refine recb_go (fun hb => ?_) (fun _ => ?_)
    · refine recb_go (fun hb => ?_) (fun _ => ?_)
      · refine recb_go (fun hb => ?_) (fun _ => ?_)
        · refine recb_go (fun hb => ?_) (fun _ => ?_)
          · obtain rfl := beqT hb
            rcases args with _ | ⟨a0, l0⟩
            · exact GOk.bad
            rcases l0 with _ | ⟨_, _⟩
            · exact g72_ok _ hI _ _ _ _ 
            · exact GOk.bad
          · exact GOk.bad
        · refine recb_go (fun hb => ?_) (fun _ => ?_)
          · obtain rfl := beqT hb
            rcases args with _ | ⟨a0, l0⟩
            · exact GOk.bad
            rcases l0 with _ | ⟨_, _⟩
            · exact g73_ok _ hI _ _ _ _ 
            · exact GOk.bad
          · exact GOk.bad
      · refine recb_go (fun hb => ?_) (fun _ => ?_)
        · refine recb_go (fun hb => ?_) (fun _ => ?_)
          · obtain rfl := beqT hb
            rcases args with _ | ⟨a0, l0⟩
            · exact GOk.bad
            rcases l0 with _ | ⟨a1, l1⟩
            · exact GOk.bad
            rcases l1 with _ | ⟨_, _⟩
            · exact g81_ok _ _ _ _ _ 
            · exact GOk.bad
          · exact GOk.bad
        · refine recb_go (fun hb => ?_) (fun _ => ?_)
          · refine recb_go (fun hb => ?_) (fun _ => ?_)
            · obtain rfl := beqT hb
              rcases args with _ | ⟨a0, l0⟩
              · exact GOk.bad
              rcases l0 with _ | ⟨_, _⟩
              · exact g85_ok _ hI _ _ _ _ 
              · exact GOk.bad
            · exact GOk.bad
          · refine recb_go (fun hb => ?_) (fun _ => ?_)
            · obtain rfl := beqT hb
              rcases args with _ | ⟨a0, l0⟩
              · exact GOk.bad
              rcases l0 with _ | ⟨a1, l1⟩
              · exact GOk.bad
              rcases l1 with _ | ⟨_, _⟩
              · exact g102_ok _ hI _ _ _ _ _ 
              · exact GOk.bad
            · exact GOk.bad
    · refine recb_go (fun hb => ?_) (fun _ => ?_)
      · refine recb_go (fun hb => ?_) (fun _ => ?_)
        · refine recb_go (fun hb => ?_) (fun _ => ?_)
          · obtain rfl := beqT hb
            rcases args with _ | ⟨a0, l0⟩
            · exact GOk.bad
            rcases l0 with _ | ⟨a1, l1⟩
            · exact GOk.bad
            rcases l1 with _ | ⟨_, _⟩
            · exact g107_ok _ _ _ _ _ 
            · exact GOk.bad
          · exact GOk.bad
        · refine recb_go (fun hb => ?_) (fun _ => ?_)
          · obtain rfl := beqT hb
            rcases args with _ | ⟨a0, l0⟩
            · exact GOk.bad
            rcases l0 with _ | ⟨_, _⟩
            · exact g115_ok _ hI _ _ _ _ 
            · exact GOk.bad
          · exact GOk.bad
      · refine recb_go (fun hb => ?_) (fun _ => ?_)
        · refine recb_go (fun hb => ?_) (fun _ => ?_)
          · obtain rfl := beqT hb
            rcases args with _ | ⟨a0, l0⟩
            · exact GOk.bad
            rcases l0 with _ | ⟨a1, l1⟩
            · exact GOk.bad
            rcases l1 with _ | ⟨_, _⟩
            · exact g138_ok _ hI _ _ _ _ _ 
            · exact GOk.bad
          · exact GOk.bad
        · refine recb_go (fun hb => ?_) (fun _ => ?_)
          · refine recb_go (fun hb => ?_) (fun _ => ?_)
            · obtain rfl := beqT hb
              rcases args with _ | ⟨a0, l0⟩
              · exact GOk.bad
              rcases l0 with _ | ⟨a1, l1⟩
              · exact GOk.bad
              rcases l1 with _ | ⟨_, _⟩
              · exact g141_ok _ _ _ _ _ 
              · exact GOk.bad
            · exact GOk.bad
          · refine recb_go (fun hb => ?_) (fun _ => ?_)
            · obtain rfl := beqT hb
              rcases args with _ | ⟨a0, l0⟩
              · exact GOk.bad
              rcases l0 with _ | ⟨a1, l1⟩
              · exact GOk.bad
              rcases l1 with _ | ⟨a2, l2⟩
              · exact GOk.bad
              rcases l2 with _ | ⟨_, _⟩
              · exact g149_ok _ _ _ _ _ _ 
              · exact GOk.bad
            · exact GOk.bad
  · refine recb_go (fun hb => ?_) (fun _ => ?_)
    · refine recb_go (fun hb => ?_) (fun _ => ?_)
      · refine recb_go (fun hb => ?_) (fun _ => ?_)
        · refine recb_go (fun hb => ?_) (fun _ => ?_)
          · obtain rfl := beqT hb
            rcases args with _ | ⟨a0, l0⟩
            · exact GOk.bad
            rcases l0 with _ | ⟨_, _⟩
            · exact g153_ok _ hI _ _ _ _ 
            · exact GOk.bad
          · exact GOk.bad
        · refine recb_go (fun hb => ?_) (fun _ => ?_)
          · obtain rfl := beqT hb
            rcases args with _ | ⟨a0, l0⟩
            · exact GOk.bad
            rcases l0 with _ | ⟨_, _⟩
            · exact g210_ok _ hI _ _ _ _ 
            · exact GOk.bad
          · exact GOk.bad
      · refine recb_go (fun hb => ?_) (fun _ => ?_)
        · refine recb_go (fun hb => ?_) (fun _ => ?_)
          · obtain rfl := beqT hb
            rcases args with _ | ⟨a0, l0⟩
            · exact GOk.bad
            rcases l0 with _ | ⟨_, _⟩
            · exact g221_ok _ _ _ _ 
            · exact GOk.bad
          · exact GOk.bad
        · refine recb_go (fun hb => ?_) (fun _ => ?_)
          · refine recb_go (fun hb => ?_) (fun _ => ?_)
            · obtain rfl := beqT hb
              rcases args with _ | ⟨a0, l0⟩
              · exact GOk.bad
              rcases l0 with _ | ⟨a1, l1⟩
              · exact GOk.bad
              rcases l1 with _ | ⟨a2, l2⟩
              · exact GOk.bad
              rcases l2 with _ | ⟨_, _⟩
              · exact g256_ok _ hI _ _ _ _ _ _ 
              · exact GOk.bad
            · exact GOk.bad
          · refine recb_go (fun hb => ?_) (fun _ => ?_)
            · obtain rfl := beqT hb
              rcases args with _ | ⟨a0, l0⟩
              · exact GOk.bad
              rcases l0 with _ | ⟨_, _⟩
              · exact g257_ok _ hI _ _ _ _ 
              · exact GOk.bad
            · exact GOk.bad
    · refine recb_go (fun hb => ?_) (fun _ => ?_)
      · refine recb_go (fun hb => ?_) (fun _ => ?_)
        · refine recb_go (fun hb => ?_) (fun _ => ?_)
          · obtain rfl := beqT hb
            rcases args with _ | ⟨a0, l0⟩
            · exact GOk.bad
            rcases l0 with _ | ⟨_, _⟩
            · exact g258_ok _ _ _ _ 
            · exact GOk.bad
          · exact GOk.bad
        · refine recb_go (fun hb => ?_) (fun _ => ?_)
          · refine recb_go (fun hb => ?_) (fun _ => ?_)
            · obtain rfl := beqT hb
              rcases args with _ | ⟨a0, l0⟩
              · exact GOk.bad
              rcases l0 with _ | ⟨_, _⟩
              · exact g275_ok _ hI _ _ _ _ 
              · exact GOk.bad
            · exact GOk.bad
          · refine recb_go (fun hb => ?_) (fun _ => ?_)
            · obtain rfl := beqT hb
              rcases args with _ | ⟨a0, l0⟩
              · exact GOk.bad
              rcases l0 with _ | ⟨_, _⟩
              · exact g280_ok _ hI _ _ _ _ 
              · exact GOk.bad
            · exact GOk.bad
      · refine recb_go (fun hb => ?_) (fun _ => ?_)
        · refine recb_go (fun hb => ?_) (fun _ => ?_)
          · obtain rfl := beqT hb
            rcases args with _ | ⟨a0, l0⟩
            · exact GOk.bad
            rcases l0 with _ | ⟨_, _⟩
            · exact g284_ok _ hI _ _ _ _ 
            · exact GOk.bad
          · exact GOk.bad
        · refine recb_go (fun hb => ?_) (fun _ => ?_)
          · refine recb_go (fun hb => ?_) (fun _ => ?_)
            · obtain rfl := beqT hb
              rcases args with _ | ⟨a0, l0⟩
              · exact GOk.bad
              rcases l0 with _ | ⟨_, _⟩
              · exact g288_ok _ hI _ _ _ _ 
              · exact GOk.bad
            · exact GOk.bad
          · refine recb_go (fun hb => ?_) (fun _ => ?_)
            · obtain rfl := beqT hb
              rcases args with _ | ⟨a0, l0⟩
              · exact GOk.bad
              rcases l0 with _ | ⟨_, _⟩
              · exact scc2_ok _ _ _ _ _ _
              · exact GOk.bad
            · exact GOk.bad
theorem scc3_ok : ∀ (fuel : Nat) (f : FuncId) (ro : List HT) (args : List AV) (T : HT) (nx : Nat), GOk Tryz.prog envE f args ro T nx (scc3 fuel f ro args T nx)
  | 0, _, _, _, _, _ => GOk.bad
  | fuel + 1, f, ro, args, T, nx => ap3_ok (scc3 fuel) (scc3_ok fuel) f ro args T nx
noncomputable def g133 (ro : List HT) (a0 a1 a2 a3 : AV) (T : HT) (nx : Nat) : R :=
 fldK 1330003 T ro a0 2 fun x12_1 =>
 optK 1330007 (bld233 [(0, a1), (1, a2), (2, a3)]) fun x16_2 =>
 bsK 1330008 T nx 1 233 3 [(0, x16_2)] fun x17_3 T1 n1 =>
 shrK 1330010 T1 x12_1 fun T2 =>
 appEK 1330009 T2 ro n1 233 3 32 x12_1 x17_3 fun x18_4 T3 n3 =>
 faK 1330011 a0 2 fun x20_5 =>
 stK 1330012 T3 x20_5 x18_4 fun T4 =>
 .ok (.val (.tup [])) T4 n3
theorem g133_ok (ro : List HT) (a0 a1 a2 a3 : AV) (T : HT) (nx : Nat) : GOk Tryz.prog envE 133 [a0, a1, a2, a3] ro T nx (g133 ro a0 a1 a2 a3 T nx) := by
 refine GOk.of_body Tryz.func133 rfl Tryz.ntmps133 (by kernel_rfl) rfl fun r T' n' h1 w0 base ρ0 its hS hP => ?_
 have X : CtxW envE ρ0 ro r T' n' := trivial
 unfold g133 at h1
 refine CV.region ?_
 refine mv ?_
 refine mv ?_
 refine fl hS h1 Cnf.fo255_2 Cnf.one183 fun x12_1 h2 => ?_
 refine mv ?_
 refine mv ?_
 refine mv ?_
 refine vy (V.bld h2 rfl) fun x16_2 h3 => ?_
 refine LV.bslice hS h3 rfl rfl Cnf.el183 rfl rfl rfl rfl fun x17_3 T1 n1 h4 ρ its hS hdr => ?_
 obtain ⟨T2, its1, h5, hS, hW⟩ := shrK_inv hS h4
 refine LV.world hW ?_
 refine LV.appE hS h5 rfl rfl rfl rfl Cnf.el183 rfl rfl rfl fun x18_4 T3 n3 h6 ρ its hS => ?_
 refine fa2 h6 Cnf.fo255_2 fun x20_5 h7 => ?_
 refine LV.st hS h7 rfl rfl rfl Cnf.siz183 rfl rfl fun T4 its h8 hS => ?_
 refine LV.done ?_
 cases h8
 exact PV.ret (by simp) Tryz.results133 hS RS.nil rfl
noncomputable def g172_k3 (ro : List HT) (y20 : AV) (T3 : HT) (n3 : Nat) : R :=
 .ok (.val y20) T3 n3
noncomputable def g172_k2 (ro : List HT) (y0 y16 : AV) (T2 : HT) (n2 : Nat) : R :=
 condK 1720008 y16
 (
  g172_k3 ro (.lit (.bool true)) T2 n2
 )
 (
  eqK Tryz.prog 5 (.tmp 18) (.const (.int .u8 (.ofNat 95))) 1720011 y0 (.lit (.int .u8 (.ofNat 95))) fun x19_2 =>
  g172_k3 ro x19_2 T2 n2
 )
noncomputable def g172_k4 (ro : List HT) (y0 y15 : AV) (T4 : HT) (n4 : Nat) : R :=
 g172_k2 ro y0 y15 T4 n4
noncomputable def g172_k1 (ro : List HT) (y0 y8 : AV) (T1 : HT) (n1 : Nat) : R :=
 condK 1720013 y8
 (
  g172_k2 ro y0 (.lit (.bool true)) T1 n1
 )
 (
  geK Tryz.prog 5 (.tmp 10) (.const (.int .u8 (.ofNat 65))) 1720016 y0 (.lit (.int .u8 (.ofNat 65))) fun x11_3 =>
  condK 1720019 x11_3
  (
   leK Tryz.prog 5 (.tmp 13) (.const (.int .u8 (.ofNat 90))) 1720021 y0 (.lit (.int .u8 (.ofNat 90))) fun x14_4 =>
   g172_k4 ro y0 x14_4 T1 n1
  )
  (
   g172_k4 ro y0 (.lit (.bool false)) T1 n1
  )
 )
noncomputable def g172 (ro : List HT) (a0 : AV) (T : HT) (nx : Nat) : R :=
 geK Tryz.prog 5 (.tmp 3) (.const (.int .u8 (.ofNat 97))) 1720003 a0 (.lit (.int .u8 (.ofNat 97))) fun x4_1 =>
 condK 1720024 x4_1
 (
  leK Tryz.prog 5 (.tmp 6) (.const (.int .u8 (.ofNat 122))) 1720026 a0 (.lit (.int .u8 (.ofNat 122))) fun x7_5 =>
  g172_k1 ro a0 x7_5 T nx
 )
 (
  g172_k1 ro a0 (.lit (.bool false)) T nx
 )
theorem g172_ok (ro : List HT) (a0 : AV) (T : HT) (nx : Nat) : GOk Tryz.prog envE 172 [a0] ro T nx (g172 ro a0 T nx) := by
 refine GOk.of_body Tryz.func172 rfl Tryz.ntmps172 (by kernel_rfl) rfl fun r T' n' h1 w0 base ρ0 its hS hP => ?_
 have X : CtxW envE ρ0 ro r T' n' := trivial
 unfold g172 at h1
 refine sr ?_
 refine as_ ?_
 refine dn ?_
 refine sr ?_
 refine mv ?_
 refine vy (V.ge h1 rfl rfl) fun x4_1 h2 => ?_
 refine mv ?_
 refine ls2 X 0 8 [(2, (.lit (.bool false)))] (g172_k1 ro) 3 ?_ ?_
 ·
  rcases condK_inv h2 with ⟨e, h13⟩ | ⟨e, h13⟩
  ·
   clear h1 h2
   subst e
   refine mv ?_
   refine vy (V.le h13 rfl rfl) fun x7_5 h14 => ?_
   refine pu ?_
   exact la2 hS h14 ⟨rfl, rfl, rfl, trivial⟩
  ·
   clear h1 h2
   subst e
   refine sk ?_
   refine sk ?_
   refine pu ?_
   exact la2 hS h13 ⟨rfl, rfl, rfl, trivial⟩
 ·
  intro y0 y8 T1 n1 ρ its hS h3
  unfold g172_k1 at h3
  clear h1 h2
  refine mv ?_
  refine ls2 X 0 16 [(2, (.lit (.bool false)))] (g172_k2 ro) 7 ?_ ?_
  ·
   rcases condK_inv h3 with ⟨e, h8⟩ | ⟨e, h8⟩
   ·
    clear h3
    subst e
    refine sk ?_
    refine sk ?_
    refine sk ?_
    refine sk ?_
    refine sk ?_
    refine sk ?_
    refine pu ?_
    exact la2 hS h8 ⟨rfl, rfl, rfl, trivial⟩
   ·
    clear h3
    subst e
    refine mv ?_
    refine vy (V.ge h8 rfl rfl) fun x11_3 h9 => ?_
    refine mv ?_
    refine ls2 X 0 15 [(2, (.lit (.bool false))), (9, (.lit (.bool false)))] (g172_k4 ro) 3 ?_ ?_
    ·
     rcases condK_inv h9 with ⟨e, h11⟩ | ⟨e, h11⟩
     ·
      clear h8 h9
      subst e
      refine mv ?_
      refine vy (V.le h11 rfl rfl) fun x14_4 h12 => ?_
      refine pu ?_
      exact la2 hS h12 ⟨rfl, rfl, rfl, rfl, trivial⟩
     ·
      clear h8 h9
      subst e
      refine sk ?_
      refine sk ?_
      refine pu ?_
      exact la2 hS h11 ⟨rfl, rfl, rfl, rfl, trivial⟩
    ·
     intro y0 y15 T4 n4 ρ its hS h10
     unfold g172_k4 at h10
     clear h8 h9
     refine pu ?_
     exact la2 hS h10 ⟨rfl, rfl, rfl, trivial⟩
  ·
   intro y0 y16 T2 n2 ρ its hS h4
   unfold g172_k2 at h4
   clear h3
   refine mv ?_
   refine ls1 X 20 [(2, (.lit (.bool false)))] (g172_k3 ro) 3 ?_ ?_
   ·
    rcases condK_inv h4 with ⟨e, h6⟩ | ⟨e, h6⟩
    ·
     clear h4
     subst e
     refine sk ?_
     refine sk ?_
     refine pu ?_
     exact la1 hS h6 ⟨rfl, rfl, trivial⟩
    ·
     clear h4
     subst e
     refine mv ?_
     refine vy (V.eq h6 rfl rfl) fun x19_2 h7 => ?_
     refine pu ?_
     exact la1 hS h7 ⟨rfl, rfl, trivial⟩
   ·
    intro y20 T3 n3 ρ its hS h5
    unfold g172_k3 at h5
    clear h4
    refine as_ ?_
    refine dn ?_
    refine CV.ret ?_
    cases h5
    exact PV.ret (by simp) Tryz.results172 hS (RS.tmp rfl RS.nil) rfl
noncomputable def g174_k1 (ro : List HT) (y8 : AV) (T1 : HT) (n1 : Nat) : R :=
 .ok (.val y8) T1 n1
noncomputable def g174 (ro : List HT) (a0 : AV) (T : HT) (nx : Nat) : R :=
 geK Tryz.prog 5 (.tmp 3) (.const (.int .u8 (.ofNat 48))) 1740003 a0 (.lit (.int .u8 (.ofNat 48))) fun x4_1 =>
 condK 1740006 x4_1
 (
  leK Tryz.prog 5 (.tmp 6) (.const (.int .u8 (.ofNat 57))) 1740008 a0 (.lit (.int .u8 (.ofNat 57))) fun x7_2 =>
  g174_k1 ro x7_2 T nx
 )
 (
  g174_k1 ro (.lit (.bool false)) T nx
 )
theorem g174_ok (ro : List HT) (a0 : AV) (T : HT) (nx : Nat) : GOk Tryz.prog envE 174 [a0] ro T nx (g174 ro a0 T nx) := by
 refine GOk.of_body Tryz.func174 rfl Tryz.ntmps174 (by kernel_rfl) rfl fun r T' n' h1 w0 base ρ0 its hS hP => ?_
 have X : CtxW envE ρ0 ro r T' n' := trivial
 unfold g174 at h1
 refine sr ?_
 refine as_ ?_
 refine dn ?_
 refine sr ?_
 refine mv ?_
 refine vy (V.ge h1 rfl rfl) fun x4_1 h2 => ?_
 refine mv ?_
 refine ls1 X 8 [(2, (.lit (.bool false)))] (g174_k1 ro) 3 ?_ ?_
 ·
  rcases condK_inv h2 with ⟨e, h4⟩ | ⟨e, h4⟩
  ·
   clear h1 h2
   subst e
   refine mv ?_
   refine vy (V.le h4 rfl rfl) fun x7_2 h5 => ?_
   refine pu ?_
   exact la1 hS h5 ⟨rfl, rfl, trivial⟩
  ·
   clear h1 h2
   subst e
   refine sk ?_
   refine sk ?_
   refine pu ?_
   exact la1 hS h4 ⟨rfl, rfl, trivial⟩
 ·
  intro y8 T1 n1 ρ its hS h3
  unfold g174_k1 at h3
  clear h1 h2
  refine as_ ?_
  refine dn ?_
  refine CV.ret ?_
  cases h3
  exact PV.ret (by simp) Tryz.results174 hS (RS.tmp rfl RS.nil) rfl
noncomputable def g265 (ro : List HT) (T : HT) (nx : Nat) : R :=
 bsK 2650002 T nx 22 9 1 [(0, (.lit (.string ⟨⟨[61, 61]⟩⟩))), (1, (.lit (.string ⟨⟨[33, 61]⟩⟩))), (2, (.lit (.string ⟨⟨[60, 61]⟩⟩))), (3, (.lit (.string ⟨⟨[62, 61]⟩⟩))), (4, (.lit (.string ⟨⟨[43, 61]⟩⟩))), (5, (.lit (.string ⟨⟨[47, 47]⟩⟩))), (6, (.lit (.string ⟨⟨[60]⟩⟩))), (7, (.lit (.string ⟨⟨[62]⟩⟩))), (8, (.lit (.string ⟨⟨[61]⟩⟩))), (9, (.lit (.string ⟨⟨[43]⟩⟩))), (10, (.lit (.string ⟨⟨[45]⟩⟩))), (11, (.lit (.string ⟨⟨[42]⟩⟩))), (12, (.lit (.string ⟨⟨[37]⟩⟩))), (13, (.lit (.string ⟨⟨[40]⟩⟩))), (14, (.lit (.string ⟨⟨[41]⟩⟩))), (15, (.lit (.string ⟨⟨[91]⟩⟩))), (16, (.lit (.string ⟨⟨[93]⟩⟩))), (17, (.lit (.string ⟨⟨[123]⟩⟩))), (18, (.lit (.string ⟨⟨[125]⟩⟩))), (19, (.lit (.string ⟨⟨[44]⟩⟩))), (20, (.lit (.string ⟨⟨[58]⟩⟩))), (21, (.lit (.string ⟨⟨[46]⟩⟩)))] fun x1_1 T1 n1 =>
 .ok (.val x1_1) T1 n1
theorem g265_ok (ro : List HT) (T : HT) (nx : Nat) : GOk Tryz.prog envE 265 [] ro T nx (g265 ro T nx) := by
 refine GOk.of_body Tryz.func265 rfl Tryz.ntmps265 (by kernel_rfl) rfl fun r T' n' h1 w0 base ρ0 its hS hP => ?_
 have X : CtxW envE ρ0 ro r T' n' := trivial
 unfold g265 at h1
 refine sr ?_
 refine as_ ?_
 refine dn ?_
 refine sr ?_
 refine LV.bslice hS h1 rfl rfl Cnf.el54 rfl rfl rfl rfl fun x1_1 T1 n1 h2 ρ its hS hdr => ?_
 refine as_ ?_
 refine dn ?_
 refine CV.ret ?_
 cases h2
 exact PV.ret (by simp) Tryz.results265 hS (RS.tmp rfl RS.nil) rfl
noncomputable def g260_k1 (ro : List HT) (y17 : AV) (T1 : HT) (n1 : Nat) : R :=
 .ok (.val y17) T1 n1
noncomputable def g260 (ro : List HT) (a0 a1 : AV) (T : HT) (nx : Nat) : R :=
 lenTK 2600003 a0 fun x6_1 =>
 lenTK 2600005 a1 fun x8_2 =>
 geK Tryz.prog 3 (.tmp 6) (.tmp 8) 2600006 x6_1 x8_2 fun x9_3 =>
 condK 2600009 x9_3
 (
  lenTK 2600012 a1 fun x13_4 =>
  sliceF 2600013 a0 none (some x13_4) fun x14_5 =>
  eqSK Tryz.prog 9 (.tmp 14) (.tmp 15) 2600015 x14_5 a1 fun x16_6 =>
  g260_k1 ro x16_6 T nx
 )
 (
  g260_k1 ro (.lit (.bool false)) T nx
 )
theorem g260_ok (ro : List HT) (a0 a1 : AV) (T : HT) (nx : Nat) : GOk Tryz.prog envE 260 [a0, a1] ro T nx (g260 ro a0 a1 T nx) := by
 refine GOk.of_body Tryz.func260 rfl Tryz.ntmps260 (by kernel_rfl) rfl fun r T' n' h1 w0 base ρ0 its hS hP => ?_
 have X : CtxW envE ρ0 ro r T' n' := trivial
 unfold g260 at h1
 refine sr ?_
 refine as_ ?_
 refine dn ?_
 refine sr ?_
 refine mv ?_
 refine vy (V.lenT h1 rfl Cnf.ls9) fun x6_1 h2 => ?_
 refine mv ?_
 refine vy (V.lenT h2 rfl Cnf.ls9) fun x8_2 h3 => ?_
 refine vy (V.ge h3 rfl rfl) fun x9_3 h4 => ?_
 refine mv ?_
 refine ls1 X 17 [(4, (.lit (.bool false)))] (g260_k1 ro) 7 ?_ ?_
 ·
  rcases condK_inv h4 with ⟨e, h6⟩ | ⟨e, h6⟩
  ·
   clear h1 h2 h3 h4
   subst e
   refine mv ?_
   refine mv ?_
   refine vy (V.lenT h6 rfl Cnf.ls9) fun x13_4 h7 => ?_
   refine vy (V.slHi (sliceF_ok h7) rfl rfl Cnf.st9) fun x14_5 h8 => ?_
   refine mv ?_
   refine vy (V.eqS h8 rfl rfl) fun x16_6 h9 => ?_
   refine pu ?_
   exact la1 hS h9 ⟨rfl, rfl, trivial⟩
  ·
   clear h1 h2 h3 h4
   subst e
   refine sk ?_
   refine sk ?_
   refine sk ?_
   refine sk ?_
   refine sk ?_
   refine sk ?_
   refine pu ?_
   exact la1 hS h6 ⟨rfl, rfl, trivial⟩
 ·
  intro y17 T1 n1 ρ its hS h5
  unfold g260_k1 at h5
  clear h1 h2 h3 h4
  refine as_ ?_
  refine dn ?_
  refine CV.ret ?_
  cases h5
  exact PV.ret (by simp) Tryz.results260 hS (RS.tmp rfl RS.nil) rfl
noncomputable def g266 (ro : List HT) (a0 a1 : AV) (T : HT) (nx : Nat) : R :=
 callK (g260 ro a0 a1 T nx) fun x7_1 T1 n1 =>
 .ok (.val x7_1) T1 n1
theorem g266_ok (ro : List HT) (a0 a1 : AV) (T : HT) (nx : Nat) : GOk Tryz.prog envE 266 [a0, a1] ro T nx (g266 ro a0 a1 T nx) := by
 refine GOk.of_body Tryz.func266 rfl Tryz.ntmps266 (by kernel_rfl) rfl fun r T' n' h1 w0 base ρ0 its hS hP => ?_
 have X : CtxW envE ρ0 ro r T' n' := trivial
 unfold g266 at h1
 refine sr ?_
 refine as_ ?_
 refine dn ?_
 refine sr ?_
 refine mv ?_
 refine mv ?_
 refine LV.call hS h1 (g260_ok _ _ _ _ _ ) hP rfl rfl rfl rfl fun x7_1 T1 n1 h2 ρ its hS => ?_
 refine as_ ?_
 refine dn ?_
 refine CV.ret ?_
 cases h2
 exact PV.ret (by simp) Tryz.results266 hS (RS.tmp rfl RS.nil) rfl
noncomputable def g233_b1 (ro : List HT) (lp1 : AV → AV → AV → AV → AV → HT → Nat → R) (y0 y2 y5 y6 y7 : AV) (T2 : HT) (n2 : Nat) : R :=
 ltK Tryz.prog 3 (.tmp 7) (.tmp 6) 2330006 y7 y6 fun x8_3 =>
 condK 2330007 x8_3
 (
  iaK 2330008 y5 y7 1 fun x9_4 =>
  ldK 2330009 T2 ro x9_4 fun x10_5 =>
  ncK 2330012 y0 fun x12_6 =>
  faK 2330013 x12_6 0 fun x13_7 =>
  ldK 2330014 T2 ro x13_7 fun x14_8 =>
  ncK 2330016 y0 fun x16_9 =>
  faK 2330017 x16_9 1 fun x17_10 =>
  ldK 2330018 T2 ro x17_10 fun x18_11 =>
  sliceF 2330019 x14_8 (some x18_11) none fun x19_12 =>
  callK (g266 ro x19_12 x10_5 T2 n2) fun x21_13 T3 n3 =>
  condK 2330022 x21_13
  (
   .ok (.val x10_5) T3 n3
  )
  (
   addK Tryz.prog 3 (.tmp 7) (.const (.int .i64 (.ofNat 1))) 2330025 y7 (.lit (.int .i64 (.ofNat 1))) fun x23_14 =>
   lp1 y0 y2 y5 y6 x23_14 T3 n3
  )
 )
 (
  .ok (.val (.lit (.string ⟨⟨[]⟩⟩))) T2 n2
 )
noncomputable def g233 (ro : List HT) (a0 : AV) (T : HT) (nx : Nat) : R :=
 callK (g265 ro T nx) fun x5_1 T1 n1 =>
 lenSK 2330003 x5_1 fun x6_2 =>
 lpf5 2330005 (g233_b1 ro) 100000 a0 (.lit (.string ⟨⟨[]⟩⟩)) x5_1 x6_2 (.lit (.int .i64 (.ofNat 0))) T1 n1
theorem g233_ok (ro : List HT) (a0 : AV) (T : HT) (nx : Nat) : GOk Tryz.prog envE 233 [a0] ro T nx (g233 ro a0 T nx) := by
 refine GOk.of_body Tryz.func233 rfl Tryz.ntmps233 (by kernel_rfl) rfl fun r T' n' h1 w0 base ρ0 its hS hP => ?_
 have X : CtxW envE ρ0 ro r T' n' := trivial
 unfold g233 at h1
 refine sr ?_
 refine as_ ?_
 refine dn ?_
 refine CV.seq ?_
 refine sr ?_
 refine LV.call hS h1 (g265_ok _ _ _ ) hP rfl rfl rfl rfl fun x5_1 T1 n1 h2 ρ its hS => ?_
 refine vy (V.lenS h2 rfl Cnf.ls54) fun x6_2 h3 => ?_
 refine mv ?_
 refine dn ?_
 refine CV.block ?_
 refine cl5 X 0 2 5 6 7 [] hS h3 ⟨rfl, rfl, rfl, rfl, rfl, trivial⟩ ?_
 intro f1 y0 y2 y5 y6 y7 T2 n2 ρ its hS h4
 unfold g233_b1 at h4
 clear h1 h2 h3
 refine sr ?_
 refine vy (V.lt h4 rfl rfl) fun x8_3 h5 => ?_
 refine dn ?_
 refine CV.seq ?_
 refine CV.cond h5 rfl (fun e h6 => ?_) (fun e h6 => ?_)
 ·
  clear h4 h5
  subst e
  refine CV.skip ?_
  refine PV.thenN ?_
  refine CV.seq ?_
  refine CV.block ?_
  refine sr ?_
  refine vy (V.ia h6 rfl rfl Cnf.el54) fun x9_4 h7 => ?_
  refine vy (V.ld hS h7 rfl Cnf.one9) fun x10_5 h8 => ?_
  refine as_ ?_
  refine dn ?_
  refine CV.seq ?_
  refine CV.regionM [(0, .anywhere), (1, .anywhere), (2, .anywhere), (3, .held), (4, .anywhere), (5, .anywhere), (6, .anywhere), (7, .held), (8, .held), (9, .anywhere), (10, .alone)] rfl (fun c a a' w hd hq => PanicOk.root (P := Tryz.prog) (fn := Tryz.f233) (w0 := w0) (base := base) (E := envE) (ro := ro) (r := r) (T' := T') (n' := n') (ρ0 := ρ0) c a a' w hd hq) (by kernel_rfl) ?_
  refine MV.step0 (i := 0) rfl (VAL.move rfl) rfl rfl rfl ?_
  refine MV.lift0 (i := 1) rfl (V.nc h8 rfl) rfl rfl rfl fun x12_6 h9 => ?_
  refine MV.lift0 (i := 2) rfl (V.fa h9 rfl Cnf.fo255_0) rfl rfl rfl fun x13_7 h10 => ?_
  refine MV.lift1 (i := 3) rfl (fun _ z => z) (V.ld hS h10 rfl Cnf.one9) rfl rfl rfl [] (by kernel_rfl) fun x14_8 h11 => ?_
  refine MV.step0 (i := 4) rfl (VAL.move rfl) rfl rfl rfl ?_
  refine MV.lift0 (i := 5) rfl (V.nc h11 rfl) rfl rfl rfl fun x16_9 h12 => ?_
  refine MV.lift0 (i := 6) rfl (V.fa h12 rfl Cnf.fo255_1) rfl rfl rfl fun x17_10 h13 => ?_
  refine MV.lift1 (i := 7) rfl (fun _ z => z) (V.ld hS h13 rfl Cnf.one3) rfl rfl rfl [3] (by kernel_rfl) fun x18_11 h14 => ?_
  refine MV.lift1 (i := 8) rfl (fun _ z => z) (V.slLo (sliceF_ok h14) rfl rfl Cnf.st9) rfl rfl rfl [] (by kernel_rfl) fun x19_12 h15 => ?_
  refine MV.step0 (i := 9) rfl (VAL.move rfl) rfl rfl rfl ?_
  refine MV.force (i := 10) rfl ?_
  refine LV.call hS h15 (g266_ok _ _ _ _ _ ) hP rfl rfl rfl rfl fun x21_13 T3 n3 h16 ρ its hS => ?_
  refine LV.nextM [] (by kernel_rfl) (fun z => absurd rfl z) ?_
  refine mdn ?_
  refine CV.cond h16 rfl (fun e h17 => ?_) (fun e h17 => ?_)
  ·
   clear h6 h7 h8 h9 h10 h11 h12 h13 h14 h15 h16
   subst e
   refine sr ?_
   refine mv ?_
   refine as_ ?_
   refine dn ?_
   refine CV.ret ?_
   refine PV.blockR ?_
   refine PV.thenR ?_
   refine PV.thenR ?_
   refine PV.blockR ?_
   refine PV.thenR ?_
   cases h17
   exact PV.ret (by simp) Tryz.results233 hS (RS.tmp rfl RS.nil) rfl
  ·
   clear h6 h7 h8 h9 h10 h11 h12 h13 h14 h15 h16
   subst e
   refine CV.skip ?_
   refine PV.blockN ?_
   refine PV.thenN ?_
   refine CV.region ?_
   refine vy (V.add h17 rfl rfl) fun x23_14 h18 => ?_
   refine mv ?_
   refine LV.done ?_
   exact pb5 hS h18 ⟨rfl, rfl, rfl, rfl, rfl, trivial⟩
 ·
  clear h4 h5
  subst e
  refine CV.exit ?_
  refine PV.thenE ?_
  refine PV.thenE ?_
  refine PV.blockE ?_
  refine PV.thenN ?_
  refine sr ?_
  refine as_ ?_
  refine dn ?_
  refine CV.ret ?_
  cases h6
  exact PV.ret (by simp) Tryz.results233 hS (RS.tmp rfl RS.nil) rfl
noncomputable def g229_k3 (ro : List HT) (y0 y26 : AV) (T4 : HT) (n4 : Nat) : R :=
 condK 2290017 y26
 (
  .ok (.val (.lit (.bool true))) T4 n4
 )
 (
  callK (g233 ro y0 T4 n4) fun x28_9 T5 n5 =>
  neSK Tryz.prog 9 (.tmp 28) (.const (.string ⟨⟨[]⟩⟩)) 2290021 x28_9 (.lit (.string ⟨⟨[]⟩⟩)) fun x29_10 =>
  .ok (.val x29_10) T5 n5
 )
noncomputable def g229_k2 (ro : List HT) (y0 y3 y22 : AV) (T3 : HT) (n3 : Nat) : R :=
 condK 2290023 y22
 (
  g229_k3 ro y0 (.lit (.bool true)) T3 n3
 )
 (
  eqK Tryz.prog 5 (.tmp 24) (.const (.int .u8 (.ofNat 39))) 2290026 y3 (.lit (.int .u8 (.ofNat 39))) fun x25_11 =>
  g229_k3 ro y0 x25_11 T3 n3
 )
noncomputable def g229_k1 (ro : List HT) (y0 y3 y18 : AV) (T2 : HT) (n2 : Nat) : R :=
 condK 2290028 y18
 (
  g229_k2 ro y0 y3 (.lit (.bool true)) T2 n2
 )
 (
  eqK Tryz.prog 5 (.tmp 20) (.const (.int .u8 (.ofNat 34))) 2290031 y3 (.lit (.int .u8 (.ofNat 34))) fun x21_12 =>
  g229_k2 ro y0 y3 x21_12 T2 n2
 )
noncomputable def g229 (ro : List HT) (a0 : AV) (T : HT) (nx : Nat) : R :=
 ncK 2290003 a0 fun x5_1 =>
 faK 2290004 x5_1 0 fun x6_2 =>
 ldK 2290005 T ro x6_2 fun x7_3 =>
 ncK 2290007 a0 fun x9_4 =>
 faK 2290008 x9_4 1 fun x10_5 =>
 ldK 2290009 T ro x10_5 fun x11_6 =>
 ixK 2290010 x7_3 x11_6 fun x12_7 =>
 callK (g172 ro x12_7 T nx) fun x14_8 T1 n1 =>
 condK 2290033 x14_8
 (
  g229_k1 ro a0 x12_7 (.lit (.bool true)) T1 n1
 )
 (
  callK (g174 ro x12_7 T1 n1) fun x17_13 T6 n6 =>
  g229_k1 ro a0 x12_7 x17_13 T6 n6
 )
theorem g229_ok (ro : List HT) (a0 : AV) (T : HT) (nx : Nat) : GOk Tryz.prog envE 229 [a0] ro T nx (g229 ro a0 T nx) := by
 refine GOk.of_body Tryz.func229 rfl Tryz.ntmps229 (by kernel_rfl) rfl fun r T' n' h1 w0 base ρ0 its hS hP => ?_
 have X : CtxW envE ρ0 ro r T' n' := trivial
 unfold g229 at h1
 refine sr ?_
 refine as_ ?_
 refine dn ?_
 refine CV.seq ?_
 refine CV.regionM [(0, .anywhere), (1, .anywhere), (2, .anywhere), (3, .held), (4, .anywhere), (5, .anywhere), (6, .anywhere), (7, .held), (8, .held), (9, .held)] rfl (fun c a a' w hd hq => PanicOk.root (P := Tryz.prog) (fn := Tryz.f229) (w0 := w0) (base := base) (E := envE) (ro := ro) (r := r) (T' := T') (n' := n') (ρ0 := ρ0) c a a' w hd hq) (by kernel_rfl) ?_
 refine MV.step0 (i := 0) rfl (VAL.move rfl) rfl rfl rfl ?_
 refine MV.lift0 (i := 1) rfl (V.nc h1 rfl) rfl rfl rfl fun x5_1 h2 => ?_
 refine MV.lift0 (i := 2) rfl (V.fa h2 rfl Cnf.fo255_0) rfl rfl rfl fun x6_2 h3 => ?_
 refine MV.lift1 (i := 3) rfl (fun _ z => z) (V.ld hS h3 rfl Cnf.one9) rfl rfl rfl [] (by kernel_rfl) fun x7_3 h4 => ?_
 refine MV.step0 (i := 4) rfl (VAL.move rfl) rfl rfl rfl ?_
 refine MV.lift0 (i := 5) rfl (V.nc h4 rfl) rfl rfl rfl fun x9_4 h5 => ?_
 refine MV.lift0 (i := 6) rfl (V.fa h5 rfl Cnf.fo255_1) rfl rfl rfl fun x10_5 h6 => ?_
 refine MV.lift1 (i := 7) rfl (fun _ z => z) (V.ld hS h6 rfl Cnf.one3) rfl rfl rfl [3] (by kernel_rfl) fun x11_6 h7 => ?_
 refine MV.lift1 (i := 8) rfl (fun _ z => z) (V.ix h7 rfl rfl Cnf.st9) rfl rfl rfl [] (by kernel_rfl) fun x12_7 h8 => ?_
 refine MV.step1 (i := 9) rfl (fun _ z => z) (VAL.assign rfl) rfl rfl rfl [] (by kernel_rfl) ?_
 refine mdn ?_
 refine CV.seq ?_
 refine sr ?_
 refine mv ?_
 refine LV.call hS h8 (g172_ok _ _ _ _ ) hP rfl rfl rfl rfl fun x14_8 T1 n1 h9 ρ its hS => ?_
 refine mv ?_
 refine ls3 X 0 3 18 [(2, (.lit (.bool false)))] (g229_k1 ro) 3 ?_ ?_
 ·
  rcases condK_inv h9 with ⟨e, h20⟩ | ⟨e, h20⟩
  ·
   clear h1 h2 h3 h4 h5 h6 h7 h8 h9
   subst e
   refine sk ?_
   refine sk ?_
   refine pu ?_
   exact la3 hS h20 ⟨rfl, rfl, rfl, rfl, trivial⟩
  ·
   clear h1 h2 h3 h4 h5 h6 h7 h8 h9
   subst e
   refine mv ?_
   refine LV.call hS h20 (g174_ok _ _ _ _ ) hP rfl rfl rfl rfl fun x17_13 T6 n6 h21 ρ its hS => ?_
   refine pu ?_
   exact la3 hS h21 ⟨rfl, rfl, rfl, rfl, trivial⟩
 ·
  intro y0 y3 y18 T2 n2 ρ its hS h10
  unfold g229_k1 at h10
  clear h1 h2 h3 h4 h5 h6 h7 h8 h9
  refine mv ?_
  refine ls3 X 0 3 22 [(2, (.lit (.bool false)))] (g229_k2 ro) 3 ?_ ?_
  ·
   rcases condK_inv h10 with ⟨e, h18⟩ | ⟨e, h18⟩
   ·
    clear h10
    subst e
    refine sk ?_
    refine sk ?_
    refine pu ?_
    exact la3 hS h18 ⟨rfl, rfl, rfl, rfl, trivial⟩
   ·
    clear h10
    subst e
    refine mv ?_
    refine vy (V.eq h18 rfl rfl) fun x21_12 h19 => ?_
    refine pu ?_
    exact la3 hS h19 ⟨rfl, rfl, rfl, rfl, trivial⟩
  ·
   intro y0 y3 y22 T3 n3 ρ its hS h11
   unfold g229_k2 at h11
   clear h10
   refine mv ?_
   refine ls2 X 0 26 [(2, (.lit (.bool false)))] (g229_k3 ro) 3 ?_ ?_
   ·
    rcases condK_inv h11 with ⟨e, h16⟩ | ⟨e, h16⟩
    ·
     clear h11
     subst e
     refine sk ?_
     refine sk ?_
     refine pu ?_
     exact la2 hS h16 ⟨rfl, rfl, rfl, trivial⟩
    ·
     clear h11
     subst e
     refine mv ?_
     refine vy (V.eq h16 rfl rfl) fun x25_11 h17 => ?_
     refine pu ?_
     exact la2 hS h17 ⟨rfl, rfl, rfl, trivial⟩
   ·
    intro y0 y26 T4 n4 ρ its hS h12
    unfold g229_k3 at h12
    clear h11
    refine dn ?_
    refine CV.cond h12 rfl (fun e h13 => ?_) (fun e h13 => ?_)
    ·
     clear h12
     subst e
     refine sr ?_
     refine as_ ?_
     refine dn ?_
     refine CV.ret ?_
     refine PV.thenR ?_
     cases h13
     exact PV.ret (by simp) Tryz.results229 hS (RS.tmp rfl RS.nil) rfl
    ·
     clear h12
     subst e
     refine CV.skip ?_
     refine PV.thenN ?_
     refine sr ?_
     refine mv ?_
     refine LV.call hS h13 (g233_ok _ _ _ _ ) hP rfl rfl rfl rfl fun x28_9 T5 n5 h14 ρ its hS => ?_
     refine vy (V.neS h14 rfl rfl) fun x29_10 h15 => ?_
     refine as_ ?_
     refine dn ?_
     refine CV.ret ?_
     cases h15
     exact PV.ret (by simp) Tryz.results229 hS (RS.tmp rfl RS.nil) rfl
noncomputable def g263_b1 (ro : List HT) (lp1 : AV → AV → AV → AV → HT → Nat → R) (y0 y1 y4 y5 : AV) (T1 : HT) (n1 : Nat) : R :=
 geK Tryz.prog 3 (.tmp 9) (.const (.int .i64 (.ofNat 0))) 2630008 y5 (.lit (.int .i64 (.ofNat 0))) fun x10_3 =>
 condK 2630009 x10_3
 (
  ixK 2630012 y0 y5 fun x15_4 =>
  eqK Tryz.prog 5 (.tmp 15) (.tmp 16) 2630014 x15_4 y1 fun x17_5 =>
  condK 2630015 x17_5
  (
   .ok (.val y5) T1 n1
  )
  (
   subK Tryz.prog 3 (.tmp 11) (.const (.int .i64 (.ofNat 1))) 2630019 y5 (.lit (.int .i64 (.ofNat 1))) fun x12_6 =>
   lp1 y0 y1 y4 x12_6 T1 n1
  )
 )
 (
  .ok (.val (.lit (.int .i64 (.negSucc 0)))) T1 n1
 )
noncomputable def g263 (ro : List HT) (a0 a1 : AV) (T : HT) (nx : Nat) : R :=
 lenTK 2630003 a0 fun x7_1 =>
 subK Tryz.prog 3 (.tmp 7) (.const (.int .i64 (.ofNat 1))) 2630004 x7_1 (.lit (.int .i64 (.ofNat 1))) fun x8_2 =>
 lpf4 2630006 (g263_b1 ro) 100000 a0 a1 (.lit (.int .i64 (.ofNat 0))) x8_2 T nx
theorem g263_ok (ro : List HT) (a0 a1 : AV) (T : HT) (nx : Nat) : GOk Tryz.prog envE 263 [a0, a1] ro T nx (g263 ro a0 a1 T nx) := by
 refine GOk.of_body Tryz.func263 rfl Tryz.ntmps263 (by kernel_rfl) rfl fun r T' n' h1 w0 base ρ0 its hS hP => ?_
 have X : CtxW envE ρ0 ro r T' n' := trivial
 unfold g263 at h1
 refine sr ?_
 refine as_ ?_
 refine dn ?_
 refine CV.seq ?_
 refine sr ?_
 refine mv ?_
 refine vy (V.lenT h1 rfl Cnf.ls9) fun x7_1 h2 => ?_
 refine vy (V.sub h2 rfl rfl) fun x8_2 h3 => ?_
 refine as_ ?_
 refine dn ?_
 refine CV.block ?_
 refine cl4 X 0 1 4 5 [] hS h3 ⟨rfl, rfl, rfl, rfl, trivial⟩ ?_
 intro f1 y0 y1 y4 y5 T1 n1 ρ its hS h4
 unfold g263_b1 at h4
 clear h1 h2 h3
 refine CV.seq ?_
 refine sr ?_
 refine mv ?_
 refine vy (V.ge h4 rfl rfl) fun x10_3 h5 => ?_
 refine dn ?_
 refine CV.cond h5 rfl (fun e h6 => ?_) (fun e h6 => ?_)
 ·
  clear h4 h5
  subst e
  refine CV.skip ?_
  refine PV.thenN ?_
  refine CV.seq ?_
  refine CV.block ?_
  refine sr ?_
  refine mv ?_
  refine mv ?_
  refine vy (V.ix h6 rfl rfl Cnf.st9) fun x15_4 h7 => ?_
  refine mv ?_
  refine vy (V.eq h7 rfl rfl) fun x17_5 h8 => ?_
  refine dn ?_
  refine CV.cond h8 rfl (fun e h9 => ?_) (fun e h9 => ?_)
  ·
   clear h6 h7 h8
   subst e
   refine sr ?_
   refine mv ?_
   refine as_ ?_
   refine dn ?_
   refine CV.ret ?_
   refine PV.blockR ?_
   refine PV.thenR ?_
   refine PV.thenR ?_
   refine PV.blockR ?_
   refine PV.thenR ?_
   cases h9
   exact PV.ret (by simp) Tryz.results263 hS (RS.tmp rfl RS.nil) rfl
  ·
   clear h6 h7 h8
   subst e
   refine CV.skip ?_
   refine PV.blockN ?_
   refine PV.thenN ?_
   refine CV.region ?_
   refine mv ?_
   refine vy (V.sub h9 rfl rfl) fun x12_6 h10 => ?_
   refine as_ ?_
   refine LV.done ?_
   exact pb4 hS h10 ⟨rfl, rfl, rfl, rfl, trivial⟩
 ·
  clear h4 h5
  subst e
  refine CV.exit ?_
  refine PV.thenE ?_
  refine PV.thenE ?_
  refine PV.blockE ?_
  refine PV.thenN ?_
  refine sr ?_
  refine as_ ?_
  refine dn ?_
  refine CV.ret ?_
  cases h6
  exact PV.ret (by simp) Tryz.results263 hS (RS.tmp rfl RS.nil) rfl
noncomputable def g230 (ro : List HT) (a0 a1 : AV) (T : HT) (nx : Nat) : R :=
 callK (g263 ro a0 a1 T nx) fun x7_1 T1 n1 =>
 .ok (.val x7_1) T1 n1
theorem g230_ok (ro : List HT) (a0 a1 : AV) (T : HT) (nx : Nat) : GOk Tryz.prog envE 230 [a0, a1] ro T nx (g230 ro a0 a1 T nx) := by
 refine GOk.of_body Tryz.func230 rfl Tryz.ntmps230 (by kernel_rfl) rfl fun r T' n' h1 w0 base ρ0 its hS hP => ?_
 have X : CtxW envE ρ0 ro r T' n' := trivial
 unfold g230 at h1
 refine sr ?_
 refine as_ ?_
 refine dn ?_
 refine sr ?_
 refine mv ?_
 refine mv ?_
 refine LV.call hS h1 (g263_ok _ _ _ _ _ ) hP rfl rfl rfl rfl fun x7_1 T1 n1 h2 ρ its hS => ?_
 refine as_ ?_
 refine dn ?_
 refine CV.ret ?_
 cases h2
 exact PV.ret (by simp) Tryz.results230 hS (RS.tmp rfl RS.nil) rfl
noncomputable def g171_b1 (ro : List HT) (lp1 : AV → AV → AV → HT → Nat → R) (y0 y2 y3 : AV) (T3 : HT) (n3 : Nat) : R :=
 ncK 1710048 y0 fun x76_28 =>
 faK 1710049 x76_28 3 fun x77_29 =>
 ldK 1710050 T3 ro x77_29 fun x78_30 =>
 ncK 1710052 y0 fun x80_31 =>
 faK 1710053 x80_31 3 fun x81_32 =>
 ldK 1710054 T3 ro x81_32 fun x82_33 =>
 lenSK 1710055 x82_33 fun x83_34 =>
 subK Tryz.prog 3 (.tmp 83) (.const (.int .i64 (.ofNat 1))) 1710056 x83_34 (.lit (.int .i64 (.ofNat 1))) fun x84_35 =>
 iaK 1710057 x78_30 x84_35 1 fun x85_36 =>
 ldK 1710058 T3 ro x85_36 fun x86_37 =>
 ltK Tryz.prog 3 (.tmp 74) (.tmp 86) 1710059 y3 x86_37 fun x87_38 =>
 condK 1710060 x87_38
 (
  ncK 1710063 y0 fun x90_39 =>
  faK 1710064 x90_39 3 fun x91_40 =>
  ldK 1710065 T3 ro x91_40 fun x92_41 =>
  ncK 1710067 y0 fun x94_42 =>
  faK 1710068 x94_42 3 fun x95_43 =>
  ldK 1710069 T3 ro x95_43 fun x96_44 =>
  lenSK 1710070 x96_44 fun x97_45 =>
  subK Tryz.prog 3 (.tmp 97) (.const (.int .i64 (.ofNat 1))) 1710071 x97_45 (.lit (.int .i64 (.ofNat 1))) fun x98_46 =>
  cutHiK 1710072 T3 ro x92_41 x98_46 fun x99_47 =>
  ncK 1710073 y0 fun x100_48 =>
  faK 1710074 x100_48 3 fun x101_49 =>
  stK 1710075 T3 x101_49 x99_47 fun T4 =>
  fldK 1710078 T4 ro y0 1 fun x106_50 =>
  callK (g133 ro y0 (.lit (.int .i64 (.ofNat 7))) (.lit (.string ⟨⟨[]⟩⟩)) x106_50 T4 n3) fun x107_51 T5 n5 =>
  lp1 y0 y2 y3 T5 n5
 )
 (
  ncK 1710082 y0 fun x110_52 =>
  faK 1710083 x110_52 3 fun x111_53 =>
  ldK 1710084 T3 ro x111_53 fun x112_54 =>
  ncK 1710086 y0 fun x114_55 =>
  faK 1710087 x114_55 3 fun x115_56 =>
  ldK 1710088 T3 ro x115_56 fun x116_57 =>
  lenSK 1710089 x116_57 fun x117_58 =>
  subK Tryz.prog 3 (.tmp 117) (.const (.int .i64 (.ofNat 1))) 1710090 x117_58 (.lit (.int .i64 (.ofNat 1))) fun x118_59 =>
  iaK 1710091 x112_54 x118_59 1 fun x119_60 =>
  ldK 1710092 T3 ro x119_60 fun x120_61 =>
  neK Tryz.prog 3 (.tmp 108) (.tmp 120) 1710093 y3 x120_61 fun x121_62 =>
  condK 1710094 x121_62
  (
   .bad 1710095
  )
  (
   .ok (.val (.lit (.nilIface))) T3 n3
  )
 )
noncomputable def g171 (ro : List HT) (a0 : AV) (T : HT) (nx : Nat) : R :=
 callK (g229 ro a0 T nx) fun x6_1 T1 n1 =>
 notK 1710004 x6_1 fun x7_2 =>
 condK 1710005 x7_2
 (
  .bad 1710006
 )
 (
  faK 1710008 a0 5 fun x15_3 =>
  stK 1710009 T1 x15_3 (.lit (.bool true)) fun T2 =>
  ncK 1710011 a0 fun x17_4 =>
  faK 1710012 x17_4 1 fun x18_5 =>
  ldK 1710013 T2 ro x18_5 fun x19_6 =>
  ncK 1710015 a0 fun x21_7 =>
  faK 1710016 x21_7 0 fun x22_8 =>
  ldK 1710017 T2 ro x22_8 fun x23_9 =>
  ncK 1710019 a0 fun x25_10 =>
  faK 1710020 x25_10 1 fun x26_11 =>
  ldK 1710021 T2 ro x26_11 fun x27_12 =>
  sliceF 1710022 x23_9 none (some x27_12) fun x28_13 =>
  callQ 1710023 (g230 (T2 :: ro) x28_13 (.lit (.int .u8 (.ofNat 10))) .nil n1) fun x29_14 =>
  addK Tryz.prog 3 (.tmp 29) (.const (.int .i64 (.ofNat 1))) 1710024 x29_14 (.lit (.int .i64 (.ofNat 1))) fun x30_15 =>
  subK Tryz.prog 3 (.tmp 19) (.tmp 30) 1710025 x19_6 x30_15 fun x31_16 =>
  ncK 1710028 a0 fun x33_17 =>
  faK 1710029 x33_17 3 fun x34_18 =>
  ldK 1710030 T2 ro x34_18 fun x35_19 =>
  ncK 1710032 a0 fun x37_20 =>
  faK 1710033 x37_20 3 fun x38_21 =>
  ldK 1710034 T2 ro x38_21 fun x39_22 =>
  lenSK 1710035 x39_22 fun x40_23 =>
  subK Tryz.prog 3 (.tmp 40) (.const (.int .i64 (.ofNat 1))) 1710036 x40_23 (.lit (.int .i64 (.ofNat 1))) fun x41_24 =>
  iaK 1710037 x35_19 x41_24 1 fun x42_25 =>
  ldK 1710038 T2 ro x42_25 fun x43_26 =>
  gtK Tryz.prog 3 (.tmp 44) (.tmp 45) 1710042 x31_16 x43_26 fun x46_27 =>
  condK 1710043 x46_27
  (
   .bad 1710044
  )
  (
   lpf3 1710045 (g171_b1 ro) 100000 a0 (.lit (.nilIface)) x31_16 T2 n1
  )
 )
theorem g171_ok (ro : List HT) (a0 : AV) (T : HT) (nx : Nat) : GOk Tryz.prog envE 171 [a0] ro T nx (g171 ro a0 T nx) := by
 refine GOk.of_body Tryz.func171 rfl Tryz.ntmps171 (by kernel_rfl) rfl fun r T' n' h1 w0 base ρ0 its hS hP => ?_
 have X : CtxW envE ρ0 ro r T' n' := trivial
 unfold g171 at h1
 refine sr ?_
 refine as_ ?_
 refine dn ?_
 refine CV.seq ?_
 refine sr ?_
 refine mv ?_
 refine LV.call hS h1 (g229_ok _ _ _ _ ) hP rfl rfl rfl rfl fun x6_1 T1 n1 h2 ρ its hS => ?_
 refine vy (V.not h2 rfl) fun x7_2 h3 => ?_
 refine dn ?_
 refine CV.cond h3 rfl (fun e h4 => ?_) (fun e h4 => ?_)
 ·
  clear h1 h2 h3
  subst e
  cases h4
 ·
  clear h1 h2 h3
  subst e
  refine CV.skip ?_
  refine PV.thenN ?_
  refine sr ?_
  refine mv ?_
  refine fa2 h4 Cnf.fo255_5 fun x15_3 h5 => ?_
  refine LV.st hS h5 rfl rfl rfl Cnf.siz4 rfl rfl fun T2 its h6 hS => ?_
  refine dn ?_
  refine CV.seq ?_
  refine CV.regionM [(0, .anywhere), (1, .anywhere), (2, .anywhere), (3, .held), (4, .anywhere), (5, .anywhere), (6, .anywhere), (7, .held), (8, .anywhere), (9, .anywhere), (10, .anywhere), (11, .held), (12, .held), (13, .alone), (14, .alone), (15, .alone), (16, .alone)] rfl (fun c a a' w hd hq => PanicOk.root (P := Tryz.prog) (fn := Tryz.f171) (w0 := w0) (base := base) (E := envE) (ro := ro) (r := r) (T' := T') (n' := n') (ρ0 := ρ0) c a a' w hd hq) (by kernel_rfl) ?_
  refine MV.step0 (i := 0) rfl (VAL.move rfl) rfl rfl rfl ?_
  refine MV.lift0 (i := 1) rfl (V.nc h6 rfl) rfl rfl rfl fun x17_4 h7 => ?_
  refine MV.lift0 (i := 2) rfl (V.fa h7 rfl Cnf.fo255_1) rfl rfl rfl fun x18_5 h8 => ?_
  refine MV.lift1 (i := 3) rfl (fun _ z => z) (V.ld hS h8 rfl Cnf.one3) rfl rfl rfl [] (by kernel_rfl) fun x19_6 h9 => ?_
  refine MV.step0 (i := 4) rfl (VAL.move rfl) rfl rfl rfl ?_
  refine MV.lift0 (i := 5) rfl (V.nc h9 rfl) rfl rfl rfl fun x21_7 h10 => ?_
  refine MV.lift0 (i := 6) rfl (V.fa h10 rfl Cnf.fo255_0) rfl rfl rfl fun x22_8 h11 => ?_
  refine MV.lift1 (i := 7) rfl (fun _ z => z) (V.ld hS h11 rfl Cnf.one9) rfl rfl rfl [3] (by kernel_rfl) fun x23_9 h12 => ?_
  refine MV.step0 (i := 8) rfl (VAL.move rfl) rfl rfl rfl ?_
  refine MV.lift0 (i := 9) rfl (V.nc h12 rfl) rfl rfl rfl fun x25_10 h13 => ?_
  refine MV.lift0 (i := 10) rfl (V.fa h13 rfl Cnf.fo255_1) rfl rfl rfl fun x26_11 h14 => ?_
  refine MV.lift1 (i := 11) rfl (fun _ z => z) (V.ld hS h14 rfl Cnf.one3) rfl rfl rfl [7, 3] (by kernel_rfl) fun x27_12 h15 => ?_
  refine MV.lift1 (i := 12) rfl (fun _ z => z) (V.slHi (sliceF_ok h15) rfl rfl Cnf.st9) rfl rfl rfl [3] (by kernel_rfl) fun x28_13 h16 => ?_
  refine MV.force (i := 13) rfl ?_
  refine LV.callQ hS h16 (g230_ok _ _ _ _ _ ) rfl rfl rfl rfl fun x29_14 h17 => ?_
  refine LV.nextM [3] (by kernel_rfl) (fun _ => fun _ z => z) ?_
  refine MV.force (i := 14) rfl ?_
  refine vy (V.add h17 rfl rfl) fun x30_15 h18 => ?_
  refine LV.nextM [3] (by kernel_rfl) (fun _ => fun _ z => z) ?_
  refine MV.force (i := 15) rfl ?_
  refine vy (V.sub h18 rfl rfl) fun x31_16 h19 => ?_
  refine LV.nextM [] (by kernel_rfl) (fun z => absurd rfl z) ?_
  refine MV.force (i := 16) rfl ?_
  refine as_ ?_
  refine LV.nextM [] (by kernel_rfl) (fun z => absurd rfl z) ?_
  refine mdn ?_
  refine CV.seq ?_
  refine CV.regionM [(0, .anywhere), (1, .anywhere), (2, .anywhere), (3, .held), (4, .anywhere), (5, .anywhere), (6, .anywhere), (7, .held), (8, .held), (9, .held), (10, .held), (11, .held), (12, .held)] rfl (fun c a a' w hd hq => PanicOk.root (P := Tryz.prog) (fn := Tryz.f171) (w0 := w0) (base := base) (E := envE) (ro := ro) (r := r) (T' := T') (n' := n') (ρ0 := ρ0) c a a' w hd hq) (by kernel_rfl) ?_
  refine MV.step0 (i := 0) rfl (VAL.move rfl) rfl rfl rfl ?_
  refine MV.lift0 (i := 1) rfl (V.nc h19 rfl) rfl rfl rfl fun x33_17 h20 => ?_
  refine MV.lift0 (i := 2) rfl (V.fa h20 rfl Cnf.fo255_3) rfl rfl rfl fun x34_18 h21 => ?_
  refine MV.lift1 (i := 3) rfl (fun _ z => z) (V.ld hS h21 rfl Cnf.one170) rfl rfl rfl [] (by kernel_rfl) fun x35_19 h22 => ?_
  refine MV.step0 (i := 4) rfl (VAL.move rfl) rfl rfl rfl ?_
  refine MV.lift0 (i := 5) rfl (V.nc h22 rfl) rfl rfl rfl fun x37_20 h23 => ?_
  refine MV.lift0 (i := 6) rfl (V.fa h23 rfl Cnf.fo255_3) rfl rfl rfl fun x38_21 h24 => ?_
  refine MV.lift1 (i := 7) rfl (fun _ z => z) (V.ld hS h24 rfl Cnf.one170) rfl rfl rfl [3] (by kernel_rfl) fun x39_22 h25 => ?_
  refine MV.lift1 (i := 8) rfl (fun _ z => z) (V.lenS h25 rfl Cnf.ls170) rfl rfl rfl [3] (by kernel_rfl) fun x40_23 h26 => ?_
  refine MV.lift1 (i := 9) rfl (fun _ z => z) (V.sub h26 rfl rfl) rfl rfl rfl [3] (by kernel_rfl) fun x41_24 h27 => ?_
  refine MV.lift1 (i := 10) rfl (fun _ z => z) (V.ia h27 rfl rfl Cnf.el170) rfl rfl rfl [] (by kernel_rfl) fun x42_25 h28 => ?_
  refine MV.lift1 (i := 11) rfl (fun _ z => z) (V.ld hS h28 rfl Cnf.one3) rfl rfl rfl [] (by kernel_rfl) fun x43_26 h29 => ?_
  refine MV.step1 (i := 12) rfl (fun _ z => z) (VAL.assign rfl) rfl rfl rfl [] (by kernel_rfl) ?_
  refine mdn ?_
  refine CV.seq ?_
  refine sr ?_
  refine mv ?_
  refine mv ?_
  refine vy (V.gt h29 rfl rfl) fun x46_27 h30 => ?_
  refine dn ?_
  refine CV.cond h30 rfl (fun e h31 => ?_) (fun e h31 => ?_)
  ·
   clear h4 h5 h6 h7 h8 h9 h10 h11 h12 h13 h14 h15 h16 h17 h18 h19 h20 h21 h22 h23 h24 h25 h26 h27 h28 h29 h30
   subst e
   cases h31
  ·
   clear h4 h5 h6 h7 h8 h9 h10 h11 h12 h13 h14 h15 h16 h17 h18 h19 h20 h21 h22 h23 h24 h25 h26 h27 h28 h29 h30
   subst e
   refine CV.skip ?_
   refine PV.thenN ?_
   refine CV.seq ?_
   refine CV.block ?_
   refine cl3 X 0 2 3 [] hS h31 ⟨rfl, rfl, rfl, trivial⟩ ?_
   intro f1 y0 y2 y3 T3 n3 ρ its hS h32
   unfold g171_b1 at h32
   clear h31
   refine CV.seq ?_
   refine CV.seq ?_
   refine CV.regionM [(0, .anywhere), (1, .anywhere), (2, .anywhere), (3, .anywhere), (4, .held), (5, .anywhere), (6, .anywhere), (7, .anywhere), (8, .held), (9, .held), (10, .held), (11, .held), (12, .held), (13, .held)] rfl (fun c a a' w hd hq => PanicOk.root (P := Tryz.prog) (fn := Tryz.f171) (w0 := w0) (base := base) (E := envE) (ro := ro) (r := r) (T' := T') (n' := n') (ρ0 := ρ0) c a a' w hd hq) (by kernel_rfl) ?_
   refine MV.step0 (i := 0) rfl (VAL.move rfl) rfl rfl rfl ?_
   refine MV.step0 (i := 1) rfl (VAL.move rfl) rfl rfl rfl ?_
   refine MV.lift0 (i := 2) rfl (V.nc h32 rfl) rfl rfl rfl fun x76_28 h33 => ?_
   refine MV.lift0 (i := 3) rfl (V.fa h33 rfl Cnf.fo255_3) rfl rfl rfl fun x77_29 h34 => ?_
   refine MV.lift1 (i := 4) rfl (fun _ z => z) (V.ld hS h34 rfl Cnf.one170) rfl rfl rfl [] (by kernel_rfl) fun x78_30 h35 => ?_
   refine MV.step0 (i := 5) rfl (VAL.move rfl) rfl rfl rfl ?_
   refine MV.lift0 (i := 6) rfl (V.nc h35 rfl) rfl rfl rfl fun x80_31 h36 => ?_
   refine MV.lift0 (i := 7) rfl (V.fa h36 rfl Cnf.fo255_3) rfl rfl rfl fun x81_32 h37 => ?_
   refine MV.lift1 (i := 8) rfl (fun _ z => z) (V.ld hS h37 rfl Cnf.one170) rfl rfl rfl [4] (by kernel_rfl) fun x82_33 h38 => ?_
   refine MV.lift1 (i := 9) rfl (fun _ z => z) (V.lenS h38 rfl Cnf.ls170) rfl rfl rfl [4] (by kernel_rfl) fun x83_34 h39 => ?_
   refine MV.lift1 (i := 10) rfl (fun _ z => z) (V.sub h39 rfl rfl) rfl rfl rfl [4] (by kernel_rfl) fun x84_35 h40 => ?_
   refine MV.lift1 (i := 11) rfl (fun _ z => z) (V.ia h40 rfl rfl Cnf.el170) rfl rfl rfl [] (by kernel_rfl) fun x85_36 h41 => ?_
   refine MV.lift1 (i := 12) rfl (fun _ z => z) (V.ld hS h41 rfl Cnf.one3) rfl rfl rfl [] (by kernel_rfl) fun x86_37 h42 => ?_
   refine MV.lift1 (i := 13) rfl (fun _ z => z) (V.lt h42 rfl rfl) rfl rfl rfl [] (by kernel_rfl) fun x87_38 h43 => ?_
   refine mdn ?_
   refine CV.cond h43 rfl (fun e h44 => ?_) (fun e h44 => ?_)
   ·
    clear h32 h33 h34 h35 h36 h37 h38 h39 h40 h41 h42 h43
    subst e
    refine CV.skip ?_
    refine PV.thenN ?_
    refine CV.block ?_
    refine CV.seq ?_
    refine CV.regionM [(0, .anywhere), (1, .anywhere), (2, .anywhere), (3, .anywhere), (4, .held), (5, .anywhere), (6, .anywhere), (7, .anywhere), (8, .held), (9, .held), (10, .held), (11, .held), (12, .held), (13, .held), (14, .alone)] rfl (fun c a a' w hd hq => PanicOk.root (P := Tryz.prog) (fn := Tryz.f171) (w0 := w0) (base := base) (E := envE) (ro := ro) (r := r) (T' := T') (n' := n') (ρ0 := ρ0) c a a' w hd hq) (by kernel_rfl) ?_
    refine MV.step0 (i := 0) rfl (VAL.move rfl) rfl rfl rfl ?_
    refine MV.step0 (i := 1) rfl (VAL.move rfl) rfl rfl rfl ?_
    refine MV.lift0 (i := 2) rfl (V.nc h44 rfl) rfl rfl rfl fun x90_39 h45 => ?_
    refine MV.lift0 (i := 3) rfl (V.fa h45 rfl Cnf.fo255_3) rfl rfl rfl fun x91_40 h46 => ?_
    refine MV.lift1 (i := 4) rfl (fun _ z => z) (V.ld hS h46 rfl Cnf.one170) rfl rfl rfl [] (by kernel_rfl) fun x92_41 h47 => ?_
    refine MV.step0 (i := 5) rfl (VAL.move rfl) rfl rfl rfl ?_
    refine MV.lift0 (i := 6) rfl (V.nc h47 rfl) rfl rfl rfl fun x94_42 h48 => ?_
    refine MV.lift0 (i := 7) rfl (V.fa h48 rfl Cnf.fo255_3) rfl rfl rfl fun x95_43 h49 => ?_
    refine MV.lift1 (i := 8) rfl (fun _ z => z) (V.ld hS h49 rfl Cnf.one170) rfl rfl rfl [4] (by kernel_rfl) fun x96_44 h50 => ?_
    refine MV.lift1 (i := 9) rfl (fun _ z => z) (V.lenS h50 rfl Cnf.ls170) rfl rfl rfl [4] (by kernel_rfl) fun x97_45 h51 => ?_
    refine MV.lift1 (i := 10) rfl (fun _ z => z) (V.sub h51 rfl rfl) rfl rfl rfl [4] (by kernel_rfl) fun x98_46 h52 => ?_
    refine MV.lift1 (i := 11) rfl (fun _ z => z) (V.cutHi hS h52 rfl rfl Cnf.el170) rfl rfl rfl [] (by kernel_rfl) fun x99_47 h53 => ?_
    refine MV.lift1 (i := 12) rfl (fun _ z => z) (V.nc h53 rfl) rfl rfl rfl [] (by kernel_rfl) fun x100_48 h54 => ?_
    refine MV.lift1 (i := 13) rfl (fun _ z => z) (V.fa h54 rfl Cnf.fo255_3) rfl rfl rfl [] (by kernel_rfl) fun x101_49 h55 => ?_
    refine MV.force (i := 14) rfl ?_
    refine LV.st hS h55 rfl rfl rfl Cnf.siz170 rfl rfl fun T4 its h56 hS => ?_
    refine LV.nextM [] (by kernel_rfl) (fun z => absurd rfl z) ?_
    refine mdn ?_
    refine CV.region ?_
    refine mv ?_
    refine mv ?_
    refine fl hS h56 Cnf.fo255_1 Cnf.one3 fun x106_50 h57 => ?_
    refine LV.call hS h57 (g133_ok _ _ _ _ _ _ _ ) hP rfl rfl rfl rfl fun x107_51 T5 n5 h58 ρ its hS => ?_
    refine LV.done ?_
    refine PV.blockN ?_
    exact pb3 hS h58 ⟨rfl, rfl, rfl, trivial⟩
   ·
    clear h32 h33 h34 h35 h36 h37 h38 h39 h40 h41 h42 h43
    subst e
    refine CV.exit ?_
    refine PV.thenE ?_
    refine PV.thenE ?_
    refine PV.blockE ?_
    refine PV.thenN ?_
    refine CV.seq ?_
    refine CV.seq ?_
    refine CV.regionM [(0, .anywhere), (1, .anywhere), (2, .anywhere), (3, .anywhere), (4, .held), (5, .anywhere), (6, .anywhere), (7, .anywhere), (8, .held), (9, .held), (10, .held), (11, .held), (12, .held), (13, .held)] rfl (fun c a a' w hd hq => PanicOk.root (P := Tryz.prog) (fn := Tryz.f171) (w0 := w0) (base := base) (E := envE) (ro := ro) (r := r) (T' := T') (n' := n') (ρ0 := ρ0) c a a' w hd hq) (by kernel_rfl) ?_
    refine MV.step0 (i := 0) rfl (VAL.move rfl) rfl rfl rfl ?_
    refine MV.step0 (i := 1) rfl (VAL.move rfl) rfl rfl rfl ?_
    refine MV.lift0 (i := 2) rfl (V.nc h44 rfl) rfl rfl rfl fun x110_52 h59 => ?_
    refine MV.lift0 (i := 3) rfl (V.fa h59 rfl Cnf.fo255_3) rfl rfl rfl fun x111_53 h60 => ?_
    refine MV.lift1 (i := 4) rfl (fun _ z => z) (V.ld hS h60 rfl Cnf.one170) rfl rfl rfl [] (by kernel_rfl) fun x112_54 h61 => ?_
    refine MV.step0 (i := 5) rfl (VAL.move rfl) rfl rfl rfl ?_
    refine MV.lift0 (i := 6) rfl (V.nc h61 rfl) rfl rfl rfl fun x114_55 h62 => ?_
    refine MV.lift0 (i := 7) rfl (V.fa h62 rfl Cnf.fo255_3) rfl rfl rfl fun x115_56 h63 => ?_
    refine MV.lift1 (i := 8) rfl (fun _ z => z) (V.ld hS h63 rfl Cnf.one170) rfl rfl rfl [4] (by kernel_rfl) fun x116_57 h64 => ?_
    refine MV.lift1 (i := 9) rfl (fun _ z => z) (V.lenS h64 rfl Cnf.ls170) rfl rfl rfl [4] (by kernel_rfl) fun x117_58 h65 => ?_
    refine MV.lift1 (i := 10) rfl (fun _ z => z) (V.sub h65 rfl rfl) rfl rfl rfl [4] (by kernel_rfl) fun x118_59 h66 => ?_
    refine MV.lift1 (i := 11) rfl (fun _ z => z) (V.ia h66 rfl rfl Cnf.el170) rfl rfl rfl [] (by kernel_rfl) fun x119_60 h67 => ?_
    refine MV.lift1 (i := 12) rfl (fun _ z => z) (V.ld hS h67 rfl Cnf.one3) rfl rfl rfl [] (by kernel_rfl) fun x120_61 h68 => ?_
    refine MV.lift1 (i := 13) rfl (fun _ z => z) (V.ne h68 rfl rfl) rfl rfl rfl [] (by kernel_rfl) fun x121_62 h69 => ?_
    refine mdn ?_
    refine CV.cond h69 rfl (fun e h70 => ?_) (fun e h70 => ?_)
    ·
     clear h44 h59 h60 h61 h62 h63 h64 h65 h66 h67 h68 h69
     subst e
     cases h70
    ·
     clear h44 h59 h60 h61 h62 h63 h64 h65 h66 h67 h68 h69
     subst e
     refine CV.skip ?_
     refine PV.thenN ?_
     refine sr ?_
     refine as_ ?_
     refine dn ?_
     refine CV.ret ?_
     cases h70
     exact PV.ret (by simp) Tryz.results171 hS (RS.tmp rfl RS.nil) rfl
noncomputable def g211 (ro : List HT) (T : HT) (nx : Nat) : R :=
 bsK 2110002 T nx 17 9 1 [(0, (.lit (.string ⟨⟨[70, 97, 108, 115, 101]⟩⟩))), (1, (.lit (.string ⟨⟨[78, 111, 110, 101]⟩⟩))), (2, (.lit (.string ⟨⟨[84, 114, 117, 101]⟩⟩))), (3, (.lit (.string ⟨⟨[97, 110, 100]⟩⟩))), (4, (.lit (.string ⟨⟨[98, 114, 101, 97, 107]⟩⟩))), (5, (.lit (.string ⟨⟨[99, 111, 110, 116, 105, 110, 117, 101]⟩⟩))), (6, (.lit (.string ⟨⟨[100, 101, 102]⟩⟩))), (7, (.lit (.string ⟨⟨[101, 108, 105, 102]⟩⟩))), (8, (.lit (.string ⟨⟨[101, 108, 115, 101]⟩⟩))), (9, (.lit (.string ⟨⟨[102, 111, 114]⟩⟩))), (10, (.lit (.string ⟨⟨[105, 102]⟩⟩))), (11, (.lit (.string ⟨⟨[105, 110]⟩⟩))), (12, (.lit (.string ⟨⟨[108, 111, 97, 100]⟩⟩))), (13, (.lit (.string ⟨⟨[110, 111, 116]⟩⟩))), (14, (.lit (.string ⟨⟨[111, 114]⟩⟩))), (15, (.lit (.string ⟨⟨[112, 97, 115, 115]⟩⟩))), (16, (.lit (.string ⟨⟨[114, 101, 116, 117, 114, 110]⟩⟩)))] fun x1_1 T1 n1 =>
 .ok (.val x1_1) T1 n1
theorem g211_ok (ro : List HT) (T : HT) (nx : Nat) : GOk Tryz.prog envE 211 [] ro T nx (g211 ro T nx) := by
 refine GOk.of_body Tryz.func211 rfl Tryz.ntmps211 (by kernel_rfl) rfl fun r T' n' h1 w0 base ρ0 its hS hP => ?_
 have X : CtxW envE ρ0 ro r T' n' := trivial
 unfold g211 at h1
 refine sr ?_
 refine as_ ?_
 refine dn ?_
 refine sr ?_
 refine LV.bslice hS h1 rfl rfl Cnf.el54 rfl rfl rfl rfl fun x1_1 T1 n1 h2 ρ its hS hdr => ?_
 refine as_ ?_
 refine dn ?_
 refine CV.ret ?_
 cases h2
 exact PV.ret (by simp) Tryz.results211 hS (RS.tmp rfl RS.nil) rfl

end Go.Proofs.YtlljgagoboapaaaGreatDoor.Cn
