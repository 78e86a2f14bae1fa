/-
  Proved here: plain functions that do what the program's functions do, each with its proof.
-/
import Derived.Test.YtdepmlcnllofiaaDoorPaa
namespace Go.Proofs.YtdepmlcnllofiaaDoor.Pa
open Go.EY Go.EX Go.SX Go.RowKit
noncomputable def g29_k1 (ih : FuncId → List HT → List AV → HT → Nat → R) (ro : List HT) (y0 y2 y3 y4 y5 y6 : AV) (T4 : HT) (n4 : Nat) : R :=
 notK 290012 y6 fun x22_4 =>
 condK 290013 x22_4
 (
  iaK 290015 y5 (.lit (.int .i64 (.ofNat 0))) 1 fun x24_5 =>
  ldK 290016 T4 ro x24_5 fun x25_6 =>
  .ok (.val (.tup [x25_6, (.lit (.bool false))])) T4 n4
 )
 (
  callK (g26 ro y0 (.lit (.int .i64 (.ofNat 8))) y4 (.lit (.string ⟨⟨[]⟩⟩)) y5 T4 n4) fun x29_7 T5 n5 =>
  .ok (.val (.tup [x29_7, (.lit (.bool true))])) T5 n5
 )
noncomputable def g29_b2 (ih : FuncId → List HT → List AV → HT → Nat → R) (ro : List HT) (lp2 : AV → AV → AV → AV → AV → AV → HT → Nat → R) (y0 y2 y3 y4 y5 y6 : AV) (T6 : HT) (n6 : Nat) : R :=
 callK (g43 ro y0 (.lit (.string ⟨⟨[44]⟩⟩)) T6 n6) fun x13_8 T7 n7 =>
 condK 290028 x13_8
 (
  callK (g44 ro y0 T7 n7) fun x15_9 T8 n8 =>
  condK 290032 x15_9
  (
   g29_k1 ih ro y0 y2 y3 y4 y5 (.lit (.bool true)) T8 n8
  )
  (
   callK (ih 42 ro [y0] T8 n8) fun x18_10 T9 n9 =>
   bsK 290036 T9 n9 1 3 1 [(0, x18_10)] fun x19_11 T10 n10 =>
   appK 290037 T10 ro n10 3 1 8 y5 x19_11 fun x20_12 T11 n11 =>
   lp2 y0 y2 y3 y4 x20_12 (.lit (.bool true)) T11 n11
  )
 )
 (
  g29_k1 ih ro y0 y2 y3 y4 y5 y6 T7 n7
 )
noncomputable def g29 (ih : FuncId → List HT → List AV → HT → Nat → R) (ro : List HT) (a0 : AV) (T : HT) (nx : Nat) : R :=
 callK (g41 ro a0 T nx) fun x8_1 T1 n1 =>
 callK (ih 42 ro [a0] T1 n1) fun x10_2 T2 n2 =>
 bsK 290008 T2 n2 1 3 1 [(0, x10_2)] fun x11_3 T3 n3 =>
 lpf6 290025 (g29_b2 ih ro) 100000 a0 (.lit (.int .i64 (.ofNat 0))) (.lit (.bool false)) x8_1 x11_3 (.lit (.bool false)) T3 n3
theorem g29_ok (ih : FuncId → List HT → List AV → HT → Nat → R) (hI : ∀ f ro args T nx, GOk Tryd.prog envE f args ro T nx (ih f ro args T nx)) (ro : List HT) (a0 : AV) (T : HT) (nx : Nat) : GOk Tryd.prog envE 29 [a0] ro T nx (g29 ih ro a0 T nx) := by
 refine GOk.of_body Tryd.func29 rfl Tryd.ntmps29 (by kernel_rfl) rfl fun r T' n' h1 w0 base ρ0 its hS hP => ?_
 have X : CtxW envE ρ0 ro r T' n' := trivial
 unfold g29 at h1
 refine sr ?_
 refine as_ ?_
 refine as_ ?_
 refine dn ?_
 refine sr ?_
 refine mv ?_
 refine LV.call hS h1 (g41_ok _ _ _ _ ) hP rfl rfl rfl rfl fun x8_1 T1 n1 h2 ρ its hS => ?_
 refine as_ ?_
 refine dn ?_
 refine sr ?_
 refine mv ?_
 refine LV.call hS h2 (hI _ _ _ _ _) hP rfl rfl rfl rfl fun x10_2 T2 n2 h3 ρ its hS => ?_
 refine LV.bslice hS h3 rfl rfl Paf.el29 rfl rfl rfl rfl fun x11_3 T3 n3 h4 ρ its hS hdr => ?_
 refine as_ ?_
 refine dn ?_
 refine sr ?_
 refine as_ ?_
 refine dn ?_
 refine cs6 X 0 2 3 4 5 6 [] (g29_k1 ih ro) ?_ ?_
 ·
  refine CV.block ?_
  refine cl6 X 0 2 3 4 5 6 [] hS h4 ⟨rfl, rfl, rfl, rfl, rfl, rfl, trivial⟩ ?_
  intro f2 y0 y2 y3 y4 y5 y6 T6 n6 ρ its hS h11
  unfold g29_b2 at h11
  clear h1 h2 h3 h4
  refine CV.seq ?_
  refine sr ?_
  refine mv ?_
  refine LV.call hS h11 (g43_ok _ _ _ _ _ ) hP rfl rfl rfl rfl fun x13_8 T7 n7 h12 ρ its hS => ?_
  refine dn ?_
  refine CV.cond h12 rfl (fun e h13 => ?_) (fun e h13 => ?_)
  ·
   clear h11 h12
   subst e
   refine CV.skip ?_
   refine PV.thenN ?_
   refine CV.block ?_
   refine sr ?_
   refine as_ ?_
   refine dn ?_
   refine CV.seq ?_
   refine sr ?_
   refine mv ?_
   refine LV.call hS h13 (g44_ok _ _ _ _ ) hP rfl rfl rfl rfl fun x15_9 T8 n8 h14 ρ its hS => ?_
   refine dn ?_
   refine CV.cond h14 rfl (fun e h15 => ?_) (fun e h15 => ?_)
   ·
    clear h13 h14
    subst e
    refine CV.exit ?_
    refine PV.thenE ?_
    refine PV.blockO rfl ?_
    refine PV.thenE ?_
    refine PV.blockE ?_
    exact pa6 hS h15 ⟨rfl, rfl, rfl, rfl, rfl, rfl, trivial⟩
   ·
    clear h13 h14
    subst e
    refine CV.skip ?_
    refine PV.thenN ?_
    refine CV.region ?_
    refine mv ?_
    refine mv ?_
    refine LV.call hS h15 (hI _ _ _ _ _) hP rfl rfl rfl rfl fun x18_10 T9 n9 h16 ρ its hS => ?_
    refine LV.bslice hS h16 rfl rfl Paf.el29 rfl rfl rfl rfl fun x19_11 T10 n10 h17 ρ its hS hdr => ?_
    refine LV.app hS h17 rfl rfl rfl rfl Paf.el29 rfl rfl rfl fun x20_12 T11 n11 h18 ρ its hS => ?_
    refine as_ ?_
    refine LV.done ?_
    refine PV.blockN ?_
    exact pb6 hS h18 ⟨rfl, rfl, rfl, rfl, rfl, rfl, trivial⟩
  ·
   clear h11 h12
   subst e
   refine CV.exit ?_
   refine PV.thenE ?_
   refine PV.thenE ?_
   refine PV.blockE ?_
   exact pa6 hS h13 ⟨rfl, rfl, rfl, rfl, rfl, rfl, trivial⟩
 ·
  intro y0 y2 y3 y4 y5 y6 T4 n4 ρ its hS h5
  unfold g29_k1 at h5
  clear h1 h2 h3 h4
  refine CV.seq ?_
  refine sr ?_
  refine mv ?_
  refine vy (V.not h5 rfl) fun x22_4 h6 => ?_
  refine dn ?_
  refine CV.cond h6 rfl (fun e h7 => ?_) (fun e h7 => ?_)
  ·
   clear h5 h6
   subst e
   refine sr ?_
   refine mv ?_
   refine vy (V.ia h7 rfl rfl Paf.el29) fun x24_5 h8 => ?_
   refine vy (V.ld hS h8 rfl Paf.one3) fun x25_6 h9 => ?_
   refine as_ ?_
   refine as_ ?_
   refine dn ?_
   refine CV.ret ?_
   refine PV.thenR ?_
   cases h9
   exact PV.ret (by simp) Tryd.results29 hS (RS.tmp rfl (RS.tmp rfl RS.nil)) rfl
  ·
   clear h5 h6
   subst e
   refine CV.skip ?_
   refine PV.thenN ?_
   refine sr ?_
   refine mv ?_
   refine mv ?_
   refine mv ?_
   refine LV.call hS h7 (g26_ok _ _ _ _ _ _ _ _ ) hP rfl rfl rfl rfl fun x29_7 T5 n5 h10 ρ its hS => ?_
   refine as_ ?_
   refine as_ ?_
   refine dn ?_
   refine CV.ret ?_
   cases h10
   exact PV.ret (by simp) Tryd.results29 hS (RS.tmp rfl (RS.tmp rfl RS.nil)) rfl
noncomputable def g36_k1 (ih : FuncId → List HT → List AV → HT → Nat → R) (ro : List HT) (y0 y2 y3 y4 : AV) (T6 : HT) (n6 : Nat) : R :=
 callK (g26 ro y0 (.lit (.int .i64 (.ofNat 43))) y3 (.lit (.string ⟨⟨[]⟩⟩)) y4 T6 n6) fun x58_11 T7 n7 =>
 .ok (.val x58_11) T7 n7
noncomputable def g36 (ih : FuncId → List HT → List AV → HT → Nat → R) (ro : List HT) (a0 : AV) (T : HT) (nx : Nat) : R :=
 callK (g41 ro a0 T nx) fun x8_1 T1 n1 =>
 ncK 360006 a0 fun x10_2 =>
 faK 360007 x10_2 1 fun x11_3 =>
 ldK 360008 T1 ro x11_3 fun x12_4 =>
 addK Tryd.prog 3 (.tmp 12) (.const (.int .i64 (.ofNat 1))) 360009 x12_4 (.lit (.int .i64 (.ofNat 1))) fun x13_5 =>
 ncK 360010 a0 fun x14_6 =>
 faK 360011 x14_6 1 fun x15_7 =>
 stK 360012 T1 x15_7 x13_5 fun T2 =>
 callK (ih 42 ro [a0] T2 n1) fun x17_8 T3 n3 =>
 callK (ih 55 ro [a0] T3 n3) fun x19_9 T4 n4 =>
 bsK 360017 T4 n4 2 3 1 [(0, x17_8), (1, x19_9)] fun x20_10 T5 n5 =>
 bsK 360025 T5 n5 1 9 1 [(0, (.lit (.string ⟨⟨[101, 108, 105, 102]⟩⟩)))] fun x23_12 T8 n8 =>
 callK (g35 ro a0 x23_12 T8 n8) fun x24_13 T9 n9 =>
 condK 360028 x24_13
 (
  callK (g41 ro a0 T9 n9) fun x26_14 T10 n10 =>
  callK (g56 ro a0 x26_14 T10 n10) fun x29_15 T11 n11 =>
  callK (ih 36 ro [a0] T11 n11) fun x31_16 T12 n12 =>
  ncK 360039 a0 fun x33_17 =>
  faK 360040 x33_17 3 fun x34_18 =>
  ldK 360041 T12 ro x34_18 fun x35_19 =>
  subK Tryd.prog 3 (.tmp 35) (.const (.int .i64 (.ofNat 1))) 360042 x35_19 (.lit (.int .i64 (.ofNat 1))) fun x36_20 =>
  ncK 360043 a0 fun x37_21 =>
  faK 360044 x37_21 3 fun x38_22 =>
  stK 360045 T12 x38_22 x36_20 fun T13 =>
  bsK 360050 T13 n12 1 3 1 [(0, x31_16)] fun x43_23 T14 n14 =>
  callK (g26 ro a0 (.lit (.int .i64 (.ofNat 47))) x26_14 (.lit (.string ⟨⟨[]⟩⟩)) x43_23 T14 n14) fun x44_24 T15 n15 =>
  bsK 360052 T15 n15 1 3 1 [(0, x44_24)] fun x45_25 T16 n16 =>
  appK 360053 T16 ro n16 3 1 8 x20_10 x45_25 fun x46_26 T17 n17 =>
  g36_k1 ih ro a0 (.lit (.int .i64 (.ofNat 0))) x8_1 x46_26 T17 n17
 )
 (
  callK (g43 ro a0 (.lit (.string ⟨⟨[101, 108, 115, 101]⟩⟩)) T9 n9) fun x49_27 T18 n18 =>
  condK 360058 x49_27
  (
   callK (ih 55 ro [a0] T18 n18) fun x52_28 T19 n19 =>
   bsK 360062 T19 n19 1 3 1 [(0, x52_28)] fun x53_29 T20 n20 =>
   appK 360063 T20 ro n20 3 1 8 x20_10 x53_29 fun x54_30 T21 n21 =>
   g36_k1 ih ro a0 (.lit (.int .i64 (.ofNat 0))) x8_1 x54_30 T21 n21
  )
  (
   g36_k1 ih ro a0 (.lit (.int .i64 (.ofNat 0))) x8_1 x20_10 T18 n18
  )
 )
theorem g36_ok (ih : FuncId → List HT → List AV → HT → Nat → R) (hI : ∀ f ro args T nx, GOk Tryd.prog envE f args ro T nx (ih f ro args T nx)) (ro : List HT) (a0 : AV) (T : HT) (nx : Nat) : GOk Tryd.prog envE 36 [a0] ro T nx (g36 ih ro a0 T nx) := by
 refine GOk.of_body Tryd.func36 rfl Tryd.ntmps36 (by kernel_rfl) rfl fun r T' n' h1 w0 base ρ0 its hS hP => ?_
 have X : CtxW envE ρ0 ro r T' n' := trivial
 unfold g36 at h1
 refine sr ?_
 refine as_ ?_
 refine dn ?_
 refine sr ?_
 refine mv ?_
 refine LV.call hS h1 (g41_ok _ _ _ _ ) hP rfl rfl rfl rfl fun x8_1 T1 n1 h2 ρ its hS => ?_
 refine as_ ?_
 refine dn ?_
 refine sr ?_
 refine mv ?_
 refine vy (V.nc h2 rfl) fun x10_2 h3 => ?_
 refine vy (V.fa h3 rfl Paf.fo49_1) fun x11_3 h4 => ?_
 refine vy (V.ld hS h4 rfl Paf.one3) fun x12_4 h5 => ?_
 refine vy (V.add h5 rfl rfl) fun x13_5 h6 => ?_
 refine vy (V.nc h6 rfl) fun x14_6 h7 => ?_
 refine vy (V.fa h7 rfl Paf.fo49_1) fun x15_7 h8 => ?_
 refine LV.st hS h8 rfl rfl rfl Paf.siz3 rfl rfl fun T2 its h9 hS => ?_
 refine dn ?_
 refine sr ?_
 refine mv ?_
 refine LV.call hS h9 (hI _ _ _ _ _) hP rfl rfl rfl rfl fun x17_8 T3 n3 h10 ρ its hS => ?_
 refine mv ?_
 refine LV.call hS h10 (hI _ _ _ _ _) hP rfl rfl rfl rfl fun x19_9 T4 n4 h11 ρ its hS => ?_
 refine LV.bslice hS h11 rfl rfl Paf.el29 rfl rfl rfl rfl fun x20_10 T5 n5 h12 ρ its hS hdr => ?_
 refine as_ ?_
 refine dn ?_
 refine cs4 X 0 2 3 4 [] (g36_k1 ih ro) ?_ ?_
 ·
  refine CV.block ?_
  refine sr ?_
  refine mv ?_
  refine LV.bslice hS h12 rfl rfl Paf.el33 rfl rfl rfl rfl fun x23_12 T8 n8 h15 ρ its hS hdr => ?_
  refine LV.call hS h15 (g35_ok _ _ _ _ _ ) hP rfl rfl rfl rfl fun x24_13 T9 n9 h16 ρ its hS => ?_
  refine as_ ?_
  refine dn ?_
  refine CV.cond h16 rfl (fun e h17 => ?_) (fun e h17 => ?_)
  ·
   clear h1 h2 h3 h4 h5 h6 h7 h8 h9 h10 h11 h12 h15 h16
   subst e
   refine sr ?_
   refine mv ?_
   refine LV.call hS h17 (g41_ok _ _ _ _ ) hP rfl rfl rfl rfl fun x26_14 T10 n10 h18 ρ its hS => ?_
   refine as_ ?_
   refine dn ?_
   refine sr ?_
   refine mv ?_
   refine mv ?_
   refine LV.call hS h18 (g56_ok _ _ _ _ _ ) hP rfl rfl rfl rfl fun x29_15 T11 n11 h19 ρ its hS => ?_
   refine dn ?_
   refine sr ?_
   refine mv ?_
   refine LV.call hS h19 (hI _ _ _ _ _) hP rfl rfl rfl rfl fun x31_16 T12 n12 h20 ρ its hS => ?_
   refine as_ ?_
   refine dn ?_
   refine sr ?_
   refine mv ?_
   refine vy (V.nc h20 rfl) fun x33_17 h21 => ?_
   refine vy (V.fa h21 rfl Paf.fo49_3) fun x34_18 h22 => ?_
   refine vy (V.ld hS h22 rfl Paf.one3) fun x35_19 h23 => ?_
   refine vy (V.sub h23 rfl rfl) fun x36_20 h24 => ?_
   refine vy (V.nc h24 rfl) fun x37_21 h25 => ?_
   refine vy (V.fa h25 rfl Paf.fo49_3) fun x38_22 h26 => ?_
   refine LV.st hS h26 rfl rfl rfl Paf.siz3 rfl rfl fun T13 its h27 hS => ?_
   refine dn ?_
   refine CV.region ?_
   refine mv ?_
   refine mv ?_
   refine mv ?_
   refine mv ?_
   refine LV.bslice hS h27 rfl rfl Paf.el29 rfl rfl rfl rfl fun x43_23 T14 n14 h28 ρ its hS hdr => ?_
   refine LV.call hS h28 (g26_ok _ _ _ _ _ _ _ _ ) hP rfl rfl rfl rfl fun x44_24 T15 n15 h29 ρ its hS => ?_
   refine LV.bslice hS h29 rfl rfl Paf.el29 rfl rfl rfl rfl fun x45_25 T16 n16 h30 ρ its hS hdr => ?_
   refine LV.app hS h30 rfl rfl rfl rfl Paf.el29 rfl rfl rfl fun x46_26 T17 n17 h31 ρ its hS => ?_
   refine as_ ?_
   refine LV.done ?_
   refine PV.blockN ?_
   exact pa4 hS h31 ⟨rfl, rfl, rfl, rfl, trivial⟩
  ·
   clear h1 h2 h3 h4 h5 h6 h7 h8 h9 h10 h11 h12 h15 h16
   subst e
   refine sr ?_
   refine mv ?_
   refine LV.call hS h17 (g43_ok _ _ _ _ _ ) hP rfl rfl rfl rfl fun x49_27 T18 n18 h32 ρ its hS => ?_
   refine as_ ?_
   refine dn ?_
   refine CV.cond h32 rfl (fun e h33 => ?_) (fun e h33 => ?_)
   ·
    clear h17 h32
    subst e
    refine CV.region ?_
    refine mv ?_
    refine mv ?_
    refine LV.call hS h33 (hI _ _ _ _ _) hP rfl rfl rfl rfl fun x52_28 T19 n19 h34 ρ its hS => ?_
    refine LV.bslice hS h34 rfl rfl Paf.el29 rfl rfl rfl rfl fun x53_29 T20 n20 h35 ρ its hS hdr => ?_
    refine LV.app hS h35 rfl rfl rfl rfl Paf.el29 rfl rfl rfl fun x54_30 T21 n21 h36 ρ its hS => ?_
    refine as_ ?_
    refine LV.done ?_
    refine PV.blockN ?_
    exact pa4 hS h36 ⟨rfl, rfl, rfl, rfl, trivial⟩
   ·
    clear h17 h32
    subst e
    refine CV.skip ?_
    refine PV.blockN ?_
    exact pa4 hS h33 ⟨rfl, rfl, rfl, rfl, trivial⟩
 ·
  intro y0 y2 y3 y4 T6 n6 ρ its hS h13
  unfold g36_k1 at h13
  clear h1 h2 h3 h4 h5 h6 h7 h8 h9 h10 h11 h12
  refine sr ?_
  refine mv ?_
  refine mv ?_
  refine mv ?_
  refine LV.call hS h13 (g26_ok _ _ _ _ _ _ _ _ ) hP rfl rfl rfl rfl fun x58_11 T7 n7 h14 ρ its hS => ?_
  refine as_ ?_
  refine dn ?_
  refine CV.ret ?_
  cases h14
  exact PV.ret (by simp) Tryd.results36 hS (RS.tmp rfl RS.nil) rfl
noncomputable def g37 (ih : FuncId → List HT → List AV → HT → Nat → R) (ro : List HT) (a0 : AV) (T : HT) (nx : Nat) : R :=
 callK (g57 ro a0 (.lit (.string ⟨⟨[102, 111, 114]⟩⟩)) T nx) fun x8_1 T1 n1 =>
 callK (ih 58 ro [a0, (.lit (.string ⟨⟨[105, 110]⟩⟩))] T1 n1) fun x10_2 T2 n2 =>
 callK (g57 ro a0 (.lit (.string ⟨⟨[105, 110]⟩⟩)) T2 n2) fun x12_3 T3 n3 =>
 callK (ih 20 ro [a0] T3 n3) fun x14_4 T4 n4 =>
 ncK 370014 a0 fun x16_5 =>
 faK 370015 x16_5 5 fun x17_6 =>
 ldK 370016 T4 ro x17_6 fun x18_7 =>
 addK Tryd.prog 3 (.tmp 18) (.const (.int .i64 (.ofNat 1))) 370017 x18_7 (.lit (.int .i64 (.ofNat 1))) fun x19_8 =>
 ncK 370018 a0 fun x20_9 =>
 faK 370019 x20_9 5 fun x21_10 =>
 stK 370020 T4 x21_10 x19_8 fun T5 =>
 callK (ih 55 ro [a0] T5 n4) fun x23_11 T6 n6 =>
 ncK 370025 a0 fun x25_12 =>
 faK 370026 x25_12 5 fun x26_13 =>
 ldK 370027 T6 ro x26_13 fun x27_14 =>
 subK Tryd.prog 3 (.tmp 27) (.const (.int .i64 (.ofNat 1))) 370028 x27_14 (.lit (.int .i64 (.ofNat 1))) fun x28_15 =>
 ncK 370029 a0 fun x29_16 =>
 faK 370030 x29_16 5 fun x30_17 =>
 stK 370031 T6 x30_17 x28_15 fun T7 =>
 bsK 370037 T7 n6 3 3 1 [(0, x10_2), (1, x14_4), (2, x23_11)] fun x36_18 T8 n8 =>
 callK (g26 ro a0 (.lit (.int .i64 (.ofNat 44))) x8_1 (.lit (.string ⟨⟨[]⟩⟩)) x36_18 T8 n8) fun x37_19 T9 n9 =>
 .ok (.val x37_19) T9 n9
theorem g37_ok (ih : FuncId → List HT → List AV → HT → Nat → R) (hI : ∀ f ro args T nx, GOk Tryd.prog envE f args ro T nx (ih f ro args T nx)) (ro : List HT) (a0 : AV) (T : HT) (nx : Nat) : GOk Tryd.prog envE 37 [a0] ro T nx (g37 ih ro a0 T nx) := by
 refine GOk.of_body Tryd.func37 rfl Tryd.ntmps37 (by kernel_rfl) rfl fun r T' n' h1 w0 base ρ0 its hS hP => ?_
 have X : CtxW envE ρ0 ro r T' n' := trivial
 unfold g37 at h1
 refine sr ?_
 refine as_ ?_
 refine dn ?_
 refine sr ?_
 refine mv ?_
 refine LV.call hS h1 (g57_ok _ _ _ _ _ ) hP rfl rfl rfl rfl fun x8_1 T1 n1 h2 ρ its hS => ?_
 refine as_ ?_
 refine dn ?_
 refine sr ?_
 refine mv ?_
 refine LV.call hS h2 (hI _ _ _ _ _) hP rfl rfl rfl rfl fun x10_2 T2 n2 h3 ρ its hS => ?_
 refine as_ ?_
 refine dn ?_
 refine sr ?_
 refine mv ?_
 refine LV.call hS h3 (g57_ok _ _ _ _ _ ) hP rfl rfl rfl rfl fun x12_3 T3 n3 h4 ρ its hS => ?_
 refine dn ?_
 refine sr ?_
 refine mv ?_
 refine LV.call hS h4 (hI _ _ _ _ _) hP rfl rfl rfl rfl fun x14_4 T4 n4 h5 ρ its hS => ?_
 refine as_ ?_
 refine dn ?_
 refine sr ?_
 refine mv ?_
 refine vy (V.nc h5 rfl) fun x16_5 h6 => ?_
 refine vy (V.fa h6 rfl Paf.fo49_5) fun x17_6 h7 => ?_
 refine vy (V.ld hS h7 rfl Paf.one3) fun x18_7 h8 => ?_
 refine vy (V.add h8 rfl rfl) fun x19_8 h9 => ?_
 refine vy (V.nc h9 rfl) fun x20_9 h10 => ?_
 refine vy (V.fa h10 rfl Paf.fo49_5) fun x21_10 h11 => ?_
 refine LV.st hS h11 rfl rfl rfl Paf.siz3 rfl rfl fun T5 its h12 hS => ?_
 refine dn ?_
 refine sr ?_
 refine mv ?_
 refine LV.call hS h12 (hI _ _ _ _ _) hP rfl rfl rfl rfl fun x23_11 T6 n6 h13 ρ its hS => ?_
 refine as_ ?_
 refine dn ?_
 refine sr ?_
 refine mv ?_
 refine vy (V.nc h13 rfl) fun x25_12 h14 => ?_
 refine vy (V.fa h14 rfl Paf.fo49_5) fun x26_13 h15 => ?_
 refine vy (V.ld hS h15 rfl Paf.one3) fun x27_14 h16 => ?_
 refine vy (V.sub h16 rfl rfl) fun x28_15 h17 => ?_
 refine vy (V.nc h17 rfl) fun x29_16 h18 => ?_
 refine vy (V.fa h18 rfl Paf.fo49_5) fun x30_17 h19 => ?_
 refine LV.st hS h19 rfl rfl rfl Paf.siz3 rfl rfl fun T7 its h20 hS => ?_
 refine dn ?_
 refine sr ?_
 refine mv ?_
 refine mv ?_
 refine mv ?_
 refine mv ?_
 refine mv ?_
 refine LV.bslice hS h20 rfl rfl Paf.el29 rfl rfl rfl rfl fun x36_18 T8 n8 h21 ρ its hS hdr => ?_
 refine LV.call hS h21 (g26_ok _ _ _ _ _ _ _ _ ) hP rfl rfl rfl rfl fun x37_19 T9 n9 h22 ρ its hS => ?_
 refine as_ ?_
 refine dn ?_
 refine CV.ret ?_
 cases h22
 exact PV.ret (by simp) Tryd.results37 hS (RS.tmp rfl RS.nil) rfl
noncomputable def g38_k1 (ih : FuncId → List HT → List AV → HT → Nat → R) (ro : List HT) (y0 y2 y3 y4 y6 : AV) (T4 : HT) (n4 : Nat) : R :=
 callK (g57 ro y0 (.lit (.string ⟨⟨[41]⟩⟩)) T4 n4) fun x85_6 T5 n5 =>
 ncK 380020 y0 fun x87_7 =>
 faK 380021 x87_7 4 fun x88_8 =>
 stK 380022 T5 x88_8 (.lit (.bool true)) fun T6 =>
 ncK 380024 y0 fun x90_9 =>
 faK 380025 x90_9 5 fun x91_10 =>
 ldK 380026 T6 ro x91_10 fun x92_11 =>
 ncK 380029 y0 fun x94_12 =>
 faK 380030 x94_12 5 fun x95_13 =>
 stK 380031 T6 x95_13 (.lit (.int .i64 (.ofNat 0))) fun T7 =>
 callK (ih 55 ro [y0] T7 n5) fun x98_14 T8 n8 =>
 bsK 380035 T8 n8 1 3 1 [(0, x98_14)] fun x99_15 T9 n9 =>
 appK 380036 T9 ro n9 3 1 8 y6 x99_15 fun x100_16 T10 n10 =>
 ncK 380041 y0 fun x104_17 =>
 faK 380042 x104_17 4 fun x105_18 =>
 stK 380043 T10 x105_18 (.lit (.bool false)) fun T11 =>
 ncK 380044 y0 fun x106_19 =>
 faK 380045 x106_19 5 fun x107_20 =>
 stK 380046 T11 x107_20 x92_11 fun T12 =>
 callK (g26 ro y0 (.lit (.int .i64 (.ofNat 45))) y3 y4 x100_16 T12 n10) fun x112_21 T13 n13 =>
 .ok (.val x112_21) T13 n13
noncomputable def g38_k4 (ih : FuncId → List HT → List AV → HT → Nat → R) (ro : List HT) (lp2 : AV → AV → AV → AV → AV → AV → AV → HT → Nat → R) (y0 y2 y3 y4 y6 y7 y8 : AV) (T21 : HT) (n21 : Nat) : R :=
 callK (g43 ro y0 (.lit (.string ⟨⟨[44]⟩⟩)) T21 n21) fun x82_30 T22 n22 =>
 notK 380073 x82_30 fun x83_31 =>
 condK 380074 x83_31
 (
  g38_k1 ih ro y0 y2 y3 y4 y6 T22 n22
 )
 (
  lp2 y0 y2 y3 y4 y6 y7 y8 T22 n22
 )
noncomputable def g38_k3 (ih : FuncId → List HT → List AV → HT → Nat → R) (ro : List HT) (lp2 : AV → AV → AV → AV → AV → AV → AV → HT → Nat → R) (y0 y2 y3 y4 y6 y7 y8 : AV) (T17 : HT) (n17 : Nat) : R :=
 callK (g22 ro y0 (.lit (.int .i64 (.ofNat 1))) T17 n17) fun x55_25 T18 n18 =>
 exK 380062 x55_25 0 fun x56_26 =>
 exK 380063 x55_25 1 fun x57_27 =>
 bsK 380068 T18 n18 1 9 1 [(0, x56_26)] fun x60_28 T19 n19 =>
 appK 380069 T19 ro n19 9 1 16 y7 x60_28 fun x61_29 T20 n20 =>
 callK (g43 ro y0 (.lit (.string ⟨⟨[61]⟩⟩)) T20 n20) fun x63_32 T23 n23 =>
 condK 380077 x63_32
 (
  callK (ih 42 ro [y0] T23 n23) fun x69_33 T24 n24 =>
  bsK 380085 T24 n24 1 3 1 [(0, x69_33)] fun x70_34 T25 n25 =>
  callK (g26 ro y0 (.lit (.int .i64 (.ofNat 46))) x57_27 x56_26 x70_34 T25 n25) fun x71_35 T26 n26 =>
  bsK 380087 T26 n26 1 3 1 [(0, x71_35)] fun x72_36 T27 n27 =>
  appK 380088 T27 ro n27 3 1 8 y6 x72_36 fun x73_37 T28 n28 =>
  g38_k4 ih ro lp2 y0 y2 y3 y4 x73_37 x61_29 (.lit (.bool true)) T28 n28
 )
 (
  callK (g26 ro y0 (.lit (.int .i64 (.ofNat 46))) x57_27 x56_26 (.lit (.slice none 0 0)) T23 n23) fun x78_38 T29 n29 =>
  bsK 380095 T29 n29 1 3 1 [(0, x78_38)] fun x79_39 T30 n30 =>
  appK 380096 T30 ro n30 3 1 8 y6 x79_39 fun x80_40 T31 n31 =>
  g38_k4 ih ro lp2 y0 y2 y3 y4 x80_40 x61_29 y8 T31 n31
 )
noncomputable def g38_b2 (ih : FuncId → List HT → List AV → HT → Nat → R) (ro : List HT) (lp2 : AV → AV → AV → AV → AV → AV → AV → HT → Nat → R) (y0 y2 y3 y4 y6 y7 y8 : AV) (T14 : HT) (n14 : Nat) : R :=
 bsK 380055 T14 n14 1 9 1 [(0, (.lit (.string ⟨⟨[41]⟩⟩)))] fun x22_22 T15 n15 =>
 callK (g35 ro y0 x22_22 T15 n15) fun x23_23 T16 n16 =>
 notK 380057 x23_23 fun x24_24 =>
 condK 380058 x24_24
 (
  callQ 380099 (g21 (T16 :: ro) y0 .nil n16) fun x26_41 =>
  neK Tryd.prog 3 (.tmp 26) (.const (.int .i64 (.ofNat 1))) 380100 x26_41 (.lit (.int .i64 (.ofNat 1))) fun x27_42 =>
  condK 380102 x27_42
  (
   condK 380105 (.lit (.bool true))
   (
    condK 380107 (.lit (.bool true))
    (
     callK (g30 ro y0 T16 n16) fun x52_43 T32 n32 =>
     g38_k3 ih ro lp2 y0 y2 y3 y4 y6 y7 y8 T32 n32
    )
    (
     .bad 0
    )
   )
   (
    .bad 0
   )
  )
  (
   ncK 380112 y0 fun x31_44 =>
   faK 380113 x31_44 0 fun x32_45 =>
   ldK 380114 T16 ro x32_45 fun x33_46 =>
   ncK 380116 y0 fun x35_47 =>
   faK 380117 x35_47 1 fun x36_48 =>
   ldK 380118 T16 ro x36_48 fun x37_49 =>
   iaK 380119 x33_46 x37_49 3 fun x38_50 =>
   faK 380120 x38_50 1 fun x39_51 =>
   ldK 380121 T16 ro x39_51 fun x40_52 =>
   callQ 380122 (g54 (T16 :: ro) y7 x40_52 .nil n16) fun x41_53 =>
   condK 380125 x41_53
   (
    condK 380127 (.lit (.bool true))
    (
     callK (g30 ro y0 T16 n16) fun x52_54 T33 n33 =>
     g38_k3 ih ro lp2 y0 y2 y3 y4 y6 y7 y8 T33 n33
    )
    (
     .bad 0
    )
   )
   (
    condK 380132 y8
    (
     callQ 380134 (g59 (T16 :: ro) y0 (.lit (.string ⟨⟨[61]⟩⟩)) .nil n16) fun x47_55 =>
     notK 380135 x47_55 fun x48_56 =>
     condK 380138 x48_56
     (
      callK (g30 ro y0 T16 n16) fun x52_57 T34 n34 =>
      g38_k3 ih ro lp2 y0 y2 y3 y4 y6 y7 (.lit (.bool true)) T34 n34
     )
     (
      g38_k3 ih ro lp2 y0 y2 y3 y4 y6 y7 (.lit (.bool true)) T16 n16
     )
    )
    (
     condK 380143 (.lit (.bool false))
     (
      .bad 0
     )
     (
      g38_k3 ih ro lp2 y0 y2 y3 y4 y6 y7 (.lit (.bool false)) T16 n16
     )
    )
   )
  )
 )
 (
  g38_k1 ih ro y0 y2 y3 y4 y6 T16 n16
 )
noncomputable def g38 (ih : FuncId → List HT → List AV → HT → Nat → R) (ro : List HT) (a0 : AV) (T : HT) (nx : Nat) : R :=
 callK (g57 ro a0 (.lit (.string ⟨⟨[100, 101, 102]⟩⟩)) T nx) fun x13_1 T1 n1 =>
 callK (g22 ro a0 (.lit (.int .i64 (.ofNat 1))) T1 n1) fun x16_2 T2 n2 =>
 exK 380008 x16_2 0 fun x17_3 =>
 exK 380009 x16_2 1 fun x18_4 =>
 callK (g57 ro a0 (.lit (.string ⟨⟨[40]⟩⟩)) T2 n2) fun x20_5 T3 n3 =>
 lpf7 380053 (g38_b2 ih ro) 100000 a0 (.lit (.int .i64 (.ofNat 0))) x13_1 x17_3 (.lit (.slice none 0 0)) (.lit (.slice none 0 0)) (.lit (.bool false)) T3 n3
theorem g38_ok (ih : FuncId → List HT → List AV → HT → Nat → R) (hI : ∀ f ro args T nx, GOk Tryd.prog envE f args ro T nx (ih f ro args T nx)) (ro : List HT) (a0 : AV) (T : HT) (nx : Nat) : GOk Tryd.prog envE 38 [a0] ro T nx (g38 ih ro a0 T nx) := by
 refine GOk.of_body Tryd.func38 rfl Tryd.ntmps38 (by kernel_rfl) rfl fun r T' n' h1 w0 base ρ0 its hS hP => ?_
 have X : CtxW envE ρ0 ro r T' n' := trivial
 unfold g38 at h1
 refine sr ?_
 refine as_ ?_
 refine dn ?_
 refine sr ?_
 refine mv ?_
 refine LV.call hS h1 (g57_ok _ _ _ _ _ ) hP rfl rfl rfl rfl fun x13_1 T1 n1 h2 ρ its hS => ?_
 refine as_ ?_
 refine dn ?_
 refine sr ?_
 refine mv ?_
 refine LV.call hS h2 (g22_ok _ _ _ _ _ ) hP rfl rfl rfl rfl fun x16_2 T2 n2 h3 ρ its hS => ?_
 refine mv ?_
 refine vy (V.ex h3 rfl) fun x17_3 h4 => ?_
 refine vy (V.ex h4 rfl) fun x18_4 h5 => ?_
 refine as_ ?_
 refine as_ ?_
 refine dn ?_
 refine sr ?_
 refine mv ?_
 refine LV.call hS h5 (g57_ok _ _ _ _ _ ) hP rfl rfl rfl rfl fun x20_5 T3 n3 h6 ρ its hS => ?_
 refine dn ?_
 refine sr ?_
 refine as_ ?_
 refine dn ?_
 refine sr ?_
 refine as_ ?_
 refine dn ?_
 refine sr ?_
 refine as_ ?_
 refine dn ?_
 refine cs5 X 0 2 3 4 6 [] (g38_k1 ih ro) ?_ ?_
 ·
  refine CV.block ?_
  refine cl7 X 0 2 3 4 6 7 8 [] hS h6 ⟨rfl, rfl, rfl, rfl, rfl, rfl, rfl, trivial⟩ ?_
  intro f2 y0 y2 y3 y4 y6 y7 y8 T14 n14 ρ its hS h28
  unfold g38_b2 at h28
  clear h1 h2 h3 h4 h5 h6
  refine CV.seq ?_
  refine sr ?_
  refine mv ?_
  refine LV.bslice hS h28 rfl rfl Paf.el33 rfl rfl rfl rfl fun x22_22 T15 n15 h29 ρ its hS hdr => ?_
  refine LV.call hS h29 (g35_ok _ _ _ _ _ ) hP rfl rfl rfl rfl fun x23_23 T16 n16 h30 ρ its hS => ?_
  refine vy (V.not h30 rfl) fun x24_24 h31 => ?_
  refine dn ?_
  refine CV.cond h31 rfl (fun e h32 => ?_) (fun e h32 => ?_)
  ·
   clear h28 h29 h30 h31
   subst e
   refine CV.skip ?_
   refine PV.thenN ?_
   refine CV.block ?_
   refine cs7 X 0 2 3 4 6 7 8 [] (g38_k3 ih ro (lpf7 380053 (g38_b2 ih ro) f2)) ?_ ?_
   ·
    refine CV.seq ?_
    refine CV.regionM [(0, .anywhere), (1, .alone), (2, .anywhere), (3, .anywhere), (4, .anywhere), (5, .anywhere), (6, .anywhere), (7, .anywhere), (8, .held), (9, .anywhere), (10, .anywhere), (11, .anywhere), (12, .held), (13, .held), (14, .held), (15, .held), (16, .alone), (17, .anywhere), (18, .anywhere), (19, .anywhere), (20, .anywhere), (21, .anywhere), (22, .alone), (23, .anywhere), (24, .anywhere), (25, .anywhere)] rfl (fun c a a' w hd hq => PanicOk.root (P := Tryd.prog) (fn := Tryd.f38) (w0 := w0) (base := base) (E := envE) (ro := ro) (r := r) (T' := T') (n' := n') (ρ0 := ρ0) c a a' w hd hq) (by kernel_rfl) ?_
    refine MV.step0 (i := 0) rfl (VAL.move rfl) rfl rfl rfl ?_
    refine MV.force (i := 1) rfl ?_
    refine LV.callQ hS h32 (g21_ok _ _ _ _ ) rfl rfl rfl rfl fun x26_41 h53 => ?_
    refine LV.nextM [] (by kernel_rfl) (fun z => absurd rfl z) ?_
    refine MV.lift0 (i := 2) rfl (V.ne h53 rfl rfl) rfl rfl rfl fun x27_42 h54 => ?_
    refine MV.step0 (i := 3) rfl (VAL.move rfl) rfl rfl rfl ?_
    rcases condK_inv h54 with ⟨e, h55⟩ | ⟨e, h55⟩
    ·
     clear h32 h53 h54
     subst e
     refine MV.skip0 (i := 4) rfl rfl rfl rfl ?_
     refine MV.skip0 (i := 5) rfl rfl rfl rfl ?_
     refine MV.skip0 (i := 6) rfl rfl rfl rfl ?_
     refine MV.skip0 (i := 7) rfl rfl rfl rfl ?_
     refine MV.skip1 (i := 8) rfl (fun _ z => z) rfl rfl rfl [] (by kernel_rfl) ?_
     refine MV.skip0 (i := 9) rfl rfl rfl rfl ?_
     refine MV.skip0 (i := 10) rfl rfl rfl rfl ?_
     refine MV.skip0 (i := 11) rfl rfl rfl rfl ?_
     refine MV.skip1 (i := 12) rfl (fun _ z => z) rfl rfl rfl [8] (by kernel_rfl) ?_
     refine MV.skip1 (i := 13) rfl (fun _ z => z) rfl rfl rfl [] (by kernel_rfl) ?_
     refine MV.skip1 (i := 14) rfl (fun _ z => z) rfl rfl rfl [] (by kernel_rfl) ?_
     refine MV.skip1 (i := 15) rfl (fun _ z => z) rfl rfl rfl [] (by kernel_rfl) ?_
     refine MV.force (i := 16) rfl ?_
     refine sk ?_
     refine LV.nextM [] (by kernel_rfl) (fun z => absurd rfl z) ?_
     refine MV.step0 (i := 17) rfl (VAL.pure rfl) rfl rfl rfl ?_
     refine MV.step0 (i := 18) rfl (VAL.move rfl) rfl rfl rfl ?_
     rcases condK_inv h55 with ⟨e, h56⟩ | ⟨e, h56⟩
     ·
      clear h55
      refine MV.skip0 (i := 19) rfl rfl rfl rfl ?_
      refine MV.skip0 (i := 20) rfl rfl rfl rfl ?_
      refine MV.skip0 (i := 21) rfl rfl rfl rfl ?_
      refine MV.force (i := 22) rfl ?_
      refine sk ?_
      refine LV.nextM [] (by kernel_rfl) (fun z => absurd rfl z) ?_
      refine MV.skip0 (i := 23) rfl rfl rfl rfl ?_
      refine MV.skip0 (i := 24) rfl rfl rfl rfl ?_
      refine MV.step0 (i := 25) rfl (VAL.pure rfl) rfl rfl rfl ?_
      refine mdn ?_
      refine CV.cond h56 rfl (fun e h57 => ?_) (fun e h57 => ?_)
      ·
       clear h56
       refine CV.region ?_
       refine mv ?_
       refine LV.call hS h57 (g30_ok _ _ _ _ ) hP rfl rfl rfl rfl fun x52_43 T32 n32 h58 ρ its hS => ?_
       refine LV.done ?_
       exact pa7 hS h58 ⟨rfl, rfl, rfl, rfl, rfl, rfl, rfl, trivial⟩
      ·
       clear h56
       cases e
     ·
      clear h55
      cases e
    ·
     clear h32 h53 h54
     subst e
     refine MV.step0 (i := 4) rfl (VAL.move rfl) rfl rfl rfl ?_
     refine MV.step0 (i := 5) rfl (VAL.move rfl) rfl rfl rfl ?_
     refine MV.lift0 (i := 6) rfl (V.nc h55 rfl) rfl rfl rfl fun x31_44 h59 => ?_
     refine MV.lift0 (i := 7) rfl (V.fa h59 rfl Paf.fo49_0) rfl rfl rfl fun x32_45 h60 => ?_
     refine MV.lift1 (i := 8) rfl (fun _ z => z) (V.ld hS h60 rfl Paf.one47) rfl rfl rfl [] (by kernel_rfl) fun x33_46 h61 => ?_
     refine MV.step0 (i := 9) rfl (VAL.move rfl) rfl rfl rfl ?_
     refine MV.lift0 (i := 10) rfl (V.nc h61 rfl) rfl rfl rfl fun x35_47 h62 => ?_
     refine MV.lift0 (i := 11) rfl (V.fa h62 rfl Paf.fo49_1) rfl rfl rfl fun x36_48 h63 => ?_
     refine MV.lift1 (i := 12) rfl (fun _ z => z) (V.ld hS h63 rfl Paf.one3) rfl rfl rfl [8] (by kernel_rfl) fun x37_49 h64 => ?_
     refine MV.lift1 (i := 13) rfl (fun _ z => z) (V.ia h64 rfl rfl Paf.el47) rfl rfl rfl [] (by kernel_rfl) fun x38_50 h65 => ?_
     refine MV.lift1 (i := 14) rfl (fun _ z => z) (V.fa h65 rfl Paf.fo68_1) rfl rfl rfl [] (by kernel_rfl) fun x39_51 h66 => ?_
     refine MV.lift1 (i := 15) rfl (fun _ z => z) (V.ld hS h66 rfl Paf.one9) rfl rfl rfl [] (by kernel_rfl) fun x40_52 h67 => ?_
     refine MV.force (i := 16) rfl ?_
     refine LV.callQ hS h67 (g54_ok _ _ _ _ _ ) rfl rfl rfl rfl fun x41_53 h68 => ?_
     refine LV.nextM [] (by kernel_rfl) (fun z => absurd rfl z) ?_
     refine MV.step0 (i := 17) rfl (VAL.pure rfl) rfl rfl rfl ?_
     refine MV.step0 (i := 18) rfl (VAL.move rfl) rfl rfl rfl ?_
     rcases condK_inv h68 with ⟨e, h69⟩ | ⟨e, h69⟩
     ·
      clear h55 h59 h60 h61 h62 h63 h64 h65 h66 h67 h68
      subst e
      refine MV.skip0 (i := 19) rfl rfl rfl rfl ?_
      refine MV.skip0 (i := 20) rfl rfl rfl rfl ?_
      refine MV.skip0 (i := 21) rfl rfl rfl rfl ?_
      refine MV.force (i := 22) rfl ?_
      refine sk ?_
      refine LV.nextM [] (by kernel_rfl) (fun z => absurd rfl z) ?_
      refine MV.skip0 (i := 23) rfl rfl rfl rfl ?_
      refine MV.skip0 (i := 24) rfl rfl rfl rfl ?_
      refine MV.step0 (i := 25) rfl (VAL.pure rfl) rfl rfl rfl ?_
      refine mdn ?_
      refine CV.cond h69 rfl (fun e h70 => ?_) (fun e h70 => ?_)
      ·
       clear h69
       refine CV.region ?_
       refine mv ?_
       refine LV.call hS h70 (g30_ok _ _ _ _ ) hP rfl rfl rfl rfl fun x52_54 T33 n33 h71 ρ its hS => ?_
       refine LV.done ?_
       exact pa7 hS h71 ⟨rfl, rfl, rfl, rfl, rfl, rfl, rfl, trivial⟩
      ·
       clear h69
       cases e
     ·
      clear h55 h59 h60 h61 h62 h63 h64 h65 h66 h67 h68
      subst e
      refine MV.step0 (i := 19) rfl (VAL.move rfl) rfl rfl rfl ?_
      refine MV.step0 (i := 20) rfl (VAL.move rfl) rfl rfl rfl ?_
      rcases condK_inv h69 with ⟨e, h72⟩ | ⟨e, h72⟩
      ·
       clear h69
       subst e
       refine MV.step0 (i := 21) rfl (VAL.move rfl) rfl rfl rfl ?_
       refine MV.force (i := 22) rfl ?_
       refine LV.callQ hS h72 (g59_ok _ _ _ _ _ ) rfl rfl rfl rfl fun x47_55 h73 => ?_
       refine LV.nextM [] (by kernel_rfl) (fun z => absurd rfl z) ?_
       refine MV.lift0 (i := 23) rfl (V.not h73 rfl) rfl rfl rfl fun x48_56 h74 => ?_
       refine MV.step0 (i := 24) rfl (VAL.pure rfl) rfl rfl rfl ?_
       refine MV.step0 (i := 25) rfl (VAL.pure rfl) rfl rfl rfl ?_
       refine mdn ?_
       refine CV.cond h74 rfl (fun e h75 => ?_) (fun e h75 => ?_)
       ·
        clear h72 h73 h74
        subst e
        refine CV.region ?_
        refine mv ?_
        refine LV.call hS h75 (g30_ok _ _ _ _ ) hP rfl rfl rfl rfl fun x52_57 T34 n34 h76 ρ its hS => ?_
        refine LV.done ?_
        exact pa7 hS h76 ⟨rfl, rfl, rfl, rfl, rfl, rfl, rfl, trivial⟩
       ·
        clear h72 h73 h74
        subst e
        refine CV.skip ?_
        exact pa7 hS h75 ⟨rfl, rfl, rfl, rfl, rfl, rfl, rfl, trivial⟩
      ·
       clear h69
       subst e
       refine MV.skip0 (i := 21) rfl rfl rfl rfl ?_
       refine MV.force (i := 22) rfl ?_
       refine sk ?_
       refine LV.nextM [] (by kernel_rfl) (fun z => absurd rfl z) ?_
       refine MV.skip0 (i := 23) rfl rfl rfl rfl ?_
       refine MV.step0 (i := 24) rfl (VAL.pure rfl) rfl rfl rfl ?_
       refine MV.step0 (i := 25) rfl (VAL.pure rfl) rfl rfl rfl ?_
       refine mdn ?_
       refine CV.cond h72 rfl (fun e h77 => ?_) (fun e h77 => ?_)
       ·
        clear h72
        cases e
       ·
        clear h72
        refine CV.skip ?_
        exact pa7 hS h77 ⟨rfl, rfl, rfl, rfl, rfl, rfl, rfl, trivial⟩
   ·
    intro y0 y2 y3 y4 y6 y7 y8 T17 n17 ρ its hS h33
    unfold g38_k3 at h33
    clear h32
    refine sr ?_
    refine mv ?_
    refine LV.call hS h33 (g22_ok _ _ _ _ _ ) hP rfl rfl rfl rfl fun x55_25 T18 n18 h34 ρ its hS => ?_
    refine mv ?_
    refine vy (V.ex h34 rfl) fun x56_26 h35 => ?_
    refine vy (V.ex h35 rfl) fun x57_27 h36 => ?_
    refine as_ ?_
    refine as_ ?_
    refine dn ?_
    refine sr ?_
    refine mv ?_
    refine mv ?_
    refine LV.bslice hS h36 rfl rfl Paf.el33 rfl rfl rfl rfl fun x60_28 T19 n19 h37 ρ its hS hdr => ?_
    refine LV.app hS h37 rfl rfl rfl rfl Paf.el33 rfl rfl rfl fun x61_29 T20 n20 h38 ρ its hS => ?_
    refine as_ ?_
    refine dn ?_
    refine cs7 X 0 2 3 4 6 7 8 [] (g38_k4 ih ro (lpf7 380053 (g38_b2 ih ro) f2)) ?_ ?_
    ·
     refine sr ?_
     refine mv ?_
     refine LV.call hS h38 (g43_ok _ _ _ _ _ ) hP rfl rfl rfl rfl fun x63_32 T23 n23 h43 ρ its hS => ?_
     refine dn ?_
     refine CV.cond h43 rfl (fun e h44 => ?_) (fun e h44 => ?_)
     ·
      clear h33 h34 h35 h36 h37 h38 h43
      subst e
      refine sr ?_
      refine as_ ?_
      refine dn ?_
      refine CV.region ?_
      refine mv ?_
      refine mv ?_
      refine mv ?_
      refine mv ?_
      refine mv ?_
      refine LV.call hS h44 (hI _ _ _ _ _) hP rfl rfl rfl rfl fun x69_33 T24 n24 h45 ρ its hS => ?_
      refine LV.bslice hS h45 rfl rfl Paf.el29 rfl rfl rfl rfl fun x70_34 T25 n25 h46 ρ its hS hdr => ?_
      refine LV.call hS h46 (g26_ok _ _ _ _ _ _ _ _ ) hP rfl rfl rfl rfl fun x71_35 T26 n26 h47 ρ its hS => ?_
      refine LV.bslice hS h47 rfl rfl Paf.el29 rfl rfl rfl rfl fun x72_36 T27 n27 h48 ρ its hS hdr => ?_
      refine LV.app hS h48 rfl rfl rfl rfl Paf.el29 rfl rfl rfl fun x73_37 T28 n28 h49 ρ its hS => ?_
      refine as_ ?_
      refine LV.done ?_
      exact pa7 hS h49 ⟨rfl, rfl, rfl, rfl, rfl, rfl, rfl, trivial⟩
     ·
      clear h33 h34 h35 h36 h37 h38 h43
      subst e
      refine CV.region ?_
      refine mv ?_
      refine mv ?_
      refine mv ?_
      refine mv ?_
      refine LV.call hS h44 (g26_ok _ _ _ _ _ _ _ _ ) hP rfl rfl rfl rfl fun x78_38 T29 n29 h50 ρ its hS => ?_
      refine LV.bslice hS h50 rfl rfl Paf.el29 rfl rfl rfl rfl fun x79_39 T30 n30 h51 ρ its hS hdr => ?_
      refine LV.app hS h51 rfl rfl rfl rfl Paf.el29 rfl rfl rfl fun x80_40 T31 n31 h52 ρ its hS => ?_
      refine as_ ?_
      refine LV.done ?_
      exact pa7 hS h52 ⟨rfl, rfl, rfl, rfl, rfl, rfl, rfl, trivial⟩
    ·
     intro y0 y2 y3 y4 y6 y7 y8 T21 n21 ρ its hS h39
     unfold g38_k4 at h39
     clear h33 h34 h35 h36 h37 h38
     refine sr ?_
     refine mv ?_
     refine LV.call hS h39 (g43_ok _ _ _ _ _ ) hP rfl rfl rfl rfl fun x82_30 T22 n22 h40 ρ its hS => ?_
     refine vy (V.not h40 rfl) fun x83_31 h41 => ?_
     refine dn ?_
     refine CV.cond h41 rfl (fun e h42 => ?_) (fun e h42 => ?_)
     ·
      clear h39 h40 h41
      subst e
      refine CV.exit ?_
      refine PV.blockO rfl ?_
      refine PV.thenE ?_
      refine PV.blockE ?_
      exact pa5 hS h42 ⟨rfl, rfl, rfl, rfl, rfl, trivial⟩
     ·
      clear h39 h40 h41
      subst e
      refine CV.skip ?_
      refine PV.blockN ?_
      exact pb7 hS h42 ⟨rfl, rfl, rfl, rfl, rfl, rfl, rfl, trivial⟩
  ·
   clear h28 h29 h30 h31
   subst e
   refine CV.exit ?_
   refine PV.thenE ?_
   refine PV.thenE ?_
   refine PV.blockE ?_
   exact pa5 hS h32 ⟨rfl, rfl, rfl, rfl, rfl, trivial⟩
 ·
  intro y0 y2 y3 y4 y6 T4 n4 ρ its hS h7
  unfold g38_k1 at h7
  clear h1 h2 h3 h4 h5 h6
  refine sr ?_
  refine mv ?_
  refine LV.call hS h7 (g57_ok _ _ _ _ _ ) hP rfl rfl rfl rfl fun x85_6 T5 n5 h8 ρ its hS => ?_
  refine dn ?_
  refine sr ?_
  refine mv ?_
  refine vy (V.nc h8 rfl) fun x87_7 h9 => ?_
  refine vy (V.fa h9 rfl Paf.fo49_4) fun x88_8 h10 => ?_
  refine LV.st hS h10 rfl rfl rfl Paf.siz4 rfl rfl fun T6 its h11 hS => ?_
  refine dn ?_
  refine sr ?_
  refine mv ?_
  refine vy (V.nc h11 rfl) fun x90_9 h12 => ?_
  refine vy (V.fa h12 rfl Paf.fo49_5) fun x91_10 h13 => ?_
  refine vy (V.ld hS h13 rfl Paf.one3) fun x92_11 h14 => ?_
  refine as_ ?_
  refine dn ?_
  refine sr ?_
  refine mv ?_
  refine vy (V.nc h14 rfl) fun x94_12 h15 => ?_
  refine vy (V.fa h15 rfl Paf.fo49_5) fun x95_13 h16 => ?_
  refine LV.st hS h16 rfl rfl rfl Paf.siz3 rfl rfl fun T7 its h17 hS => ?_
  refine dn ?_
  refine sr ?_
  refine mv ?_
  refine mv ?_
  refine LV.call hS h17 (hI _ _ _ _ _) hP rfl rfl rfl rfl fun x98_14 T8 n8 h18 ρ its hS => ?_
  refine LV.bslice hS h18 rfl rfl Paf.el29 rfl rfl rfl rfl fun x99_15 T9 n9 h19 ρ its hS hdr => ?_
  refine LV.app hS h19 rfl rfl rfl rfl Paf.el29 rfl rfl rfl fun x100_16 T10 n10 h20 ρ its hS => ?_
  refine as_ ?_
  refine dn ?_
  refine sr ?_
  refine mv ?_
  refine mv ?_
  refine mv ?_
  refine vy (V.nc h20 rfl) fun x104_17 h21 => ?_
  refine vy (V.fa h21 rfl Paf.fo49_4) fun x105_18 h22 => ?_
  refine LV.st hS h22 rfl rfl rfl Paf.siz4 rfl rfl fun T11 its h23 hS => ?_
  refine vy (V.nc h23 rfl) fun x106_19 h24 => ?_
  refine vy (V.fa h24 rfl Paf.fo49_5) fun x107_20 h25 => ?_
  refine LV.st hS h25 rfl rfl rfl Paf.siz3 rfl rfl fun T12 its h26 hS => ?_
  refine dn ?_
  refine sr ?_
  refine mv ?_
  refine mv ?_
  refine mv ?_
  refine mv ?_
  refine LV.call hS h26 (g26_ok _ _ _ _ _ _ _ _ ) hP rfl rfl rfl rfl fun x112_21 T13 n13 h27 ρ its hS => ?_
  refine as_ ?_
  refine dn ?_
  refine CV.ret ?_
  cases h27
  exact PV.ret (by simp) Tryd.results38 hS (RS.tmp rfl RS.nil) rfl
noncomputable def g39_k1 (ih : FuncId → List HT → List AV → HT → Nat → R) (ro : List HT) (y0 y4 y5 : AV) (T6 : HT) (n6 : Nat) : R :=
 callK (g43 ro y0 (.lit (.string ⟨⟨[98, 114, 101, 97, 107]⟩⟩)) T6 n6) fun x29_6 T7 n7 =>
 condK 390020 x29_6
 (
  callK (g26 ro y0 (.lit (.int .i64 (.ofNat 39))) y5 (.lit (.string ⟨⟨[]⟩⟩)) (.lit (.slice none 0 0)) T7 n7) fun x32_7 T8 n8 =>
  .ok (.val x32_7) T8 n8
 )
 (
  ncK 390026 y0 fun x34_8 =>
  faK 390027 x34_8 1 fun x35_9 =>
  ldK 390028 T7 ro x35_9 fun x36_10 =>
  addK Tryd.prog 3 (.tmp 36) (.const (.int .i64 (.ofNat 1))) 390029 x36_10 (.lit (.int .i64 (.ofNat 1))) fun x37_11 =>
  ncK 390030 y0 fun x38_12 =>
  faK 390031 x38_12 1 fun x39_13 =>
  stK 390032 T7 x39_13 x37_11 fun T9 =>
  callK (g26 ro y0 (.lit (.int .i64 (.ofNat 40))) y5 (.lit (.string ⟨⟨[]⟩⟩)) (.lit (.slice none 0 0)) T9 n7) fun x42_14 T10 n10 =>
  .ok (.val x42_14) T10 n10
 )
noncomputable def g39_k2 (ih : FuncId → List HT → List AV → HT → Nat → R) (ro : List HT) (y0 y4 : AV) (T17 : HT) (n17 : Nat) : R :=
 callK (g61 ro y0 T17 n17) fun x58_25 T18 n18 =>
 .ok (.val x58_25) T18 n18
noncomputable def g39_k3 (ih : FuncId → List HT → List AV → HT → Nat → R) (ro : List HT) (y0 y4 y6 y7 : AV) (T24 : HT) (n24 : Nat) : R :=
 ncK 390078 y0 fun x74_32 =>
 faK 390079 x74_32 1 fun x75_33 =>
 ldK 390080 T24 ro x75_33 fun x76_34 =>
 addK Tryd.prog 3 (.tmp 76) (.const (.int .i64 (.ofNat 1))) 390081 x76_34 (.lit (.int .i64 (.ofNat 1))) fun x77_35 =>
 ncK 390082 y0 fun x78_36 =>
 faK 390083 x78_36 1 fun x79_37 =>
 stK 390084 T24 x79_37 x77_35 fun T25 =>
 callK (ih 20 ro [y0] T25 n24) fun x84_38 T26 n26 =>
 bsK 390090 T26 n26 2 3 1 [(0, y6), (1, x84_38)] fun x85_39 T27 n27 =>
 callK (g26 ro y0 (.lit (.int .i64 (.ofNat 36))) y7 (.lit (.string ⟨⟨[]⟩⟩)) x85_39 T27 n27) fun x86_40 T28 n28 =>
 .ok (.val x86_40) T28 n28
noncomputable def g39_k4 (ih : FuncId → List HT → List AV → HT → Nat → R) (ro : List HT) (y0 y4 y6 y7 : AV) (T33 : HT) (n33 : Nat) : R :=
 ncK 390106 y0 fun x108_46 =>
 faK 390107 x108_46 1 fun x109_47 =>
 ldK 390108 T33 ro x109_47 fun x110_48 =>
 addK Tryd.prog 3 (.tmp 110) (.const (.int .i64 (.ofNat 1))) 390109 x110_48 (.lit (.int .i64 (.ofNat 1))) fun x111_49 =>
 ncK 390110 y0 fun x112_50 =>
 faK 390111 x112_50 1 fun x113_51 =>
 stK 390112 T33 x113_51 x111_49 fun T34 =>
 callK (ih 20 ro [y0] T34 n33) fun x118_52 T35 n35 =>
 bsK 390118 T35 n35 2 3 1 [(0, y6), (1, x118_52)] fun x119_53 T36 n36 =>
 callK (g26 ro y0 (.lit (.int .i64 (.ofNat 37))) y7 (.lit (.string ⟨⟨[]⟩⟩)) x119_53 T36 n36) fun x120_54 T37 n37 =>
 .ok (.val x120_54) T37 n37
noncomputable def g39_k5 (ih : FuncId → List HT → List AV → HT → Nat → R) (ro : List HT) (y0 y6 y7 y104 : AV) (T38 : HT) (n38 : Nat) : R :=
 condK 390133 y104
 (
  callK (g30 ro y0 T38 n38) fun x106_62 T39 n39 =>
  g39_k4 ih ro y0 (.lit (.int .i64 (.ofNat 0))) y6 y7 T39 n39
 )
 (
  g39_k4 ih ro y0 (.lit (.int .i64 (.ofNat 0))) y6 y7 T38 n38
 )
noncomputable def g39 (ih : FuncId → List HT → List AV → HT → Nat → R) (ro : List HT) (a0 a1 : AV) (T : HT) (nx : Nat) : R :=
 callK (g41 ro a0 T nx) fun x10_1 T1 n1 =>
 callK (g43 ro a0 (.lit (.string ⟨⟨[112, 97, 115, 115]⟩⟩)) T1 n1) fun x13_2 T2 n2 =>
 condK 390008 x13_2
 (
  callK (g26 ro a0 (.lit (.int .i64 (.ofNat 38))) x10_1 (.lit (.string ⟨⟨[]⟩⟩)) (.lit (.slice none 0 0)) T2 n2) fun x16_3 T3 n3 =>
  .ok (.val x16_3) T3 n3
 )
 (
  bsK 390014 T2 n2 2 9 1 [(0, (.lit (.string ⟨⟨[98, 114, 101, 97, 107]⟩⟩))), (1, (.lit (.string ⟨⟨[99, 111, 110, 116, 105, 110, 117, 101]⟩⟩)))] fun x19_4 T4 n4 =>
  callK (g35 ro a0 x19_4 T4 n4) fun x20_5 T5 n5 =>
  condK 390017 x20_5
  (
   ncK 390038 a0 fun x22_15 =>
   faK 390039 x22_15 5 fun x23_16 =>
   ldK 390040 T5 ro x23_16 fun x24_17 =>
   eqK Tryd.prog 3 (.tmp 24) (.const (.int .i64 (.ofNat 0))) 390041 x24_17 (.lit (.int .i64 (.ofNat 0))) fun x25_18 =>
   condK 390042 x25_18
   (
    callK (g30 ro a0 T5 n5) fun x27_19 T11 n11 =>
    g39_k1 ih ro a0 (.lit (.int .i64 (.ofNat 0))) x10_1 T11 n11
   )
   (
    g39_k1 ih ro a0 (.lit (.int .i64 (.ofNat 0))) x10_1 T5 n5
   )
  )
  (
   bsK 390046 T5 n5 1 9 1 [(0, (.lit (.string ⟨⟨[114, 101, 116, 117, 114, 110]⟩⟩)))] fun x45_20 T12 n12 =>
   callK (g35 ro a0 x45_20 T12 n12) fun x46_21 T13 n13 =>
   condK 390049 x46_21
   (
    callK (ih 60 ro [a0] T13 n13) fun x48_22 T14 n14 =>
    .ok (.val x48_22) T14 n14
   )
   (
    bsK 390054 T13 n13 1 9 1 [(0, (.lit (.string ⟨⟨[108, 111, 97, 100]⟩⟩)))] fun x51_23 T15 n15 =>
    callK (g35 ro a0 x51_23 T15 n15) fun x52_24 T16 n16 =>
    condK 390057 x52_24
    (
     notK 390062 a1 fun x54_26 =>
     condK 390063 x54_26
     (
      callK (g30 ro a0 T16 n16) fun x56_27 T19 n19 =>
      g39_k2 ih ro a0 (.lit (.int .i64 (.ofNat 0))) T19 n19
     )
     (
      g39_k2 ih ro a0 (.lit (.int .i64 (.ofNat 0))) T16 n16
     )
    )
    (
     callK (ih 20 ro [a0] T16 n16) fun x60_28 T20 n20 =>
     callK (g41 ro a0 T20 n20) fun x62_29 T21 n21 =>
     bsK 390073 T21 n21 1 9 1 [(0, (.lit (.string ⟨⟨[61]⟩⟩)))] fun x65_30 T22 n22 =>
     callK (g35 ro a0 x65_30 T22 n22) fun x66_31 T23 n23 =>
     condK 390076 x66_31
     (
      callK (scc1 4000 62 ro [a0, x60_28] T23 n23) fun x69_41 T29 n29 =>
      notK 390096 x69_41 fun x70_42 =>
      condK 390097 x70_42
      (
       callK (g30 ro a0 T29 n29) fun x72_43 T30 n30 =>
       g39_k3 ih ro a0 (.lit (.int .i64 (.ofNat 0))) x60_28 x62_29 T30 n30
      )
      (
       g39_k3 ih ro a0 (.lit (.int .i64 (.ofNat 0))) x60_28 x62_29 T29 n29
      )
     )
     (
      bsK 390101 T23 n23 1 9 1 [(0, (.lit (.string ⟨⟨[43, 61]⟩⟩)))] fun x89_44 T31 n31 =>
      callK (g35 ro a0 x89_44 T31 n31) fun x90_45 T32 n32 =>
      condK 390104 x90_45
      (
       ncK 390122 a0 fun x92_55 =>
       faK 390123 x92_55 2 fun x93_56 =>
       ldK 390124 T32 ro x93_56 fun x94_57 =>
       iaK 390126 x94_57 x60_28 5 fun x96_58 =>
       faK 390127 x96_58 0 fun x97_59 =>
       ldK 390128 T32 ro x97_59 fun x98_60 =>
       neK Tryd.prog 3 (.tmp 99) (.const (.int .i64 (.ofNat 6))) 390131 x98_60 (.lit (.int .i64 (.ofNat 6))) fun x100_61 =>
       condK 390136 x100_61
       (
        neK Tryd.prog 3 (.tmp 102) (.const (.int .i64 (.ofNat 13))) 390138 x98_60 (.lit (.int .i64 (.ofNat 13))) fun x103_63 =>
        g39_k5 ih ro a0 x60_28 x62_29 x103_63 T32 n32
       )
       (
        g39_k5 ih ro a0 x60_28 x62_29 (.lit (.bool false)) T32 n32
       )
      )
      (
       ncK 390143 a0 fun x123_64 =>
       faK 390144 x123_64 2 fun x124_65 =>
       ldK 390145 T32 ro x124_65 fun x125_66 =>
       iaK 390147 x125_66 x60_28 5 fun x127_67 =>
       faK 390148 x127_67 2 fun x128_68 =>
       ldK 390149 T32 ro x128_68 fun x129_69 =>
       bsK 390151 T32 n32 1 3 1 [(0, x60_28)] fun x131_70 T40 n40 =>
       callK (g26 ro a0 (.lit (.int .i64 (.ofNat 35))) x129_69 (.lit (.string ⟨⟨[]⟩⟩)) x131_70 T40 n40) fun x132_71 T41 n41 =>
       .ok (.val x132_71) T41 n41
      )
     )
    )
   )
  )
 )
theorem g39_ok (ih : FuncId → List HT → List AV → HT → Nat → R) (hI : ∀ f ro args T nx, GOk Tryd.prog envE f args ro T nx (ih f ro args T nx)) (ro : List HT) (a0 a1 : AV) (T : HT) (nx : Nat) : GOk Tryd.prog envE 39 [a0, a1] ro T nx (g39 ih ro a0 a1 T nx) := by
 refine GOk.of_body Tryd.func39 rfl Tryd.ntmps39 (by kernel_rfl) rfl fun r T' n' h1 w0 base ρ0 its hS hP => ?_
 have X : CtxW envE ρ0 ro r T' n' := trivial
 unfold g39 at h1
 refine sr ?_
 refine as_ ?_
 refine dn ?_
 refine sr ?_
 refine mv ?_
 refine LV.call hS h1 (g41_ok _ _ _ _ ) hP rfl rfl rfl rfl fun x10_1 T1 n1 h2 ρ its hS => ?_
 refine as_ ?_
 refine dn ?_
 refine CV.seq ?_
 refine CV.block ?_
 refine sr ?_
 refine mv ?_
 refine LV.call hS h2 (g43_ok _ _ _ _ _ ) hP rfl rfl rfl rfl fun x13_2 T2 n2 h3 ρ its hS => ?_
 refine as_ ?_
 refine dn ?_
 refine CV.cond h3 rfl (fun e h4 => ?_) (fun e h4 => ?_)
 ·
  clear h1 h2 h3
  subst e
  refine sr ?_
  refine mv ?_
  refine mv ?_
  refine LV.call hS h4 (g26_ok _ _ _ _ _ _ _ _ ) hP rfl rfl rfl rfl fun x16_3 T3 n3 h5 ρ its hS => ?_
  refine as_ ?_
  refine dn ?_
  refine CV.ret ?_
  refine PV.blockR ?_
  refine PV.thenR ?_
  cases h5
  exact PV.ret (by simp) Tryd.results39 hS (RS.tmp rfl RS.nil) rfl
 ·
  clear h1 h2 h3
  subst e
  refine sr ?_
  refine mv ?_
  refine LV.bslice hS h4 rfl rfl Paf.el33 rfl rfl rfl rfl fun x19_4 T4 n4 h6 ρ its hS hdr => ?_
  refine LV.call hS h6 (g35_ok _ _ _ _ _ ) hP rfl rfl rfl rfl fun x20_5 T5 n5 h7 ρ its hS => ?_
  refine as_ ?_
  refine dn ?_
  refine CV.cond h7 rfl (fun e h8 => ?_) (fun e h8 => ?_)
  ·
   clear h4 h6 h7
   subst e
   refine cs3 X 0 4 5 [] (g39_k1 ih ro) ?_ ?_
   ·
    refine sr ?_
    refine mv ?_
    refine vy (V.nc h8 rfl) fun x22_15 h21 => ?_
    refine vy (V.fa h21 rfl Paf.fo49_5) fun x23_16 h22 => ?_
    refine vy (V.ld hS h22 rfl Paf.one3) fun x24_17 h23 => ?_
    refine vy (V.eq h23 rfl rfl) fun x25_18 h24 => ?_
    refine dn ?_
    refine CV.cond h24 rfl (fun e h25 => ?_) (fun e h25 => ?_)
    ·
     clear h8 h21 h22 h23 h24
     subst e
     refine CV.region ?_
     refine mv ?_
     refine LV.call hS h25 (g30_ok _ _ _ _ ) hP rfl rfl rfl rfl fun x27_19 T11 n11 h26 ρ its hS => ?_
     refine LV.done ?_
     exact pa3 hS h26 ⟨rfl, rfl, rfl, trivial⟩
    ·
     clear h8 h21 h22 h23 h24
     subst e
     refine CV.skip ?_
     exact pa3 hS h25 ⟨rfl, rfl, rfl, trivial⟩
   ·
    intro y0 y4 y5 T6 n6 ρ its hS h9
    unfold g39_k1 at h9
    clear h8
    refine CV.seq ?_
    refine sr ?_
    refine mv ?_
    refine LV.call hS h9 (g43_ok _ _ _ _ _ ) hP rfl rfl rfl rfl fun x29_6 T7 n7 h10 ρ its hS => ?_
    refine dn ?_
    refine CV.cond h10 rfl (fun e h11 => ?_) (fun e h11 => ?_)
    ·
     clear h9 h10
     subst e
     refine sr ?_
     refine mv ?_
     refine mv ?_
     refine LV.call hS h11 (g26_ok _ _ _ _ _ _ _ _ ) hP rfl rfl rfl rfl fun x32_7 T8 n8 h12 ρ its hS => ?_
     refine as_ ?_
     refine dn ?_
     refine CV.ret ?_
     refine PV.thenR ?_
     refine PV.blockR ?_
     refine PV.thenR ?_
     cases h12
     exact PV.ret (by simp) Tryd.results39 hS (RS.tmp rfl RS.nil) rfl
    ·
     clear h9 h10
     subst e
     refine CV.skip ?_
     refine PV.thenN ?_
     refine sr ?_
     refine mv ?_
     refine vy (V.nc h11 rfl) fun x34_8 h13 => ?_
     refine vy (V.fa h13 rfl Paf.fo49_1) fun x35_9 h14 => ?_
     refine vy (V.ld hS h14 rfl Paf.one3) fun x36_10 h15 => ?_
     refine vy (V.add h15 rfl rfl) fun x37_11 h16 => ?_
     refine vy (V.nc h16 rfl) fun x38_12 h17 => ?_
     refine vy (V.fa h17 rfl Paf.fo49_1) fun x39_13 h18 => ?_
     refine LV.st hS h18 rfl rfl rfl Paf.siz3 rfl rfl fun T9 its h19 hS => ?_
     refine dn ?_
     refine sr ?_
     refine mv ?_
     refine mv ?_
     refine LV.call hS h19 (g26_ok _ _ _ _ _ _ _ _ ) hP rfl rfl rfl rfl fun x42_14 T10 n10 h20 ρ its hS => ?_
     refine as_ ?_
     refine dn ?_
     refine CV.ret ?_
     refine PV.blockR ?_
     refine PV.thenR ?_
     cases h20
     exact PV.ret (by simp) Tryd.results39 hS (RS.tmp rfl RS.nil) rfl
  ·
   clear h4 h6 h7
   subst e
   refine sr ?_
   refine mv ?_
   refine LV.bslice hS h8 rfl rfl Paf.el33 rfl rfl rfl rfl fun x45_20 T12 n12 h27 ρ its hS hdr => ?_
   refine LV.call hS h27 (g35_ok _ _ _ _ _ ) hP rfl rfl rfl rfl fun x46_21 T13 n13 h28 ρ its hS => ?_
   refine as_ ?_
   refine dn ?_
   refine CV.cond h28 rfl (fun e h29 => ?_) (fun e h29 => ?_)
   ·
    clear h8 h27 h28
    subst e
    refine sr ?_
    refine mv ?_
    refine LV.call hS h29 (hI _ _ _ _ _) hP rfl rfl rfl rfl fun x48_22 T14 n14 h30 ρ its hS => ?_
    refine as_ ?_
    refine dn ?_
    refine CV.ret ?_
    refine PV.blockR ?_
    refine PV.thenR ?_
    cases h30
    exact PV.ret (by simp) Tryd.results39 hS (RS.tmp rfl RS.nil) rfl
   ·
    clear h8 h27 h28
    subst e
    refine sr ?_
    refine mv ?_
    refine LV.bslice hS h29 rfl rfl Paf.el33 rfl rfl rfl rfl fun x51_23 T15 n15 h31 ρ its hS hdr => ?_
    refine LV.call hS h31 (g35_ok _ _ _ _ _ ) hP rfl rfl rfl rfl fun x52_24 T16 n16 h32 ρ its hS => ?_
    refine as_ ?_
    refine dn ?_
    refine CV.cond h32 rfl (fun e h33 => ?_) (fun e h33 => ?_)
    ·
     clear h29 h31 h32
     subst e
     refine cs2 X 0 4 [] (g39_k2 ih ro) ?_ ?_
     ·
      refine sr ?_
      refine mv ?_
      refine vy (V.not h33 rfl) fun x54_26 h36 => ?_
      refine dn ?_
      refine CV.cond h36 rfl (fun e h37 => ?_) (fun e h37 => ?_)
      ·
       clear h33 h36
       subst e
       refine CV.region ?_
       refine mv ?_
       refine LV.call hS h37 (g30_ok _ _ _ _ ) hP rfl rfl rfl rfl fun x56_27 T19 n19 h38 ρ its hS => ?_
       refine LV.done ?_
       exact pa2 hS h38 ⟨rfl, rfl, trivial⟩
      ·
       clear h33 h36
       subst e
       refine CV.skip ?_
       exact pa2 hS h37 ⟨rfl, rfl, trivial⟩
     ·
      intro y0 y4 T17 n17 ρ its hS h34
      unfold g39_k2 at h34
      clear h33
      refine sr ?_
      refine mv ?_
      refine LV.call hS h34 (g61_ok _ _ _ _ ) hP rfl rfl rfl rfl fun x58_25 T18 n18 h35 ρ its hS => ?_
      refine as_ ?_
      refine dn ?_
      refine CV.ret ?_
      refine PV.blockR ?_
      refine PV.thenR ?_
      cases h35
      exact PV.ret (by simp) Tryd.results39 hS (RS.tmp rfl RS.nil) rfl
    ·
     clear h29 h31 h32
     subst e
     refine CV.skip ?_
     refine PV.blockN ?_
     refine PV.thenN ?_
     refine sr ?_
     refine mv ?_
     refine LV.call hS h33 (hI _ _ _ _ _) hP rfl rfl rfl rfl fun x60_28 T20 n20 h39 ρ its hS => ?_
     refine as_ ?_
     refine dn ?_
     refine sr ?_
     refine mv ?_
     refine LV.call hS h39 (g41_ok _ _ _ _ ) hP rfl rfl rfl rfl fun x62_29 T21 n21 h40 ρ its hS => ?_
     refine as_ ?_
     refine dn ?_
     refine CV.seq ?_
     refine CV.block ?_
     refine sr ?_
     refine mv ?_
     refine LV.bslice hS h40 rfl rfl Paf.el33 rfl rfl rfl rfl fun x65_30 T22 n22 h41 ρ its hS hdr => ?_
     refine LV.call hS h41 (g35_ok _ _ _ _ _ ) hP rfl rfl rfl rfl fun x66_31 T23 n23 h42 ρ its hS => ?_
     refine as_ ?_
     refine dn ?_
     refine CV.cond h42 rfl (fun e h43 => ?_) (fun e h43 => ?_)
     ·
      clear h33 h39 h40 h41 h42
      subst e
      refine cs4 X 0 4 6 7 [] (g39_k3 ih ro) ?_ ?_
      ·
       refine sr ?_
       refine mv ?_
       refine mv ?_
       refine LV.call hS h43 (scc1_ok _ _ _ _ _ _) hP rfl rfl rfl rfl fun x69_41 T29 n29 h55 ρ its hS => ?_
       refine vy (V.not h55 rfl) fun x70_42 h56 => ?_
       refine dn ?_
       refine CV.cond h56 rfl (fun e h57 => ?_) (fun e h57 => ?_)
       ·
        clear h43 h55 h56
        subst e
        refine CV.region ?_
        refine mv ?_
        refine LV.call hS h57 (g30_ok _ _ _ _ ) hP rfl rfl rfl rfl fun x72_43 T30 n30 h58 ρ its hS => ?_
        refine LV.done ?_
        exact pa4 hS h58 ⟨rfl, rfl, rfl, rfl, trivial⟩
       ·
        clear h43 h55 h56
        subst e
        refine CV.skip ?_
        exact pa4 hS h57 ⟨rfl, rfl, rfl, rfl, trivial⟩
      ·
       intro y0 y4 y6 y7 T24 n24 ρ its hS h44
       unfold g39_k3 at h44
       clear h43
       refine sr ?_
       refine mv ?_
       refine vy (V.nc h44 rfl) fun x74_32 h45 => ?_
       refine vy (V.fa h45 rfl Paf.fo49_1) fun x75_33 h46 => ?_
       refine vy (V.ld hS h46 rfl Paf.one3) fun x76_34 h47 => ?_
       refine vy (V.add h47 rfl rfl) fun x77_35 h48 => ?_
       refine vy (V.nc h48 rfl) fun x78_36 h49 => ?_
       refine vy (V.fa h49 rfl Paf.fo49_1) fun x79_37 h50 => ?_
       refine LV.st hS h50 rfl rfl rfl Paf.siz3 rfl rfl fun T25 its h51 hS => ?_
       refine dn ?_
       refine sr ?_
       refine mv ?_
       refine mv ?_
       refine mv ?_
       refine mv ?_
       refine LV.call hS h51 (hI _ _ _ _ _) hP rfl rfl rfl rfl fun x84_38 T26 n26 h52 ρ its hS => ?_
       refine LV.bslice hS h52 rfl rfl Paf.el29 rfl rfl rfl rfl fun x85_39 T27 n27 h53 ρ its hS hdr => ?_
       refine LV.call hS h53 (g26_ok _ _ _ _ _ _ _ _ ) hP rfl rfl rfl rfl fun x86_40 T28 n28 h54 ρ its hS => ?_
       refine as_ ?_
       refine dn ?_
       refine CV.ret ?_
       refine PV.blockR ?_
       refine PV.thenR ?_
       cases h54
       exact PV.ret (by simp) Tryd.results39 hS (RS.tmp rfl RS.nil) rfl
     ·
      clear h33 h39 h40 h41 h42
      subst e
      refine sr ?_
      refine mv ?_
      refine LV.bslice hS h43 rfl rfl Paf.el33 rfl rfl rfl rfl fun x89_44 T31 n31 h59 ρ its hS hdr => ?_
      refine LV.call hS h59 (g35_ok _ _ _ _ _ ) hP rfl rfl rfl rfl fun x90_45 T32 n32 h60 ρ its hS => ?_
      refine as_ ?_
      refine dn ?_
      refine CV.cond h60 rfl (fun e h61 => ?_) (fun e h61 => ?_)
      ·
       clear h43 h59 h60
       subst e
       refine cs4 X 0 4 6 7 [] (g39_k4 ih ro) ?_ ?_
       ·
        refine sr ?_
        refine mv ?_
        refine vy (V.nc h61 rfl) fun x92_55 h73 => ?_
        refine vy (V.fa h73 rfl Paf.fo49_2) fun x93_56 h74 => ?_
        refine vy (V.ld hS h74 rfl Paf.one23) fun x94_57 h75 => ?_
        refine mv ?_
        refine vy (V.ia h75 rfl rfl Paf.el23) fun x96_58 h76 => ?_
        refine vy (V.fa h76 rfl Paf.fo31_0) fun x97_59 h77 => ?_
        refine vy (V.ld hS h77 rfl Paf.one3) fun x98_60 h78 => ?_
        refine as_ ?_
        refine dn ?_
        refine sr ?_
        refine mv ?_
        refine vy (V.ne h78 rfl rfl) fun x100_61 h79 => ?_
        refine mv ?_
        refine ls4 X 0 6 7 104 [(4, (.lit (.int .i64 (.ofNat 0))))] (g39_k5 ih ro) 3 ?_ ?_
        ·
         rcases condK_inv h79 with ⟨e, h83⟩ | ⟨e, h83⟩
         ·
          clear h61 h73 h74 h75 h76 h77 h78 h79
          subst e
          refine mv ?_
          refine vy (V.ne h83 rfl rfl) fun x103_63 h84 => ?_
          refine pu ?_
          exact la4 hS h84 ⟨rfl, rfl, rfl, rfl, rfl, trivial⟩
         ·
          clear h61 h73 h74 h75 h76 h77 h78 h79
          subst e
          refine sk ?_
          refine sk ?_
          refine pu ?_
          exact la4 hS h83 ⟨rfl, rfl, rfl, rfl, rfl, trivial⟩
        ·
         intro y0 y6 y7 y104 T38 n38 ρ its hS h80
         unfold g39_k5 at h80
         clear h61 h73 h74 h75 h76 h77 h78 h79
         refine dn ?_
         refine CV.cond h80 rfl (fun e h81 => ?_) (fun e h81 => ?_)
         ·
          clear h80
          subst e
          refine CV.region ?_
          refine mv ?_
          refine LV.call hS h81 (g30_ok _ _ _ _ ) hP rfl rfl rfl rfl fun x106_62 T39 n39 h82 ρ its hS => ?_
          refine LV.done ?_
          exact pa4 hS h82 ⟨rfl, rfl, rfl, rfl, trivial⟩
         ·
          clear h80
          subst e
          refine CV.skip ?_
          exact pa4 hS h81 ⟨rfl, rfl, rfl, rfl, trivial⟩
       ·
        intro y0 y4 y6 y7 T33 n33 ρ its hS h62
        unfold g39_k4 at h62
        clear h61
        refine sr ?_
        refine mv ?_
        refine vy (V.nc h62 rfl) fun x108_46 h63 => ?_
        refine vy (V.fa h63 rfl Paf.fo49_1) fun x109_47 h64 => ?_
        refine vy (V.ld hS h64 rfl Paf.one3) fun x110_48 h65 => ?_
        refine vy (V.add h65 rfl rfl) fun x111_49 h66 => ?_
        refine vy (V.nc h66 rfl) fun x112_50 h67 => ?_
        refine vy (V.fa h67 rfl Paf.fo49_1) fun x113_51 h68 => ?_
        refine LV.st hS h68 rfl rfl rfl Paf.siz3 rfl rfl fun T34 its h69 hS => ?_
        refine dn ?_
        refine sr ?_
        refine mv ?_
        refine mv ?_
        refine mv ?_
        refine mv ?_
        refine LV.call hS h69 (hI _ _ _ _ _) hP rfl rfl rfl rfl fun x118_52 T35 n35 h70 ρ its hS => ?_
        refine LV.bslice hS h70 rfl rfl Paf.el29 rfl rfl rfl rfl fun x119_53 T36 n36 h71 ρ its hS hdr => ?_
        refine LV.call hS h71 (g26_ok _ _ _ _ _ _ _ _ ) hP rfl rfl rfl rfl fun x120_54 T37 n37 h72 ρ its hS => ?_
        refine as_ ?_
        refine dn ?_
        refine CV.ret ?_
        refine PV.blockR ?_
        refine PV.thenR ?_
        cases h72
        exact PV.ret (by simp) Tryd.results39 hS (RS.tmp rfl RS.nil) rfl
      ·
       clear h43 h59 h60
       subst e
       refine CV.skip ?_
       refine PV.blockN ?_
       refine PV.thenN ?_
       refine sr ?_
       refine mv ?_
       refine mv ?_
       refine vy (V.nc h61 rfl) fun x123_64 h85 => ?_
       refine vy (V.fa h85 rfl Paf.fo49_2) fun x124_65 h86 => ?_
       refine vy (V.ld hS h86 rfl Paf.one23) fun x125_66 h87 => ?_
       refine mv ?_
       refine vy (V.ia h87 rfl rfl Paf.el23) fun x127_67 h88 => ?_
       refine vy (V.fa h88 rfl Paf.fo31_2) fun x128_68 h89 => ?_
       refine vy (V.ld hS h89 rfl Paf.one3) fun x129_69 h90 => ?_
       refine mv ?_
       refine LV.bslice hS h90 rfl rfl Paf.el29 rfl rfl rfl rfl fun x131_70 T40 n40 h91 ρ its hS hdr => ?_
       refine LV.call hS h91 (g26_ok _ _ _ _ _ _ _ _ ) hP rfl rfl rfl rfl fun x132_71 T41 n41 h92 ρ its hS => ?_
       refine as_ ?_
       refine dn ?_
       refine CV.ret ?_
       cases h92
       exact PV.ret (by simp) Tryd.results39 hS (RS.tmp rfl RS.nil) rfl
noncomputable def g42 (ih : FuncId → List HT → List AV → HT → Nat → R) (ro : List HT) (a0 : AV) (T : HT) (nx : Nat) : R :=
 callK (ih 65 ro [a0] T nx) fun x8_1 T1 n1 =>
 bsK 420006 T1 n1 1 9 1 [(0, (.lit (.string ⟨⟨[105, 102]⟩⟩)))] fun x10_2 T2 n2 =>
 callK (g35 ro a0 x10_2 T2 n2) fun x11_3 T3 n3 =>
 notK 420008 x11_3 fun x12_4 =>
 condK 420009 x12_4
 (
  .ok (.val x8_1) T3 n3
 )
 (
  callK (g57 ro a0 (.lit (.string ⟨⟨[105, 102]⟩⟩)) T3 n3) fun x15_5 T4 n4 =>
  callK (g56 ro a0 x15_5 T4 n4) fun x18_6 T5 n5 =>
  callK (ih 65 ro [a0] T5 n5) fun x20_7 T6 n6 =>
  callK (g57 ro a0 (.lit (.string ⟨⟨[101, 108, 115, 101]⟩⟩)) T6 n6) fun x22_8 T7 n7 =>
  callK (ih 42 ro [a0] T7 n7) fun x24_9 T8 n8 =>
  ncK 420027 a0 fun x26_10 =>
  faK 420028 x26_10 3 fun x27_11 =>
  ldK 420029 T8 ro x27_11 fun x28_12 =>
  subK Tryd.prog 3 (.tmp 28) (.const (.int .i64 (.ofNat 1))) 420030 x28_12 (.lit (.int .i64 (.ofNat 1))) fun x29_13 =>
  ncK 420031 a0 fun x30_14 =>
  faK 420032 x30_14 3 fun x31_15 =>
  stK 420033 T8 x31_15 x29_13 fun T9 =>
  bsK 420039 T9 n8 3 3 1 [(0, x20_7), (1, x8_1), (2, x24_9)] fun x37_16 T10 n10 =>
  callK (g26 ro a0 (.lit (.int .i64 (.ofNat 20))) x15_5 (.lit (.string ⟨⟨[]⟩⟩)) x37_16 T10 n10) fun x38_17 T11 n11 =>
  .ok (.val x38_17) T11 n11
 )
theorem g42_ok (ih : FuncId → List HT → List AV → HT → Nat → R) (hI : ∀ f ro args T nx, GOk Tryd.prog envE f args ro T nx (ih f ro args T nx)) (ro : List HT) (a0 : AV) (T : HT) (nx : Nat) : GOk Tryd.prog envE 42 [a0] ro T nx (g42 ih ro a0 T nx) := by
 refine GOk.of_body Tryd.func42 rfl Tryd.ntmps42 (by kernel_rfl) rfl fun r T' n' h1 w0 base ρ0 its hS hP => ?_
 have X : CtxW envE ρ0 ro r T' n' := trivial
 unfold g42 at h1
 refine sr ?_
 refine as_ ?_
 refine dn ?_
 refine sr ?_
 refine mv ?_
 refine LV.call hS h1 (hI _ _ _ _ _) hP rfl rfl rfl rfl fun x8_1 T1 n1 h2 ρ its hS => ?_
 refine as_ ?_
 refine dn ?_
 refine CV.seq ?_
 refine sr ?_
 refine mv ?_
 refine LV.bslice hS h2 rfl rfl Paf.el33 rfl rfl rfl rfl fun x10_2 T2 n2 h3 ρ its hS hdr => ?_
 refine LV.call hS h3 (g35_ok _ _ _ _ _ ) hP rfl rfl rfl rfl fun x11_3 T3 n3 h4 ρ its hS => ?_
 refine vy (V.not h4 rfl) fun x12_4 h5 => ?_
 refine dn ?_
 refine CV.cond h5 rfl (fun e h6 => ?_) (fun e h6 => ?_)
 ·
  clear h1 h2 h3 h4 h5
  subst e
  refine sr ?_
  refine mv ?_
  refine as_ ?_
  refine dn ?_
  refine CV.ret ?_
  refine PV.thenR ?_
  cases h6
  exact PV.ret (by simp) Tryd.results42 hS (RS.tmp rfl RS.nil) rfl
 ·
  clear h1 h2 h3 h4 h5
  subst e
  refine CV.skip ?_
  refine PV.thenN ?_
  refine sr ?_
  refine mv ?_
  refine LV.call hS h6 (g57_ok _ _ _ _ _ ) hP rfl rfl rfl rfl fun x15_5 T4 n4 h7 ρ its hS => ?_
  refine as_ ?_
  refine dn ?_
  refine sr ?_
  refine mv ?_
  refine mv ?_
  refine LV.call hS h7 (g56_ok _ _ _ _ _ ) hP rfl rfl rfl rfl fun x18_6 T5 n5 h8 ρ its hS => ?_
  refine dn ?_
  refine sr ?_
  refine mv ?_
  refine LV.call hS h8 (hI _ _ _ _ _) hP rfl rfl rfl rfl fun x20_7 T6 n6 h9 ρ its hS => ?_
  refine as_ ?_
  refine dn ?_
  refine sr ?_
  refine mv ?_
  refine LV.call hS h9 (g57_ok _ _ _ _ _ ) hP rfl rfl rfl rfl fun x22_8 T7 n7 h10 ρ its hS => ?_
  refine dn ?_
  refine sr ?_
  refine mv ?_
  refine LV.call hS h10 (hI _ _ _ _ _) hP rfl rfl rfl rfl fun x24_9 T8 n8 h11 ρ its hS => ?_
  refine as_ ?_
  refine dn ?_
  refine sr ?_
  refine mv ?_
  refine vy (V.nc h11 rfl) fun x26_10 h12 => ?_
  refine vy (V.fa h12 rfl Paf.fo49_3) fun x27_11 h13 => ?_
  refine vy (V.ld hS h13 rfl Paf.one3) fun x28_12 h14 => ?_
  refine vy (V.sub h14 rfl rfl) fun x29_13 h15 => ?_
  refine vy (V.nc h15 rfl) fun x30_14 h16 => ?_
  refine vy (V.fa h16 rfl Paf.fo49_3) fun x31_15 h17 => ?_
  refine LV.st hS h17 rfl rfl rfl Paf.siz3 rfl rfl fun T9 its h18 hS => ?_
  refine dn ?_
  refine sr ?_
  refine mv ?_
  refine mv ?_
  refine mv ?_
  refine mv ?_
  refine mv ?_
  refine LV.bslice hS h18 rfl rfl Paf.el29 rfl rfl rfl rfl fun x37_16 T10 n10 h19 ρ its hS hdr => ?_
  refine LV.call hS h19 (g26_ok _ _ _ _ _ _ _ _ ) hP rfl rfl rfl rfl fun x38_17 T11 n11 h20 ρ its hS => ?_
  refine as_ ?_
  refine dn ?_
  refine CV.ret ?_
  cases h20
  exact PV.ret (by simp) Tryd.results42 hS (RS.tmp rfl RS.nil) rfl
noncomputable def g55_k1 (ih : FuncId → List HT → List AV → HT → Nat → R) (ro : List HT) (y0 y2 y3 : AV) (T3 : HT) (n3 : Nat) : R :=
 ncK 550008 y0 fun x46_3 =>
 faK 550009 x46_3 3 fun x47_4 =>
 ldK 550010 T3 ro x47_4 fun x48_5 =>
 subK Tryd.prog 3 (.tmp 48) (.const (.int .i64 (.ofNat 1))) 550011 x48_5 (.lit (.int .i64 (.ofNat 1))) fun x49_6 =>
 ncK 550012 y0 fun x50_7 =>
 faK 550013 x50_7 3 fun x51_8 =>
 stK 550014 T3 x51_8 x49_6 fun T4 =>
 ncK 550017 y0 fun x54_9 =>
 faK 550018 x54_9 2 fun x55_10 =>
 ldK 550019 T4 ro x55_10 fun x56_11 =>
 iaK 550021 y3 (.lit (.int .i64 (.ofNat 0))) 1 fun x58_12 =>
 ldK 550022 T4 ro x58_12 fun x59_13 =>
 iaK 550023 x56_11 x59_13 5 fun x60_14 =>
 faK 550024 x60_14 2 fun x61_15 =>
 ldK 550025 T4 ro x61_15 fun x62_16 =>
 callK (g26 ro y0 (.lit (.int .i64 (.ofNat 47))) x62_16 (.lit (.string ⟨⟨[]⟩⟩)) y3 T4 n3) fun x64_17 T5 n5 =>
 .ok (.val x64_17) T5 n5
noncomputable def g55_k3 (ih : FuncId → List HT → List AV → HT → Nat → R) (ro : List HT) (lp2 : AV → AV → AV → HT → Nat → R) (y0 y2 y3 y27 : AV) (T10 : HT) (n10 : Nat) : R :=
 condK 550048 y27
 (
  callK (ih 25 ro [y0, (.lit (.bool false))] T10 n10) fun x30_29 T11 n11 =>
  bsK 550052 T11 n11 1 3 1 [(0, x30_29)] fun x31_30 T12 n12 =>
  appK 550053 T12 ro n12 3 1 8 y3 x31_30 fun x32_31 T13 n13 =>
  lp2 y0 y2 x32_31 T13 n13
 )
 (
  ncK 550056 y0 fun x34_32 =>
  faK 550057 x34_32 1 fun x35_33 =>
  ldK 550058 T10 ro x35_33 fun x36_34 =>
  addK Tryd.prog 3 (.tmp 36) (.const (.int .i64 (.ofNat 1))) 550059 x36_34 (.lit (.int .i64 (.ofNat 1))) fun x37_35 =>
  ncK 550060 y0 fun x38_36 =>
  faK 550061 x38_36 1 fun x39_37 =>
  stK 550062 T10 x39_37 x37_35 fun T14 =>
  g55_k1 ih ro y0 y2 y3 T14 n10
 )
noncomputable def g55_b2 (ih : FuncId → List HT → List AV → HT → Nat → R) (ro : List HT) (lp2 : AV → AV → AV → HT → Nat → R) (y0 y2 y3 : AV) (T9 : HT) (n9 : Nat) : R :=
 lenSK 550045 y3 fun x21_27 =>
 eqK Tryd.prog 3 (.tmp 21) (.const (.int .i64 (.ofNat 0))) 550046 x21_27 (.lit (.int .i64 (.ofNat 0))) fun x22_28 =>
 condK 550063 x22_28
 (
  g55_k3 ih ro lp2 y0 y2 y3 (.lit (.bool true)) T9 n9
 )
 (
  callK (g21 ro y0 T9 n9) fun x25_38 T15 n15 =>
  neK Tryd.prog 3 (.tmp 25) (.const (.int .i64 (.ofNat 7))) 550067 x25_38 (.lit (.int .i64 (.ofNat 7))) fun x26_39 =>
  g55_k3 ih ro lp2 y0 y2 y3 x26_39 T15 n15
 )
noncomputable def g55 (ih : FuncId → List HT → List AV → HT → Nat → R) (ro : List HT) (a0 : AV) (T : HT) (nx : Nat) : R :=
 callK (g57 ro a0 (.lit (.string ⟨⟨[58]⟩⟩)) T nx) fun x6_1 T1 n1 =>
 callK (g56 ro a0 x6_1 T1 n1) fun x7_2 T2 n2 =>
 callK (g21 ro a0 T2 n2) fun x9_18 T6 n6 =>
 eqK Tryd.prog 3 (.tmp 9) (.const (.int .i64 (.ofNat 5))) 550031 x9_18 (.lit (.int .i64 (.ofNat 5))) fun x10_19 =>
 condK 550032 x10_19
 (
  ncK 550034 a0 fun x12_20 =>
  faK 550035 x12_20 1 fun x13_21 =>
  ldK 550036 T6 ro x13_21 fun x14_22 =>
  addK Tryd.prog 3 (.tmp 14) (.const (.int .i64 (.ofNat 1))) 550037 x14_22 (.lit (.int .i64 (.ofNat 1))) fun x15_23 =>
  ncK 550038 a0 fun x16_24 =>
  faK 550039 x16_24 1 fun x17_25 =>
  stK 550040 T6 x17_25 x15_23 fun T7 =>
  callK (g22 ro a0 (.lit (.int .i64 (.ofNat 6))) T7 n6) fun x19_26 T8 n8 =>
  lpf3 550043 (g55_b2 ih ro) 100000 a0 (.lit (.int .i64 (.ofNat 0))) (.lit (.slice none 0 0)) T8 n8
 )
 (
  callK (ih 39 ro [a0, (.lit (.bool false))] T6 n6) fun x41_40 T16 n16 =>
  bsK 550071 T16 n16 1 3 1 [(0, x41_40)] fun x42_41 T17 n17 =>
  callK (g22 ro a0 (.lit (.int .i64 (.ofNat 5))) T17 n17) fun x44_42 T18 n18 =>
  g55_k1 ih ro a0 (.lit (.int .i64 (.ofNat 0))) x42_41 T18 n18
 )
theorem g55_ok (ih : FuncId → List HT → List AV → HT → Nat → R) (hI : ∀ f ro args T nx, GOk Tryd.prog envE f args ro T nx (ih f ro args T nx)) (ro : List HT) (a0 : AV) (T : HT) (nx : Nat) : GOk Tryd.prog envE 55 [a0] ro T nx (g55 ih ro a0 T nx) := by
 refine GOk.of_body Tryd.func55 rfl Tryd.ntmps55 (by kernel_rfl) rfl fun r T' n' h1 w0 base ρ0 its hS hP => ?_
 have X : CtxW envE ρ0 ro r T' n' := trivial
 unfold g55 at h1
 refine sr ?_
 refine as_ ?_
 refine dn ?_
 refine sr ?_
 refine mv ?_
 refine mv ?_
 refine LV.call hS h1 (g57_ok _ _ _ _ _ ) hP rfl rfl rfl rfl fun x6_1 T1 n1 h2 ρ its hS => ?_
 refine LV.call hS h2 (g56_ok _ _ _ _ _ ) hP rfl rfl rfl rfl fun x7_2 T2 n2 h3 ρ its hS => ?_
 refine dn ?_
 refine sr ?_
 refine as_ ?_
 refine dn ?_
 refine cs3 X 0 2 3 [] (g55_k1 ih ro) ?_ ?_
 ·
  refine sr ?_
  refine mv ?_
  refine LV.call hS h3 (g21_ok _ _ _ _ ) hP rfl rfl rfl rfl fun x9_18 T6 n6 h21 ρ its hS => ?_
  refine vy (V.eq h21 rfl rfl) fun x10_19 h22 => ?_
  refine dn ?_
  refine CV.cond h22 rfl (fun e h23 => ?_) (fun e h23 => ?_)
  ·
   clear h1 h2 h3 h21 h22
   subst e
   refine sr ?_
   refine mv ?_
   refine vy (V.nc h23 rfl) fun x12_20 h24 => ?_
   refine vy (V.fa h24 rfl Paf.fo49_1) fun x13_21 h25 => ?_
   refine vy (V.ld hS h25 rfl Paf.one3) fun x14_22 h26 => ?_
   refine vy (V.add h26 rfl rfl) fun x15_23 h27 => ?_
   refine vy (V.nc h27 rfl) fun x16_24 h28 => ?_
   refine vy (V.fa h28 rfl Paf.fo49_1) fun x17_25 h29 => ?_
   refine LV.st hS h29 rfl rfl rfl Paf.siz3 rfl rfl fun T7 its h30 hS => ?_
   refine dn ?_
   refine sr ?_
   refine mv ?_
   refine LV.call hS h30 (g22_ok _ _ _ _ _ ) hP rfl rfl rfl rfl fun x19_26 T8 n8 h31 ρ its hS => ?_
   refine dn ?_
   refine CV.seq ?_
   refine CV.block ?_
   refine cl3 X 0 2 3 [] hS h31 ⟨rfl, rfl, rfl, trivial⟩ ?_
   intro f2 y0 y2 y3 T9 n9 ρ its hS h32
   unfold g55_b2 at h32
   clear h23 h24 h25 h26 h27 h28 h29 h30 h31
   refine CV.seq ?_
   refine sr ?_
   refine mv ?_
   refine vy (V.lenS h32 rfl Paf.ls29) fun x21_27 h33 => ?_
   refine vy (V.eq h33 rfl rfl) fun x22_28 h34 => ?_
   refine mv ?_
   refine ls4 X 0 2 3 27 [] (g55_k3 ih ro (lpf3 550043 (g55_b2 ih ro) f2)) 4 ?_ ?_
   ·
    rcases condK_inv h34 with ⟨e, h47⟩ | ⟨e, h47⟩
    ·
     clear h32 h33 h34
     subst e
     refine sk ?_
     refine sk ?_
     refine sk ?_
     refine pu ?_
     exact la4 hS h47 ⟨rfl, rfl, rfl, rfl, trivial⟩
    ·
     clear h32 h33 h34
     subst e
     refine mv ?_
     refine LV.call hS h47 (g21_ok _ _ _ _ ) hP rfl rfl rfl rfl fun x25_38 T15 n15 h48 ρ its hS => ?_
     refine vy (V.ne h48 rfl rfl) fun x26_39 h49 => ?_
     refine pu ?_
     exact la4 hS h49 ⟨rfl, rfl, rfl, rfl, trivial⟩
   ·
    intro y0 y2 y3 y27 T10 n10 ρ its hS h35
    unfold g55_k3 at h35
    clear h32 h33 h34
    refine dn ?_
    refine CV.cond h35 rfl (fun e h36 => ?_) (fun e h36 => ?_)
    ·
     clear h35
     subst e
     refine CV.skip ?_
     refine PV.thenN ?_
     refine CV.block ?_
     refine CV.region ?_
     refine mv ?_
     refine mv ?_
     refine LV.call hS h36 (hI _ _ _ _ _) hP rfl rfl rfl rfl fun x30_29 T11 n11 h37 ρ its hS => ?_
     refine LV.bslice hS h37 rfl rfl Paf.el29 rfl rfl rfl rfl fun x31_30 T12 n12 h38 ρ its hS hdr => ?_
     refine LV.app hS h38 rfl rfl rfl rfl Paf.el29 rfl rfl rfl fun x32_31 T13 n13 h39 ρ its hS => ?_
     refine as_ ?_
     refine LV.done ?_
     refine PV.blockN ?_
     exact pb3 hS h39 ⟨rfl, rfl, rfl, trivial⟩
    ·
     clear h35
     subst e
     refine CV.exit ?_
     refine PV.thenE ?_
     refine PV.thenE ?_
     refine PV.blockE ?_
     refine PV.thenN ?_
     refine CV.region ?_
     refine mv ?_
     refine vy (V.nc h36 rfl) fun x34_32 h40 => ?_
     refine vy (V.fa h40 rfl Paf.fo49_1) fun x35_33 h41 => ?_
     refine vy (V.ld hS h41 rfl Paf.one3) fun x36_34 h42 => ?_
     refine vy (V.add h42 rfl rfl) fun x37_35 h43 => ?_
     refine vy (V.nc h43 rfl) fun x38_36 h44 => ?_
     refine vy (V.fa h44 rfl Paf.fo49_1) fun x39_37 h45 => ?_
     refine LV.st hS h45 rfl rfl rfl Paf.siz3 rfl rfl fun T14 its h46 hS => ?_
     refine LV.done ?_
     exact pa3 hS h46 ⟨rfl, rfl, rfl, trivial⟩
  ·
   clear h1 h2 h3 h21 h22
   subst e
   refine sr ?_
   refine mv ?_
   refine LV.call hS h23 (hI _ _ _ _ _) hP rfl rfl rfl rfl fun x41_40 T16 n16 h50 ρ its hS => ?_
   refine LV.bslice hS h50 rfl rfl Paf.el29 rfl rfl rfl rfl fun x42_41 T17 n17 h51 ρ its hS hdr => ?_
   refine as_ ?_
   refine dn ?_
   refine CV.region ?_
   refine mv ?_
   refine LV.call hS h51 (g22_ok _ _ _ _ _ ) hP rfl rfl rfl rfl fun x44_42 T18 n18 h52 ρ its hS => ?_
   refine LV.done ?_
   exact pa3 hS h52 ⟨rfl, rfl, rfl, trivial⟩
 ·
  intro y0 y2 y3 T3 n3 ρ its hS h4
  unfold g55_k1 at h4
  clear h1 h2 h3
  refine sr ?_
  refine mv ?_
  refine vy (V.nc h4 rfl) fun x46_3 h5 => ?_
  refine vy (V.fa h5 rfl Paf.fo49_3) fun x47_4 h6 => ?_
  refine vy (V.ld hS h6 rfl Paf.one3) fun x48_5 h7 => ?_
  refine vy (V.sub h7 rfl rfl) fun x49_6 h8 => ?_
  refine vy (V.nc h8 rfl) fun x50_7 h9 => ?_
  refine vy (V.fa h9 rfl Paf.fo49_3) fun x51_8 h10 => ?_
  refine LV.st hS h10 rfl rfl rfl Paf.siz3 rfl rfl fun T4 its h11 hS => ?_
  refine dn ?_
  refine CV.seq ?_
  refine CV.regionM [(0, .anywhere), (1, .anywhere), (2, .anywhere), (3, .anywhere), (4, .held), (5, .anywhere), (6, .anywhere), (7, .held), (8, .held), (9, .held), (10, .held), (11, .anywhere), (12, .alone), (13, .alone)] rfl (fun c a a' w hd hq => PanicOk.root (P := Tryd.prog) (fn := Tryd.f55) (w0 := w0) (base := base) (E := envE) (ro := ro) (r := r) (T' := T') (n' := n') (ρ0 := ρ0) c a a' w hd hq) (by kernel_rfl) ?_
  refine MV.step0 (i := 0) rfl (VAL.move rfl) rfl rfl rfl ?_
  refine MV.step0 (i := 1) rfl (VAL.move rfl) rfl rfl rfl ?_
  refine MV.lift0 (i := 2) rfl (V.nc h11 rfl) rfl rfl rfl fun x54_9 h12 => ?_
  refine MV.lift0 (i := 3) rfl (V.fa h12 rfl Paf.fo49_2) rfl rfl rfl fun x55_10 h13 => ?_
  refine MV.lift1 (i := 4) rfl (fun _ z => z) (V.ld hS h13 rfl Paf.one23) rfl rfl rfl [] (by kernel_rfl) fun x56_11 h14 => ?_
  refine MV.step0 (i := 5) rfl (VAL.move rfl) rfl rfl rfl ?_
  refine MV.lift0 (i := 6) rfl (V.ia h14 rfl rfl Paf.el29) rfl rfl rfl fun x58_12 h15 => ?_
  refine MV.lift1 (i := 7) rfl (fun _ z => z) (V.ld hS h15 rfl Paf.one3) rfl rfl rfl [4] (by kernel_rfl) fun x59_13 h16 => ?_
  refine MV.lift1 (i := 8) rfl (fun _ z => z) (V.ia h16 rfl rfl Paf.el23) rfl rfl rfl [] (by kernel_rfl) fun x60_14 h17 => ?_
  refine MV.lift1 (i := 9) rfl (fun _ z => z) (V.fa h17 rfl Paf.fo31_2) rfl rfl rfl [] (by kernel_rfl) fun x61_15 h18 => ?_
  refine MV.lift1 (i := 10) rfl (fun _ z => z) (V.ld hS h18 rfl Paf.one3) rfl rfl rfl [] (by kernel_rfl) fun x62_16 h19 => ?_
  refine MV.step0 (i := 11) rfl (VAL.move rfl) rfl rfl rfl ?_
  refine MV.force (i := 12) rfl ?_
  refine LV.call hS h19 (g26_ok _ _ _ _ _ _ _ _ ) hP rfl rfl rfl rfl fun x64_17 T5 n5 h20 ρ its hS => ?_
  refine LV.nextM [] (by kernel_rfl) (fun z => absurd rfl z) ?_
  refine MV.force (i := 13) rfl ?_
  refine as_ ?_
  refine LV.nextM [] (by kernel_rfl) (fun z => absurd rfl z) ?_
  refine mdn ?_
  refine CV.ret ?_
  cases h20
  exact PV.ret (by simp) Tryd.results55 hS (RS.tmp rfl RS.nil) rfl
noncomputable def g58 (ih : FuncId → List HT → List AV → HT → Nat → R) (ro : List HT) (a0 a1 : AV) (T : HT) (nx : Nat) : R :=
 callK (ih 74 ro [a0, a1] T nx) fun x10_1 T1 n1 =>
 exK 580006 x10_1 0 fun x11_2 =>
 exK 580007 x10_1 1 fun x12_3 =>
 .ok (.val x11_2) T1 n1
theorem g58_ok (ih : FuncId → List HT → List AV → HT → Nat → R) (hI : ∀ f ro args T nx, GOk Tryd.prog envE f args ro T nx (ih f ro args T nx)) (ro : List HT) (a0 a1 : AV) (T : HT) (nx : Nat) : GOk Tryd.prog envE 58 [a0, a1] ro T nx (g58 ih ro a0 a1 T nx) := by
 refine GOk.of_body Tryd.func58 rfl Tryd.ntmps58 (by kernel_rfl) rfl fun r T' n' h1 w0 base ρ0 its hS hP => ?_
 have X : CtxW envE ρ0 ro r T' n' := trivial
 unfold g58 at h1
 refine sr ?_
 refine as_ ?_
 refine dn ?_
 refine sr ?_
 refine mv ?_
 refine mv ?_
 refine LV.call hS h1 (hI _ _ _ _ _) hP rfl rfl rfl rfl fun x10_1 T1 n1 h2 ρ its hS => ?_
 refine mv ?_
 refine vy (V.ex h2 rfl) fun x11_2 h3 => ?_
 refine vy (V.ex h3 rfl) fun x12_3 h4 => ?_
 refine as_ ?_
 refine as_ ?_
 refine dn ?_
 refine sr ?_
 refine mv ?_
 refine as_ ?_
 refine dn ?_
 refine CV.ret ?_
 cases h4
 exact PV.ret (by simp) Tryd.results58 hS (RS.tmp rfl RS.nil) rfl
noncomputable def g60_k1 (ih : FuncId → List HT → List AV → HT → Nat → R) (ro : List HT) (y0 y2 : AV) (T1 : HT) (n1 : Nat) : R :=
 callK (g57 ro y0 (.lit (.string ⟨⟨[114, 101, 116, 117, 114, 110]⟩⟩)) T1 n1) fun x12_1 T2 n2 =>
 callK (g21 ro y0 T2 n2) fun x14_2 T3 n3 =>
 eqK Tryd.prog 3 (.tmp 14) (.const (.int .i64 (.ofNat 5))) 600007 x14_2 (.lit (.int .i64 (.ofNat 5))) fun x15_3 =>
 condK 600008 x15_3
 (
  callK (g26 ro y0 (.lit (.int .i64 (.ofNat 41))) x12_1 (.lit (.string ⟨⟨[]⟩⟩)) (.lit (.slice none 0 0)) T3 n3) fun x18_4 T4 n4 =>
  .ok (.val x18_4) T4 n4
 )
 (
  callK (ih 20 ro [y0] T3 n3) fun x22_5 T5 n5 =>
  bsK 600017 T5 n5 1 3 1 [(0, x22_5)] fun x23_6 T6 n6 =>
  callK (g26 ro y0 (.lit (.int .i64 (.ofNat 41))) x12_1 (.lit (.string ⟨⟨[]⟩⟩)) x23_6 T6 n6) fun x24_7 T7 n7 =>
  .ok (.val x24_7) T7 n7
 )
noncomputable def g60 (ih : FuncId → List HT → List AV → HT → Nat → R) (ro : List HT) (a0 : AV) (T : HT) (nx : Nat) : R :=
 ncK 600021 a0 fun x5_8 =>
 faK 600022 x5_8 4 fun x6_9 =>
 ldK 600023 T ro x6_9 fun x7_10 =>
 notK 600024 x7_10 fun x8_11 =>
 condK 600025 x8_11
 (
  callK (g30 ro a0 T nx) fun x10_12 T8 n8 =>
  g60_k1 ih ro a0 (.lit (.int .i64 (.ofNat 0))) T8 n8
 )
 (
  g60_k1 ih ro a0 (.lit (.int .i64 (.ofNat 0))) T nx
 )
theorem g60_ok (ih : FuncId → List HT → List AV → HT → Nat → R) (hI : ∀ f ro args T nx, GOk Tryd.prog envE f args ro T nx (ih f ro args T nx)) (ro : List HT) (a0 : AV) (T : HT) (nx : Nat) : GOk Tryd.prog envE 60 [a0] ro T nx (g60 ih ro a0 T nx) := by
 refine GOk.of_body Tryd.func60 rfl Tryd.ntmps60 (by kernel_rfl) rfl fun r T' n' h1 w0 base ρ0 its hS hP => ?_
 have X : CtxW envE ρ0 ro r T' n' := trivial
 unfold g60 at h1
 refine sr ?_
 refine as_ ?_
 refine dn ?_
 refine cs2 X 0 2 [] (g60_k1 ih ro) ?_ ?_
 ·
  refine sr ?_
  refine mv ?_
  refine vy (V.nc h1 rfl) fun x5_8 h11 => ?_
  refine vy (V.fa h11 rfl Paf.fo49_4) fun x6_9 h12 => ?_
  refine vy (V.ld hS h12 rfl Paf.one4) fun x7_10 h13 => ?_
  refine vy (V.not h13 rfl) fun x8_11 h14 => ?_
  refine dn ?_
  refine CV.cond h14 rfl (fun e h15 => ?_) (fun e h15 => ?_)
  ·
   clear h1 h11 h12 h13 h14
   subst e
   refine CV.region ?_
   refine mv ?_
   refine LV.call hS h15 (g30_ok _ _ _ _ ) hP rfl rfl rfl rfl fun x10_12 T8 n8 h16 ρ its hS => ?_
   refine LV.done ?_
   exact pa2 hS h16 ⟨rfl, rfl, trivial⟩
  ·
   clear h1 h11 h12 h13 h14
   subst e
   refine CV.skip ?_
   exact pa2 hS h15 ⟨rfl, rfl, trivial⟩
 ·
  intro y0 y2 T1 n1 ρ its hS h2
  unfold g60_k1 at h2
  clear h1
  refine sr ?_
  refine mv ?_
  refine LV.call hS h2 (g57_ok _ _ _ _ _ ) hP rfl rfl rfl rfl fun x12_1 T2 n2 h3 ρ its hS => ?_
  refine as_ ?_
  refine dn ?_
  refine CV.seq ?_
  refine sr ?_
  refine mv ?_
  refine LV.call hS h3 (g21_ok _ _ _ _ ) hP rfl rfl rfl rfl fun x14_2 T3 n3 h4 ρ its hS => ?_
  refine vy (V.eq h4 rfl rfl) fun x15_3 h5 => ?_
  refine dn ?_
  refine CV.cond h5 rfl (fun e h6 => ?_) (fun e h6 => ?_)
  ·
   clear h2 h3 h4 h5
   subst e
   refine sr ?_
   refine mv ?_
   refine mv ?_
   refine LV.call hS h6 (g26_ok _ _ _ _ _ _ _ _ ) hP rfl rfl rfl rfl fun x18_4 T4 n4 h7 ρ its hS => ?_
   refine as_ ?_
   refine dn ?_
   refine CV.ret ?_
   refine PV.thenR ?_
   cases h7
   exact PV.ret (by simp) Tryd.results60 hS (RS.tmp rfl RS.nil) rfl
  ·
   clear h2 h3 h4 h5
   subst e
   refine CV.skip ?_
   refine PV.thenN ?_
   refine sr ?_
   refine mv ?_
   refine mv ?_
   refine mv ?_
   refine LV.call hS h6 (hI _ _ _ _ _) hP rfl rfl rfl rfl fun x22_5 T5 n5 h8 ρ its hS => ?_
   refine LV.bslice hS h8 rfl rfl Paf.el29 rfl rfl rfl rfl fun x23_6 T6 n6 h9 ρ its hS hdr => ?_
   refine LV.call hS h9 (g26_ok _ _ _ _ _ _ _ _ ) hP rfl rfl rfl rfl fun x24_7 T7 n7 h10 ρ its hS => ?_
   refine as_ ?_
   refine dn ?_
   refine CV.ret ?_
   cases h10
   exact PV.ret (by simp) Tryd.results60 hS (RS.tmp rfl RS.nil) rfl
noncomputable def g65 (ih : FuncId → List HT → List AV → HT → Nat → R) (ro : List HT) (a0 : AV) (T : HT) (nx : Nat) : R :=
 bsK 650005 T nx 1 9 1 [(0, (.lit (.string ⟨⟨[111, 114]⟩⟩)))] fun x6_1 T1 n1 =>
 callK (ih 76 ro [a0, (.fn (.func 77) [a0] []), x6_1] T1 n1) fun x7_2 T2 n2 =>
 .ok (.val x7_2) T2 n2
theorem g65_ok (ih : FuncId → List HT → List AV → HT → Nat → R) (hI : ∀ f ro args T nx, GOk Tryd.prog envE f args ro T nx (ih f ro args T nx)) (ro : List HT) (a0 : AV) (T : HT) (nx : Nat) : GOk Tryd.prog envE 65 [a0] ro T nx (g65 ih ro a0 T nx) := by
 refine GOk.of_body Tryd.func65 rfl Tryd.ntmps65 (by kernel_rfl) rfl fun r T' n' h1 w0 base ρ0 its hS hP => ?_
 have X : CtxW envE ρ0 ro r T' n' := trivial
 unfold g65 at h1
 refine sr ?_
 refine as_ ?_
 refine dn ?_
 refine sr ?_
 refine mv ?_
 refine mv ?_
 refine pu ?_
 refine LV.bslice hS h1 rfl rfl Paf.el33 rfl rfl rfl rfl fun x6_1 T1 n1 h2 ρ its hS hdr => ?_
 refine LV.call hS h2 (hI _ _ _ _ _) hP rfl rfl rfl rfl fun x7_2 T2 n2 h3 ρ its hS => ?_
 refine as_ ?_
 refine dn ?_
 refine CV.ret ?_
 cases h3
 exact PV.ret (by simp) Tryd.results65 hS (RS.tmp rfl RS.nil) rfl
noncomputable def g74_k1 (ih : FuncId → List HT → List AV → HT → Nat → R) (ro : List HT) (y0 y4 y5 y6 y7 y8 : AV) (T4 : HT) (n4 : Nat) : R :=
 notK 740012 y8 fun x26_4 =>
 condK 740013 x26_4
 (
  iaK 740015 y7 (.lit (.int .i64 (.ofNat 0))) 1 fun x28_5 =>
  ldK 740016 T4 ro x28_5 fun x29_6 =>
  .ok (.val (.tup [x29_6, (.lit (.bool false))])) T4 n4
 )
 (
  callK (g26 ro y0 (.lit (.int .i64 (.ofNat 8))) y6 (.lit (.string ⟨⟨[]⟩⟩)) y7 T4 n4) fun x33_7 T5 n5 =>
  .ok (.val (.tup [x33_7, (.lit (.bool true))])) T5 n5
 )
noncomputable def g74_b2 (ih : FuncId → List HT → List AV → HT → Nat → R) (ro : List HT) (lp2 : AV → AV → AV → AV → AV → AV → AV → HT → Nat → R) (y0 y1 y4 y5 y6 y7 y8 : AV) (T6 : HT) (n6 : Nat) : R :=
 callK (g43 ro y0 (.lit (.string ⟨⟨[44]⟩⟩)) T6 n6) fun x15_8 T7 n7 =>
 condK 740028 x15_8
 (
  bsK 740032 T7 n7 1 9 1 [(0, y1)] fun x18_9 T8 n8 =>
  callK (g35 ro y0 x18_9 T8 n8) fun x19_10 T9 n9 =>
  condK 740034 x19_10
  (
   g74_k1 ih ro y0 y4 y5 y6 y7 (.lit (.bool true)) T9 n9
  )
  (
   callK (ih 83 ro [y0] T9 n9) fun x22_11 T10 n10 =>
   bsK 740038 T10 n10 1 3 1 [(0, x22_11)] fun x23_12 T11 n11 =>
   appK 740039 T11 ro n11 3 1 8 y7 x23_12 fun x24_13 T12 n12 =>
   lp2 y0 y1 y4 y5 y6 x24_13 (.lit (.bool true)) T12 n12
  )
 )
 (
  g74_k1 ih ro y0 y4 y5 y6 y7 y8 T7 n7
 )
noncomputable def g74 (ih : FuncId → List HT → List AV → HT → Nat → R) (ro : List HT) (a0 a1 : AV) (T : HT) (nx : Nat) : R :=
 callK (g41 ro a0 T nx) fun x10_1 T1 n1 =>
 callK (ih 83 ro [a0] T1 n1) fun x12_2 T2 n2 =>
 bsK 740008 T2 n2 1 3 1 [(0, x12_2)] fun x13_3 T3 n3 =>
 lpf7 740025 (g74_b2 ih ro) 100000 a0 a1 (.lit (.int .i64 (.ofNat 0))) (.lit (.bool false)) x10_1 x13_3 (.lit (.bool false)) T3 n3
theorem g74_ok (ih : FuncId → List HT → List AV → HT → Nat → R) (hI : ∀ f ro args T nx, GOk Tryd.prog envE f args ro T nx (ih f ro args T nx)) (ro : List HT) (a0 a1 : AV) (T : HT) (nx : Nat) : GOk Tryd.prog envE 74 [a0, a1] ro T nx (g74 ih ro a0 a1 T nx) := by
 refine GOk.of_body Tryd.func74 rfl Tryd.ntmps74 (by kernel_rfl) rfl fun r T' n' h1 w0 base ρ0 its hS hP => ?_
 have X : CtxW envE ρ0 ro r T' n' := trivial
 unfold g74 at h1
 refine sr ?_
 refine as_ ?_
 refine as_ ?_
 refine dn ?_
 refine sr ?_
 refine mv ?_
 refine LV.call hS h1 (g41_ok _ _ _ _ ) hP rfl rfl rfl rfl fun x10_1 T1 n1 h2 ρ its hS => ?_
 refine as_ ?_
 refine dn ?_
 refine sr ?_
 refine mv ?_
 refine LV.call hS h2 (hI _ _ _ _ _) hP rfl rfl rfl rfl fun x12_2 T2 n2 h3 ρ its hS => ?_
 refine LV.bslice hS h3 rfl rfl Paf.el29 rfl rfl rfl rfl fun x13_3 T3 n3 h4 ρ its hS hdr => ?_
 refine as_ ?_
 refine dn ?_
 refine sr ?_
 refine as_ ?_
 refine dn ?_
 refine cs6 X 0 4 5 6 7 8 [] (g74_k1 ih ro) ?_ ?_
 ·
  refine CV.block ?_
  refine cl7 X 0 1 4 5 6 7 8 [] hS h4 ⟨rfl, rfl, rfl, rfl, rfl, rfl, rfl, trivial⟩ ?_
  intro f2 y0 y1 y4 y5 y6 y7 y8 T6 n6 ρ its hS h11
  unfold g74_b2 at h11
  clear h1 h2 h3 h4
  refine CV.seq ?_
  refine sr ?_
  refine mv ?_
  refine LV.call hS h11 (g43_ok _ _ _ _ _ ) hP rfl rfl rfl rfl fun x15_8 T7 n7 h12 ρ its hS => ?_
  refine dn ?_
  refine CV.cond h12 rfl (fun e h13 => ?_) (fun e h13 => ?_)
  ·
   clear h11 h12
   subst e
   refine CV.skip ?_
   refine PV.thenN ?_
   refine CV.block ?_
   refine sr ?_
   refine as_ ?_
   refine dn ?_
   refine CV.seq ?_
   refine sr ?_
   refine mv ?_
   refine mv ?_
   refine LV.bslice hS h13 rfl rfl Paf.el33 rfl rfl rfl rfl fun x18_9 T8 n8 h14 ρ its hS hdr => ?_
   refine LV.call hS h14 (g35_ok _ _ _ _ _ ) hP rfl rfl rfl rfl fun x19_10 T9 n9 h15 ρ its hS => ?_
   refine dn ?_
   refine CV.cond h15 rfl (fun e h16 => ?_) (fun e h16 => ?_)
   ·
    clear h13 h14 h15
    subst e
    refine CV.exit ?_
    refine PV.thenE ?_
    refine PV.blockO rfl ?_
    refine PV.thenE ?_
    refine PV.blockE ?_
    exact pa6 hS h16 ⟨rfl, rfl, rfl, rfl, rfl, rfl, trivial⟩
   ·
    clear h13 h14 h15
    subst e
    refine CV.skip ?_
    refine PV.thenN ?_
    refine CV.region ?_
    refine mv ?_
    refine mv ?_
    refine LV.call hS h16 (hI _ _ _ _ _) hP rfl rfl rfl rfl fun x22_11 T10 n10 h17 ρ its hS => ?_
    refine LV.bslice hS h17 rfl rfl Paf.el29 rfl rfl rfl rfl fun x23_12 T11 n11 h18 ρ its hS hdr => ?_
    refine LV.app hS h18 rfl rfl rfl rfl Paf.el29 rfl rfl rfl fun x24_13 T12 n12 h19 ρ its hS => ?_
    refine as_ ?_
    refine LV.done ?_
    refine PV.blockN ?_
    exact pb7 hS h19 ⟨rfl, rfl, rfl, rfl, rfl, rfl, rfl, trivial⟩
  ·
   clear h11 h12
   subst e
   refine CV.exit ?_
   refine PV.thenE ?_
   refine PV.thenE ?_
   refine PV.blockE ?_
   exact pa6 hS h13 ⟨rfl, rfl, rfl, rfl, rfl, rfl, trivial⟩
 ·
  intro y0 y4 y5 y6 y7 y8 T4 n4 ρ its hS h5
  unfold g74_k1 at h5
  clear h1 h2 h3 h4
  refine CV.seq ?_
  refine sr ?_
  refine mv ?_
  refine vy (V.not h5 rfl) fun x26_4 h6 => ?_
  refine dn ?_
  refine CV.cond h6 rfl (fun e h7 => ?_) (fun e h7 => ?_)
  ·
   clear h5 h6
   subst e
   refine sr ?_
   refine mv ?_
   refine vy (V.ia h7 rfl rfl Paf.el29) fun x28_5 h8 => ?_
   refine vy (V.ld hS h8 rfl Paf.one3) fun x29_6 h9 => ?_
   refine as_ ?_
   refine as_ ?_
   refine dn ?_
   refine CV.ret ?_
   refine PV.thenR ?_
   cases h9
   exact PV.ret (by simp) Tryd.results74 hS (RS.tmp rfl (RS.tmp rfl RS.nil)) rfl
  ·
   clear h5 h6
   subst e
   refine CV.skip ?_
   refine PV.thenN ?_
   refine sr ?_
   refine mv ?_
   refine mv ?_
   refine mv ?_
   refine LV.call hS h7 (g26_ok _ _ _ _ _ _ _ _ ) hP rfl rfl rfl rfl fun x33_7 T5 n5 h10 ρ its hS => ?_
   refine as_ ?_
   refine as_ ?_
   refine dn ?_
   refine CV.ret ?_
   cases h10
   exact PV.ret (by simp) Tryd.results74 hS (RS.tmp rfl (RS.tmp rfl RS.nil)) rfl
noncomputable def g76_b1 (ih : FuncId → List HT → List AV → HT → Nat → R) (ro : List HT) (lp1 : AV → AV → AV → AV → AV → HT → Nat → R) (y0 y1 y2 y6 y7 : AV) (T2 : HT) (n2 : Nat) : R :=
 callK (g35 ro y0 y2 T2 n2) fun x13_2 T3 n3 =>
 condK 760009 x13_2
 (
  ncK 760011 y0 fun x15_3 =>
  faK 760012 x15_3 0 fun x16_4 =>
  ldK 760013 T3 ro x16_4 fun x17_5 =>
  ncK 760015 y0 fun x19_6 =>
  faK 760016 x19_6 1 fun x20_7 =>
  ldK 760017 T3 ro x20_7 fun x21_8 =>
  iaK 760018 x17_5 x21_8 3 fun x22_9 =>
  ldAK 760019 T3 ro x22_9 3 fun x23_10 =>
  newK T3 n3 (.obj [.lit (.int .i64 0), .lit (.string ⟨#[]⟩), .lit (.int .i64 0)] 68) fun x8_11 T4 n4 =>
  stAK 760021 T4 x8_11 x23_10 3 fun T5 =>
  ncK 760023 y0 fun x25_12 =>
  faK 760024 x25_12 1 fun x26_13 =>
  ldK 760025 T5 ro x26_13 fun x27_14 =>
  addK Tryd.prog 3 (.tmp 27) (.const (.int .i64 (.ofNat 1))) 760026 x27_14 (.lit (.int .i64 (.ofNat 1))) fun x28_15 =>
  ncK 760027 y0 fun x29_16 =>
  faK 760028 x29_16 1 fun x30_17 =>
  stK 760029 T5 x30_17 x28_15 fun T6 =>
  faK 760031 x8_11 1 fun x32_18 =>
  ldQK 760032 T6 ro [x8_11] x32_18 fun x33_19 =>
  faK 760033 x8_11 2 fun x35_20 =>
  ldQK 760034 T6 ro [x8_11] x35_20 fun x36_21 =>
  callK (g84 ro x33_19 T6 n4) fun x34_22 T7 n7 =>
  keepK 760038 T6 T7 [x8_11] <|
  dynK 760039 y1 fun f p q => callK (ih f ro (p ++ ([] ++ q)) T7 n7) fun x39_23 T8 n8 =>
  keepK 760040 T6 T8 [x8_11] <|
  bsK 760041 T8 n8 2 3 1 [(0, y7), (1, x39_23)] fun x40_24 T9 n9 =>
  keepK 760042 T6 T9 [x8_11] <|
  callK (g26 ro y0 x34_22 x36_21 (.lit (.string ⟨⟨[]⟩⟩)) x40_24 T9 n9) fun x41_25 T10 n10 =>
  lp1 y0 y1 y2 y6 x41_25 T10 n10
 )
 (
  .ok (.val y7) T3 n3
 )
noncomputable def g76 (ih : FuncId → List HT → List AV → HT → Nat → R) (ro : List HT) (a0 a1 a2 : AV) (T : HT) (nx : Nat) : R :=
 dynK 760003 a1 fun f p q => callK (ih f ro (p ++ ([] ++ q)) T nx) fun x10_1 T1 n1 =>
 lpf5 760005 (g76_b1 ih ro) 100000 a0 a1 a2 (.lit (.int .i64 (.ofNat 0))) x10_1 T1 n1
theorem g76_ok (ih : FuncId → List HT → List AV → HT → Nat → R) (hI : ∀ f ro args T nx, GOk Tryd.prog envE f args ro T nx (ih f ro args T nx)) (ro : List HT) (a0 a1 a2 : AV) (T : HT) (nx : Nat) : GOk Tryd.prog envE 76 [a0, a1, a2] ro T nx (g76 ih ro a0 a1 a2 T nx) := by
 refine GOk.of_body Tryd.func76 rfl Tryd.ntmps76 (by kernel_rfl) rfl fun r T' n' h1 w0 base ρ0 its hS hP => ?_
 have X : CtxW envE ρ0 ro r T' n' := trivial
 unfold g76 at h1
 refine sr ?_
 refine as_ ?_
 refine dn ?_
 refine sr ?_
 refine mv ?_
 refine LV.callD (G := fun f gs => ih f ro gs T nx) (qs := []) hS h1 (fun f gs => hI _ _ _ _ _) hP rfl rfl rfl rfl rfl rfl rfl fun x10_1 T1 n1 h2 ρ its hS => ?_
 refine as_ ?_
 refine dn ?_
 refine CV.seq ?_
 refine CV.block ?_
 refine cl5 X 0 1 2 6 7 [] hS h2 ⟨rfl, rfl, rfl, rfl, rfl, trivial⟩ ?_
 intro f1 y0 y1 y2 y6 y7 T2 n2 ρ its hS h3
 unfold g76_b1 at h3
 clear h1 h2
 refine CV.seq ?_
 refine sr ?_
 refine mv ?_
 refine mv ?_
 refine LV.call hS h3 (g35_ok _ _ _ _ _ ) hP rfl rfl rfl rfl fun x13_2 T3 n3 h4 ρ its hS => ?_
 refine dn ?_
 refine CV.cond h4 rfl (fun e h5 => ?_) (fun e h5 => ?_)
 ·
  clear h3 h4
  subst e
  refine CV.skip ?_
  refine PV.thenN ?_
  refine CV.block ?_
  refine CV.seq ?_
  refine CV.regionM [(0, .anywhere), (1, .anywhere), (2, .anywhere), (3, .held), (4, .anywhere), (5, .anywhere), (6, .anywhere), (7, .held), (8, .held), (9, .held), (10, .alone), (11, .alone)] rfl (fun c a a' w hd hq => PanicOk.root (P := Tryd.prog) (fn := Tryd.f76) (w0 := w0) (base := base) (E := envE) (ro := ro) (r := r) (T' := T') (n' := n') (ρ0 := ρ0) c a a' w hd hq) (by kernel_rfl) ?_
  refine MV.step0 (i := 0) rfl (VAL.move rfl) rfl rfl rfl ?_
  refine MV.lift0 (i := 1) rfl (V.nc h5 rfl) rfl rfl rfl fun x15_3 h6 => ?_
  refine MV.lift0 (i := 2) rfl (V.fa h6 rfl Paf.fo49_0) rfl rfl rfl fun x16_4 h7 => ?_
  refine MV.lift1 (i := 3) rfl (fun _ z => z) (V.ld hS h7 rfl Paf.one47) rfl rfl rfl [] (by kernel_rfl) fun x17_5 h8 => ?_
  refine MV.step0 (i := 4) rfl (VAL.move rfl) rfl rfl rfl ?_
  refine MV.lift0 (i := 5) rfl (V.nc h8 rfl) rfl rfl rfl fun x19_6 h9 => ?_
  refine MV.lift0 (i := 6) rfl (V.fa h9 rfl Paf.fo49_1) rfl rfl rfl fun x20_7 h10 => ?_
  refine MV.lift1 (i := 7) rfl (fun _ z => z) (V.ld hS h10 rfl Paf.one3) rfl rfl rfl [3] (by kernel_rfl) fun x21_8 h11 => ?_
  refine MV.lift1 (i := 8) rfl (fun _ z => z) (V.ia h11 rfl rfl Paf.el47) rfl rfl rfl [] (by kernel_rfl) fun x22_9 h12 => ?_
  refine MV.lift1 (i := 9) rfl (fun _ z => z) (V.ldA hS h12 rfl Paf.agg68) rfl rfl rfl [] (by kernel_rfl) fun x23_10 h13 => ?_
  refine MV.force (i := 10) rfl ?_
  refine LV.alloc hS h13 rfl Paf.zr68 rfl rfl rfl fun x8_11 T4 n4 h14 ρ its hS hdr => ?_
  refine LV.nextM [9] (by kernel_rfl) (fun _ => hdr) ?_
  refine MV.force (i := 11) rfl ?_
  refine LV.stA hS h14 rfl rfl rfl Paf.agg68 rfl rfl rfl fun T5 its h15 hS => ?_
  refine LV.nextM [] (by kernel_rfl) (fun z => absurd rfl z) ?_
  refine mdn ?_
  refine sr ?_
  refine mv ?_
  refine vy (V.nc h15 rfl) fun x25_12 h16 => ?_
  refine vy (V.fa h16 rfl Paf.fo49_1) fun x26_13 h17 => ?_
  refine vy (V.ld hS h17 rfl Paf.one3) fun x27_14 h18 => ?_
  refine vy (V.add h18 rfl rfl) fun x28_15 h19 => ?_
  refine vy (V.nc h19 rfl) fun x29_16 h20 => ?_
  refine vy (V.fa h20 rfl Paf.fo49_1) fun x30_17 h21 => ?_
  refine LV.st hS h21 rfl rfl rfl Paf.siz3 rfl rfl fun T6 its h22 hS => ?_
  refine dn ?_
  refine CV.regionMS hS [x8_11] [(0, .anywhere), (1, .anywhere), (2, .held), (4, .anywhere), (5, .held), (6, .anywhere), (7, .anywhere), (3, .alone), (8, .alone), (9, .alone), (10, .alone), (11, .alone)] rfl (fun c a a' w hd hq => PanicOk.root (P := Tryd.prog) (fn := Tryd.f76) (w0 := w0) (base := base) (E := envE) (ro := ro) (r := r) (T' := T') (n' := n') (ρ0 := ρ0) c a a' w hd hq) (by kernel_rfl) ?_
  have hK := KeepS.start [x8_11] hS
  have hR := hS
  have hP0 := hP
  replace hP := PK.up hR hP
  replace hS := hR.root
  refine MV.step0 (i := 0) rfl (VAL.move rfl) rfl rfl rfl ?_
  refine MV.lift0 (i := 1) rfl (V.fa h22 rfl Paf.fo68_1) rfl rfl rfl fun x32_18 h23 => ?_
  refine MV.lift1 (i := 2) rfl hK (V.ldQ hS h23 rfl Paf.one9) rfl rfl rfl [] (by kernel_rfl) fun x33_19 h24 => ?_
  refine MV.lift0 (i := 4) rfl (V.fa h24 rfl Paf.fo68_2) rfl rfl rfl fun x35_20 h25 => ?_
  refine MV.lift1 (i := 5) rfl hK (V.ldQ hS h25 rfl Paf.one3) rfl rfl rfl [2] (by kernel_rfl) fun x36_21 h26 => ?_
  refine MV.step0 (i := 6) rfl (VAL.move rfl) rfl rfl rfl ?_
  refine MV.step0 (i := 7) rfl (VAL.move rfl) rfl rfl rfl ?_
  refine MV.force (i := 3) rfl ?_
  refine LV.call hS h26 (g84_ok _ _ _ _ ) hP rfl rfl rfl rfl fun x34_22 T7 n7 h27 ρ its hS => ?_
  obtain ⟨hK, h28⟩ := KeepS.step hR hS h27
  refine LV.nextM [5] (by kernel_rfl) (fun _ => hK) ?_
  refine MV.force (i := 8) rfl ?_
  refine LV.callD (G := fun f gs => ih f ro gs T7 n7) (qs := []) hS h28 (fun f gs => hI _ _ _ _ _) hP rfl rfl rfl rfl rfl rfl rfl fun x39_23 T8 n8 h29 ρ its hS => ?_
  obtain ⟨hK, h30⟩ := KeepS.step hR hS h29
  refine LV.nextM [5] (by kernel_rfl) (fun _ => hK) ?_
  refine MV.force (i := 9) rfl ?_
  refine LV.bslice hS h30 rfl rfl Paf.el29 rfl rfl rfl rfl fun x40_24 T9 n9 h31 ρ its hS hdr => ?_
  obtain ⟨hK, h32⟩ := KeepS.step hR hS h31
  refine LV.nextM [5] (by kernel_rfl) (fun _ => hK) ?_
  refine MV.force (i := 10) rfl ?_
  refine LV.call hS h32 (g26_ok _ _ _ _ _ _ _ _ ) hP rfl rfl rfl rfl fun x41_25 T10 n10 h33 ρ its hS => ?_
  refine LV.nextM [] (by kernel_rfl) (fun z => absurd rfl z) ?_
  refine MV.force (i := 11) rfl ?_
  refine as_ ?_
  refine LV.nextM [] (by kernel_rfl) (fun z => absurd rfl z) ?_
  replace hS := hR.up hS
  replace hP := hP0
  refine MV.done ?_
  refine PV.blockN ?_
  exact pb5 hS h33 ⟨rfl, rfl, rfl, rfl, rfl, trivial⟩
 ·
  clear h3 h4
  subst e
  refine CV.exit ?_
  refine PV.thenE ?_
  refine PV.thenE ?_
  refine PV.blockE ?_
  refine PV.thenN ?_
  refine sr ?_
  refine mv ?_
  refine as_ ?_
  refine dn ?_
  refine CV.ret ?_
  cases h5
  exact PV.ret (by simp) Tryd.results76 hS (RS.tmp rfl RS.nil) rfl
noncomputable def g77 (ih : FuncId → List HT → List AV → HT → Nat → R) (ro : List HT) (a0 : AV) (T : HT) (nx : Nat) : R :=
 bsK 770005 T nx 1 9 1 [(0, (.lit (.string ⟨⟨[97, 110, 100]⟩⟩)))] fun x6_1 T1 n1 =>
 callK (ih 76 ro [a0, (.fn (.func 85) [a0] []), x6_1] T1 n1) fun x7_2 T2 n2 =>
 .ok (.val x7_2) T2 n2
theorem g77_ok (ih : FuncId → List HT → List AV → HT → Nat → R) (hI : ∀ f ro args T nx, GOk Tryd.prog envE f args ro T nx (ih f ro args T nx)) (ro : List HT) (a0 : AV) (T : HT) (nx : Nat) : GOk Tryd.prog envE 77 [a0] ro T nx (g77 ih ro a0 T nx) := by
 refine GOk.of_body Tryd.func77 rfl Tryd.ntmps77 (by kernel_rfl) rfl fun r T' n' h1 w0 base ρ0 its hS hP => ?_
 have X : CtxW envE ρ0 ro r T' n' := trivial
 unfold g77 at h1
 refine sr ?_
 refine as_ ?_
 refine dn ?_
 refine sr ?_
 refine mv ?_
 refine mv ?_
 refine pu ?_
 refine LV.bslice hS h1 rfl rfl Paf.el33 rfl rfl rfl rfl fun x6_1 T1 n1 h2 ρ its hS hdr => ?_
 refine LV.call hS h2 (hI _ _ _ _ _) hP rfl rfl rfl rfl fun x7_2 T2 n2 h3 ρ its hS => ?_
 refine as_ ?_
 refine dn ?_
 refine CV.ret ?_
 cases h3
 exact PV.ret (by simp) Tryd.results77 hS (RS.tmp rfl RS.nil) rfl
noncomputable def g83_k1 (ih : FuncId → List HT → List AV → HT → Nat → R) (ro : List HT) (y0 y2 y3 y4 : AV) (T9 : HT) (n9 : Nat) : R :=
 .ok (.val y4) T9 n9
noncomputable def g83_k3 (ih : FuncId → List HT → List AV → HT → Nat → R) (ro : List HT) (y2 y6 : AV) (T13 : HT) (n13 : Nat) : R :=
 .ok (.val y6) T13 n13
noncomputable def g83_k4 (ih : FuncId → List HT → List AV → HT → Nat → R) (ro : List HT) (y2 y3 y6 y61 : AV) (T14 : HT) (n14 : Nat) : R :=
 condK 830060 y61
 (
  callK (g45 ro y3 (.iface 108 (.opq 1)) T14 n14) fun x64_29 T15 n15 =>
  g83_k3 ih ro y2 y6 T15 n15
 )
 (
  g83_k3 ih ro y2 y6 T14 n14
 )
noncomputable def g83_k2 (ih : FuncId → List HT → List AV → HT → Nat → R) (ro : List HT) (y0 y2 y3 : AV) (T11 : HT) (n11 : Nat) : R :=
 callK (ih 88 ro [y0] T11 n11) fun x47_21 T12 n12 =>
 ncK 830049 y0 fun x49_22 =>
 faK 830050 x49_22 2 fun x50_23 =>
 ldK 830051 T12 ro x50_23 fun x51_24 =>
 iaK 830053 x51_24 x47_21 5 fun x53_25 =>
 faK 830054 x53_25 0 fun x54_26 =>
 ldK 830055 T12 ro x54_26 fun x55_27 =>
 neK Tryd.prog 3 (.tmp 56) (.const (.int .i64 (.ofNat 6))) 830058 x55_27 (.lit (.int .i64 (.ofNat 6))) fun x57_28 =>
 condK 830064 x57_28
 (
  neK Tryd.prog 3 (.tmp 59) (.const (.int .i64 (.ofNat 13))) 830066 x55_27 (.lit (.int .i64 (.ofNat 13))) fun x60_30 =>
  g83_k4 ih ro y2 y3 x47_21 x60_30 T12 n12
 )
 (
  g83_k4 ih ro y2 y3 x47_21 (.lit (.bool false)) T12 n12
 )
noncomputable def g83 (ih : FuncId → List HT → List AV → HT → Nat → R) (ro : List HT) (a0 : AV) (T : HT) (nx : Nat) : R :=
 callK (g41 ro a0 T nx) fun x9_1 T1 n1 =>
 bsK 830006 T1 n1 1 9 1 [(0, (.lit (.string ⟨⟨[40]⟩⟩)))] fun x11_2 T2 n2 =>
 callK (g35 ro a0 x11_2 T2 n2) fun x12_3 T3 n3 =>
 condK 830008 x12_3
 (
  callK (g57 ro a0 (.lit (.string ⟨⟨[40]⟩⟩)) T3 n3) fun x15_4 T4 n4 =>
  callK (g56 ro a0 x15_4 T4 n4) fun x16_5 T5 n5 =>
  callK (ih 74 ro [a0, (.lit (.string ⟨⟨[41]⟩⟩))] T5 n5) fun x19_6 T6 n6 =>
  exK 830016 x19_6 0 fun x20_7 =>
  exK 830017 x19_6 1 fun x21_8 =>
  callK (g57 ro a0 (.lit (.string ⟨⟨[41]⟩⟩)) T6 n6) fun x23_9 T7 n7 =>
  ncK 830023 a0 fun x25_10 =>
  faK 830024 x25_10 3 fun x26_11 =>
  ldK 830025 T7 ro x26_11 fun x27_12 =>
  subK Tryd.prog 3 (.tmp 27) (.const (.int .i64 (.ofNat 1))) 830026 x27_12 (.lit (.int .i64 (.ofNat 1))) fun x28_13 =>
  ncK 830027 a0 fun x29_14 =>
  faK 830028 x29_14 3 fun x30_15 =>
  stK 830029 T7 x30_15 x28_13 fun T8 =>
  condK 830033 x21_8
  (
   ncK 830035 a0 fun x33_16 =>
   faK 830036 x33_16 2 fun x34_17 =>
   ldK 830037 T8 ro x34_17 fun x35_18 =>
   iaK 830040 x35_18 x20_7 5 fun x38_19 =>
   faK 830041 x38_19 2 fun x39_20 =>
   stK 830042 T8 x39_20 x9_1 fun T10 =>
   g83_k1 ih ro a0 (.lit (.int .i64 (.ofNat 0))) x9_1 x20_7 T10 n7
  )
  (
   g83_k1 ih ro a0 (.lit (.int .i64 (.ofNat 0))) x9_1 x20_7 T8 n7
  )
 )
 (
  callK (g21 ro a0 T3 n3) fun x42_31 T16 n16 =>
  neK Tryd.prog 3 (.tmp 42) (.const (.int .i64 (.ofNat 1))) 830071 x42_31 (.lit (.int .i64 (.ofNat 1))) fun x43_32 =>
  condK 830072 x43_32
  (
   callK (g30 ro a0 T16 n16) fun x45_33 T17 n17 =>
   g83_k2 ih ro a0 (.lit (.int .i64 (.ofNat 0))) x9_1 T17 n17
  )
  (
   g83_k2 ih ro a0 (.lit (.int .i64 (.ofNat 0))) x9_1 T16 n16
  )
 )
theorem g83_ok (ih : FuncId → List HT → List AV → HT → Nat → R) (hI : ∀ f ro args T nx, GOk Tryd.prog envE f args ro T nx (ih f ro args T nx)) (ro : List HT) (a0 : AV) (T : HT) (nx : Nat) : GOk Tryd.prog envE 83 [a0] ro T nx (g83 ih ro a0 T nx) := by
 refine GOk.of_body Tryd.func83 rfl Tryd.ntmps83 (by kernel_rfl) rfl fun r T' n' h1 w0 base ρ0 its hS hP => ?_
 have X : CtxW envE ρ0 ro r T' n' := trivial
 unfold g83 at h1
 refine sr ?_
 refine as_ ?_
 refine dn ?_
 refine sr ?_
 refine mv ?_
 refine LV.call hS h1 (g41_ok _ _ _ _ ) hP rfl rfl rfl rfl fun x9_1 T1 n1 h2 ρ its hS => ?_
 refine as_ ?_
 refine dn ?_
 refine CV.seq ?_
 refine sr ?_
 refine mv ?_
 refine LV.bslice hS h2 rfl rfl Paf.el33 rfl rfl rfl rfl fun x11_2 T2 n2 h3 ρ its hS hdr => ?_
 refine LV.call hS h3 (g35_ok _ _ _ _ _ ) hP rfl rfl rfl rfl fun x12_3 T3 n3 h4 ρ its hS => ?_
 refine dn ?_
 refine CV.cond h4 rfl (fun e h5 => ?_) (fun e h5 => ?_)
 ·
  clear h1 h2 h3 h4
  subst e
  refine sr ?_
  refine mv ?_
  refine mv ?_
  refine LV.call hS h5 (g57_ok _ _ _ _ _ ) hP rfl rfl rfl rfl fun x15_4 T4 n4 h6 ρ its hS => ?_
  refine LV.call hS h6 (g56_ok _ _ _ _ _ ) hP rfl rfl rfl rfl fun x16_5 T5 n5 h7 ρ its hS => ?_
  refine dn ?_
  refine sr ?_
  refine mv ?_
  refine LV.call hS h7 (hI _ _ _ _ _) hP rfl rfl rfl rfl fun x19_6 T6 n6 h8 ρ its hS => ?_
  refine mv ?_
  refine vy (V.ex h8 rfl) fun x20_7 h9 => ?_
  refine vy (V.ex h9 rfl) fun x21_8 h10 => ?_
  refine as_ ?_
  refine as_ ?_
  refine dn ?_
  refine sr ?_
  refine mv ?_
  refine LV.call hS h10 (g57_ok _ _ _ _ _ ) hP rfl rfl rfl rfl fun x23_9 T7 n7 h11 ρ its hS => ?_
  refine dn ?_
  refine sr ?_
  refine mv ?_
  refine vy (V.nc h11 rfl) fun x25_10 h12 => ?_
  refine vy (V.fa h12 rfl Paf.fo49_3) fun x26_11 h13 => ?_
  refine vy (V.ld hS h13 rfl Paf.one3) fun x27_12 h14 => ?_
  refine vy (V.sub h14 rfl rfl) fun x28_13 h15 => ?_
  refine vy (V.nc h15 rfl) fun x29_14 h16 => ?_
  refine vy (V.fa h16 rfl Paf.fo49_3) fun x30_15 h17 => ?_
  refine LV.st hS h17 rfl rfl rfl Paf.siz3 rfl rfl fun T8 its h18 hS => ?_
  refine dn ?_
  refine cs4 X 0 2 3 4 [] (g83_k1 ih ro) ?_ ?_
  ·
   refine sr ?_
   refine mv ?_
   refine dn ?_
   refine CV.cond h18 rfl (fun e h20 => ?_) (fun e h20 => ?_)
   ·
    clear h5 h6 h7 h8 h9 h10 h11 h12 h13 h14 h15 h16 h17 h18
    subst e
    refine CV.region ?_
    refine mv ?_
    refine vy (V.nc h20 rfl) fun x33_16 h21 => ?_
    refine vy (V.fa h21 rfl Paf.fo49_2) fun x34_17 h22 => ?_
    refine vy (V.ld hS h22 rfl Paf.one23) fun x35_18 h23 => ?_
    refine mv ?_
    refine mv ?_
    refine vy (V.ia h23 rfl rfl Paf.el23) fun x38_19 h24 => ?_
    refine vy (V.fa h24 rfl Paf.fo31_2) fun x39_20 h25 => ?_
    refine LV.st hS h25 rfl rfl rfl Paf.siz3 rfl rfl fun T10 its h26 hS => ?_
    refine LV.done ?_
    exact pa4 hS h26 ⟨rfl, rfl, rfl, rfl, trivial⟩
   ·
    clear h5 h6 h7 h8 h9 h10 h11 h12 h13 h14 h15 h16 h17 h18
    subst e
    refine CV.skip ?_
    exact pa4 hS h20 ⟨rfl, rfl, rfl, rfl, trivial⟩
  ·
   intro y0 y2 y3 y4 T9 n9 ρ its hS h19
   unfold g83_k1 at h19
   clear h5 h6 h7 h8 h9 h10 h11 h12 h13 h14 h15 h16 h17 h18
   refine sr ?_
   refine mv ?_
   refine as_ ?_
   refine dn ?_
   refine CV.ret ?_
   refine PV.thenR ?_
   cases h19
   exact PV.ret (by simp) Tryd.results83 hS (RS.tmp rfl RS.nil) rfl
 ·
  clear h1 h2 h3 h4
  subst e
  refine CV.skip ?_
  refine PV.thenN ?_
  refine cs3 X 0 2 3 [] (g83_k2 ih ro) ?_ ?_
  ·
   refine sr ?_
   refine mv ?_
   refine LV.call hS h5 (g21_ok _ _ _ _ ) hP rfl rfl rfl rfl fun x42_31 T16 n16 h42 ρ its hS => ?_
   refine vy (V.ne h42 rfl rfl) fun x43_32 h43 => ?_
   refine dn ?_
   refine CV.cond h43 rfl (fun e h44 => ?_) (fun e h44 => ?_)
   ·
    clear h5 h42 h43
    subst e
    refine CV.region ?_
    refine mv ?_
    refine LV.call hS h44 (g30_ok _ _ _ _ ) hP rfl rfl rfl rfl fun x45_33 T17 n17 h45 ρ its hS => ?_
    refine LV.done ?_
    exact pa3 hS h45 ⟨rfl, rfl, rfl, trivial⟩
   ·
    clear h5 h42 h43
    subst e
    refine CV.skip ?_
    exact pa3 hS h44 ⟨rfl, rfl, rfl, trivial⟩
  ·
   intro y0 y2 y3 T11 n11 ρ its hS h27
   unfold g83_k2 at h27
   clear h5
   refine sr ?_
   refine mv ?_
   refine LV.call hS h27 (hI _ _ _ _ _) hP rfl rfl rfl rfl fun x47_21 T12 n12 h28 ρ its hS => ?_
   refine as_ ?_
   refine dn ?_
   refine cs2 X 2 6 [] (g83_k3 ih ro) ?_ ?_
   ·
    refine sr ?_
    refine mv ?_
    refine vy (V.nc h28 rfl) fun x49_22 h30 => ?_
    refine vy (V.fa h30 rfl Paf.fo49_2) fun x50_23 h31 => ?_
    refine vy (V.ld hS h31 rfl Paf.one23) fun x51_24 h32 => ?_
    refine mv ?_
    refine vy (V.ia h32 rfl rfl Paf.el23) fun x53_25 h33 => ?_
    refine vy (V.fa h33 rfl Paf.fo31_0) fun x54_26 h34 => ?_
    refine vy (V.ld hS h34 rfl Paf.one3) fun x55_27 h35 => ?_
    refine as_ ?_
    refine dn ?_
    refine sr ?_
    refine mv ?_
    refine vy (V.ne h35 rfl rfl) fun x57_28 h36 => ?_
    refine mv ?_
    refine ls4 X 2 3 6 61 [] (g83_k4 ih ro) 3 ?_ ?_
    ·
     rcases condK_inv h36 with ⟨e, h40⟩ | ⟨e, h40⟩
     ·
      clear h27 h28 h30 h31 h32 h33 h34 h35 h36
      subst e
      refine mv ?_
      refine vy (V.ne h40 rfl rfl) fun x60_30 h41 => ?_
      refine pu ?_
      exact la4 hS h41 ⟨rfl, rfl, rfl, rfl, trivial⟩
     ·
      clear h27 h28 h30 h31 h32 h33 h34 h35 h36
      subst e
      refine sk ?_
      refine sk ?_
      refine pu ?_
      exact la4 hS h40 ⟨rfl, rfl, rfl, rfl, trivial⟩
    ·
     intro y2 y3 y6 y61 T14 n14 ρ its hS h37
     unfold g83_k4 at h37
     clear h27 h28 h30 h31 h32 h33 h34 h35 h36
     refine dn ?_
     refine CV.cond h37 rfl (fun e h38 => ?_) (fun e h38 => ?_)
     ·
      clear h37
      subst e
      refine CV.region ?_
      refine mv ?_
      refine sv (VAL.ldG hS (by rfl) Paf.one25) ?_
      refine LV.call hS h38 (g45_ok _ _ _ _ _ ) hP rfl rfl rfl rfl fun x64_29 T15 n15 h39 ρ its hS => ?_
      refine LV.done ?_
      exact pa2 hS h39 ⟨rfl, rfl, trivial⟩
     ·
      clear h37
      subst e
      refine CV.skip ?_
      exact pa2 hS h38 ⟨rfl, rfl, trivial⟩
   ·
    intro y2 y6 T13 n13 ρ its hS h29
    unfold g83_k3 at h29
    clear h27 h28
    refine sr ?_
    refine mv ?_
    refine as_ ?_
    refine dn ?_
    refine CV.ret ?_
    cases h29
    exact PV.ret (by simp) Tryd.results83 hS (RS.tmp rfl RS.nil) rfl
noncomputable def g85 (ih : FuncId → List HT → List AV → HT → Nat → R) (ro : List HT) (a0 : AV) (T : HT) (nx : Nat) : R :=
 bsK 850003 T nx 1 9 1 [(0, (.lit (.string ⟨⟨[110, 111, 116]⟩⟩)))] fun x6_1 T1 n1 =>
 callK (g35 ro a0 x6_1 T1 n1) fun x7_2 T2 n2 =>
 notK 850005 x7_2 fun x8_3 =>
 condK 850006 x8_3
 (
  callK (ih 90 ro [a0] T2 n2) fun x10_4 T3 n3 =>
  .ok (.val x10_4) T3 n3
 )
 (
  callK (g57 ro a0 (.lit (.string ⟨⟨[110, 111, 116]⟩⟩)) T2 n2) fun x12_5 T4 n4 =>
  callK (g56 ro a0 x12_5 T4 n4) fun x15_6 T5 n5 =>
  callK (ih 85 ro [a0] T5 n5) fun x17_7 T6 n6 =>
  ncK 850020 a0 fun x19_8 =>
  faK 850021 x19_8 3 fun x20_9 =>
  ldK 850022 T6 ro x20_9 fun x21_10 =>
  subK Tryd.prog 3 (.tmp 21) (.const (.int .i64 (.ofNat 1))) 850023 x21_10 (.lit (.int .i64 (.ofNat 1))) fun x22_11 =>
  ncK 850024 a0 fun x23_12 =>
  faK 850025 x23_12 3 fun x24_13 =>
  stK 850026 T6 x24_13 x22_11 fun T7 =>
  bsK 850030 T7 n6 1 3 1 [(0, x17_7)] fun x28_14 T8 n8 =>
  callK (g26 ro a0 (.lit (.int .i64 (.ofNat 17))) x12_5 (.lit (.string ⟨⟨[]⟩⟩)) x28_14 T8 n8) fun x29_15 T9 n9 =>
  .ok (.val x29_15) T9 n9
 )
theorem g85_ok (ih : FuncId → List HT → List AV → HT → Nat → R) (hI : ∀ f ro args T nx, GOk Tryd.prog envE f args ro T nx (ih f ro args T nx)) (ro : List HT) (a0 : AV) (T : HT) (nx : Nat) : GOk Tryd.prog envE 85 [a0] ro T nx (g85 ih ro a0 T nx) := by
 refine GOk.of_body Tryd.func85 rfl Tryd.ntmps85 (by kernel_rfl) rfl fun r T' n' h1 w0 base ρ0 its hS hP => ?_
 have X : CtxW envE ρ0 ro r T' n' := trivial
 unfold g85 at h1
 refine sr ?_
 refine as_ ?_
 refine dn ?_
 refine CV.seq ?_
 refine sr ?_
 refine mv ?_
 refine LV.bslice hS h1 rfl rfl Paf.el33 rfl rfl rfl rfl fun x6_1 T1 n1 h2 ρ its hS hdr => ?_
 refine LV.call hS h2 (g35_ok _ _ _ _ _ ) hP rfl rfl rfl rfl fun x7_2 T2 n2 h3 ρ its hS => ?_
 refine vy (V.not h3 rfl) fun x8_3 h4 => ?_
 refine dn ?_
 refine CV.cond h4 rfl (fun e h5 => ?_) (fun e h5 => ?_)
 ·
  clear h1 h2 h3 h4
  subst e
  refine sr ?_
  refine mv ?_
  refine LV.call hS h5 (hI _ _ _ _ _) hP rfl rfl rfl rfl fun x10_4 T3 n3 h6 ρ its hS => ?_
  refine as_ ?_
  refine dn ?_
  refine CV.ret ?_
  refine PV.thenR ?_
  cases h6
  exact PV.ret (by simp) Tryd.results85 hS (RS.tmp rfl RS.nil) rfl
 ·
  clear h1 h2 h3 h4
  subst e
  refine CV.skip ?_
  refine PV.thenN ?_
  refine sr ?_
  refine mv ?_
  refine LV.call hS h5 (g57_ok _ _ _ _ _ ) hP rfl rfl rfl rfl fun x12_5 T4 n4 h7 ρ its hS => ?_
  refine as_ ?_
  refine dn ?_
  refine sr ?_
  refine mv ?_
  refine mv ?_
  refine LV.call hS h7 (g56_ok _ _ _ _ _ ) hP rfl rfl rfl rfl fun x15_6 T5 n5 h8 ρ its hS => ?_
  refine dn ?_
  refine sr ?_
  refine mv ?_
  refine LV.call hS h8 (hI _ _ _ _ _) hP rfl rfl rfl rfl fun x17_7 T6 n6 h9 ρ its hS => ?_
  refine as_ ?_
  refine dn ?_
  refine sr ?_
  refine mv ?_
  refine vy (V.nc h9 rfl) fun x19_8 h10 => ?_
  refine vy (V.fa h10 rfl Paf.fo49_3) fun x20_9 h11 => ?_
  refine vy (V.ld hS h11 rfl Paf.one3) fun x21_10 h12 => ?_
  refine vy (V.sub h12 rfl rfl) fun x22_11 h13 => ?_
  refine vy (V.nc h13 rfl) fun x23_12 h14 => ?_
  refine vy (V.fa h14 rfl Paf.fo49_3) fun x24_13 h15 => ?_
  refine LV.st hS h15 rfl rfl rfl Paf.siz3 rfl rfl fun T7 its h16 hS => ?_
  refine dn ?_
  refine sr ?_
  refine mv ?_
  refine mv ?_
  refine mv ?_
  refine LV.bslice hS h16 rfl rfl Paf.el29 rfl rfl rfl rfl fun x28_14 T8 n8 h17 ρ its hS hdr => ?_
  refine LV.call hS h17 (g26_ok _ _ _ _ _ _ _ _ ) hP rfl rfl rfl rfl fun x29_15 T9 n9 h18 ρ its hS => ?_
  refine as_ ?_
  refine dn ?_
  refine CV.ret ?_
  cases h18
  exact PV.ret (by simp) Tryd.results85 hS (RS.tmp rfl RS.nil) rfl

end Go.Proofs.YtdepmlcnllofiaaDoor.Pa
