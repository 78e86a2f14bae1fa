/-
  Proved here: plain functions that do what the program's functions do, each with its proof.
-/
import Derived.Test.YtljaoofbklkglaaGreatDoorVoc
namespace Go.Proofs.YtljaoofbklkglaaGreatDoor.Vo
open Go.EY Go.EX Go.SX Go.RowKit
open Tryz Vof
noncomputable section
def g100_k2 (ro : List HT) (lp1 : AV → AV → AV → AV → AV → AV → HT → Nat → R) (y0 y4 y5 y6 y7 y8 : AV) (T3 : HT) (n3 : Nat) : R :=
 addK prog 3 (.tmp 29) (.const (.int .i64 (.ofNat 1))) 1000027 y8 (.lit (.int .i64 (.ofNat 1))) fun x9 =>
 lp1 y0 y4 y5 y6 y7 x9 T3 n3
def g100_k3 (ro : List HT) (lp1 : AV → AV → AV → AV → AV → AV → HT → Nat → R) (y0 y4 y5 y6 y7 y8 y9 y44 : AV) (T4 : HT) (n4 : Nat) : R :=
 condK 1000040 y44
 (
  .bad 1000041
 )
 (
  bsK 1000044 T4 n4 1 5 1 [(0, y9)] fun x14 T5 n5 =>
  shrK 1000046 T5 y7 fun T6 =>
  appEK 1000045 T6 ro n5 5 1 1 y7 x14 fun x15 T7 n7 =>
  g100_k2 ro lp1 y0 y4 y5 y6 x15 y8 T7 n7
 )
def g100_b1 (ro : List HT) (lp1 : AV → AV → AV → AV → AV → AV → HT → Nat → R) (y0 y4 y5 y6 y7 y8 : AV) (T2 : HT) (n2 : Nat) : R :=
 subK prog 3 (.tmp 26) (.const (.int .i64 (.ofNat 1))) 1000023 y6 (.lit (.int .i64 (.ofNat 1))) fun x7 =>
 ltK prog 3 (.tmp 25) (.tmp 27) 1000024 y8 x7 fun x8 =>
 condK 1000025 x8
 (
  fldK 1000030 T2 ro y0 0 fun x10 =>
  ixK 1000032 x10 y8 fun x11 =>
  neK prog 5 (.tmp 37) (.const (.int .u8 (.ofNat 92))) 1000035 x11 (.lit (.int .u8 (.ofNat 92))) fun x12 =>
  condK 1000036 x12
  (
   ltK prog 5 (.tmp 39) (.const (.int .u8 (.ofNat 32))) 1000038 x11 (.lit (.int .u8 (.ofNat 32))) fun x13 =>
   condK 1000048 x13
   (
    g100_k3 ro lp1 y0 y4 y5 y6 y7 y8 x11 (.lit (.bool true)) T2 n2
   )
   (
    eqK prog 5 (.tmp 42) (.const (.int .u8 (.ofNat 127))) 1000051 x11 (.lit (.int .u8 (.ofNat 127))) fun x16 =>
    g100_k3 ro lp1 y0 y4 y5 y6 y7 y8 x11 x16 T2 n2
   )
  )
  (
   fldK 1000054 T2 ro y0 0 fun x17 =>
   addK prog 3 (.tmp 56) (.const (.int .i64 (.ofNat 1))) 1000056 y8 (.lit (.int .i64 (.ofNat 1))) fun x18 =>
   subK prog 3 (.tmp 58) (.const (.int .i64 (.ofNat 1))) 1000058 y6 (.lit (.int .i64 (.ofNat 1))) fun x19 =>
   sliceF 1000059 x17 (some x18) (some x19) fun x20 =>
   callK (g128 ro x20 T2 n2) fun x21 T8 n8 =>
   exK 1000062 x21 0 fun x22 =>
   exK 1000063 x21 1 fun x23 =>
   eqK prog 3 (.tmp 64) (.const (.int .i64 (.ofNat 0))) 1000067 x23 (.lit (.int .i64 (.ofNat 0))) fun x24 =>
   condK 1000068 x24
   (
    .bad 1000069
   )
   (
    bsK 1000072 T8 n8 1 5 1 [(0, x22)] fun x25 T9 n9 =>
    shrK 1000074 T9 y7 fun T10 =>
    appEK 1000073 T10 ro n9 5 1 1 y7 x25 fun x26 T11 n11 =>
    addK prog 3 (.tmp 72) (.tmp 73) 1000078 y8 x23 fun x27 =>
    g100_k2 ro lp1 y0 y4 y5 y6 x26 x27 T11 n11
   )
  )
 )
 (
  faK 1000082 y0 1 fun x28 =>
  stK 1000083 T2 x28 y6 fun T12 =>
  strBK 1000086 T12 5 y7 fun x29 =>
  callK (g75 ro y0 (.lit (.int .i64 (.ofNat 3))) x29 y5 T12 n2) fun x30 T13 n13 =>
  .ok (.val (.lit (.nilIface))) T13 n13
 )
def g100 (ro : List HT) (a0 a1 : AV) (T : HT) (nx : Nat) : R :=
 ncK 1000003 a0 fun x1 =>
 faK 1000004 x1 1 fun x2 =>
 ldQK 1000005 T ro [(a0, 1, 1)] x2 fun x3 =>
 callK (g127 ro a0 a1 T nx) fun x4 T1 n1 =>
 keepK 1000009 T T1 [(a0, 1, 1)] <|
 ltK prog 3 (.tmp 19) (.const (.int .i64 (.ofNat 0))) 1000013 x4 (.lit (.int .i64 (.ofNat 0))) fun x5 =>
 condK 1000014 x5
 (
  .bad 1000015
 )
 (
  addK prog 3 (.tmp 23) (.const (.int .i64 (.ofNat 1))) 1000018 x3 (.lit (.int .i64 (.ofNat 1))) fun x6 =>
  lpf6 1000020 (g100_b1 ro) 100000 a0 (.lit (.nilIface)) x3 x4 (.lit (.slice none 0 0)) x6 T1 n1
 )
theorem g100_ok (ro : List HT) (a0 a1 : AV) (T : HT) (nx : Nat) : GOk prog envE 100 [a0, a1] ro T nx (g100 ro a0 a1 T nx) := by
 refine GOk.of_body func100 rfl ntmps100 (by kernel_rfl) rfl fun r T' n' h1 w0 base ρ0 its hS hP => ?_
 have X : CtxW envE ρ0 ro r T' n' := trivial
 unfold g100 at h1
 refine sr ?_
 refine as_ ?_
 refine dn (CV.seq ?_)
 refine CV.regionMS hS [(a0, 1, 1)] [(0, .anywhere), (1, .anywhere), (2, .anywhere), (3, .held), (4, .anywhere), (5, .anywhere), (6, .alone), (7, .alone), (8, .alone)] rfl (fun c a a' w hd hq => PanicOk.root (P := prog) (fn := f100) (w0 := w0) (base := base) (E := envE) (ro := ro) (r := r) (T' := T') (n' := n') (ρ0 := ρ0) c a a' w hd hq) (by kernel_rfl) ?_
 have hK := KeepS.start [(a0, 1, 1)] hS
 have hR := hS
 have hP0 := hP
 replace hP := PK.up hR hP
 replace hS := hR.root
 refine MV.step0 (i := 0) rfl (VAL.move rfl) rfl rfl rfl ?_
 refine MV.lift0 (i := 1) rfl (V.nc h1 rfl) rfl rfl rfl fun x1 h2 => ?_
 refine MV.lift0 (i := 2) rfl (V.fa h2 rfl fo174_1) rfl rfl rfl fun x2 h3 => ?_
 refine MV.lift1 (i := 3) rfl hK (V.ldQ hS h3 rfl one3) rfl rfl rfl [] (by kernel_rfl) fun x3 h4 => ?_
 refine MV.step0 (i := 4) rfl (VAL.move rfl) rfl rfl rfl ?_
 refine MV.step0 (i := 5) rfl (VAL.move rfl) rfl rfl rfl ?_
 refine MV.force (i := 6) rfl ?_
 refine LV.call hS h4 (g127_ok _ _ _ _ _ ) hP rfl rfl rfl rfl fun x4 T1 n1 h5 ρ its hS => ?_
 obtain ⟨hK, h6⟩ := KeepS.step hR hS h5
 refine LV.nextM [3] (by kernel_rfl) (fun _ => hK) ?_
 refine MV.force (i := 7) rfl ?_
 refine as_ ?_
 refine LV.nextM [] (by kernel_rfl) (fun z => absurd rfl z) ?_
 refine MV.force (i := 8) rfl ?_
 refine as_ ?_
 refine LV.nextM [] (by kernel_rfl) (fun z => absurd rfl z) ?_
 replace hS := hR.up hS
 replace hP := hP0
 refine mdn (CV.seq (sr ?_))
 refine mv ?_
 refine vy (V.lt h6 rfl rfl) fun x5 h7 => ?_
 refine dn ?_
 refine CV.cond h7 rfl (fun e h8 => ?_) (fun e h8 => ?_)
 ·
  subst e
  cases h8
 subst e
 refine CV.skip (PV.thenN (sr ?_))
 refine as_ ?_
 refine dn (CV.seq (sr ?_))
 refine mv ?_
 refine vy (V.add h8 rfl rfl) fun x6 h9 => ?_
 refine as_ ?_
 refine dn (CV.block ?_)
 refine cl6 X 0 4 5 6 7 8 [] hS h9 ⟨rfl, rfl, rfl, rfl, rfl, rfl, trivial⟩ ?_
 intro f1 y0 y4 y5 y6 y7 y8 T2 n2 ρ its hS h10
 unfold g100_b1 at h10
 refine CV.seq (sr ?_)
 iterate 2 refine mv ?_
 refine vy (V.sub h10 rfl rfl) fun x7 h11 => ?_
 refine vy (V.lt h11 rfl rfl) fun x8 h12 => ?_
 refine dn ?_
 refine CV.cond h12 rfl (fun e h13 => ?_) (fun e h13 => ?_)
 ·
  subst e
  refine CV.skip (PV.thenN ?_)
  refine cs6 X 0 4 5 6 7 8 [] (g100_k2 ro (lpf6 1000020 (g100_b1 ro) f1)) ?_ ?_
  ·
   refine CV.block (sr ?_)
   refine mv ?_
   refine fl hS h13 fo174_0 one9 fun x10 h16 => ?_
   refine mv ?_
   refine vy (V.ix h16 rfl rfl st9) fun x11 h17 => ?_
   refine as_ ?_
   refine dn (CV.seq (sr ?_))
   refine mv ?_
   refine vy (V.ne h17 rfl rfl) fun x12 h18 => ?_
   refine dn ?_
   refine CV.cond h18 rfl (fun e h19 => ?_) (fun e h19 => ?_)
   ·
    subst e
    refine CV.seq (sr ?_)
    refine mv ?_
    refine vy (V.lt h19 rfl rfl) fun x13 h20 => ?_
    refine mv ?_
    refine ls8 X 0 4 5 6 7 8 9 44 [] (g100_k3 ro (lpf6 1000020 (g100_b1 ro) f1)) 3 ?_ ?_
    ·
     rcases condK_inv h20 with ⟨e, h26⟩ | ⟨e, h26⟩
     ·
      subst e
      iterate 2 refine sk ?_
      refine pu ?_
      exact la8 hS h26 ⟨rfl, rfl, rfl, rfl, rfl, rfl, rfl, rfl, trivial⟩
     subst e
     refine mv ?_
     refine vy (V.eq h26 rfl rfl) fun x16 h27 => ?_
     refine pu ?_
     exact la8 hS h27 ⟨rfl, rfl, rfl, rfl, rfl, rfl, rfl, rfl, trivial⟩
    intro y0 y4 y5 y6 y7 y8 y9 y44 T4 n4 ρ its hS h21
    unfold g100_k3 at h21
    refine dn ?_
    refine CV.cond h21 rfl (fun e h22 => ?_) (fun e h22 => ?_)
    ·
     subst e
     cases h22
    subst e
    refine CV.skip (PV.thenN (sr ?_))
    iterate 2 refine mv ?_
    refine LV.bslice hS h22 rfl rfl el64 rfl rfl rfl rfl fun x14 T5 n5 h23 ρ its hS hdr => ?_
    obtain ⟨T6, its1, h24, hS, hW⟩ := shrK_inv hS h23
    refine LV.world hW ?_
    refine LV.appE hS h24 rfl rfl rfl rfl el64 rfl rfl rfl fun x15 T7 n7 h25 ρ its hS => ?_
    refine as_ ?_
    refine dn (CV.exit (PV.thenE (PV.blockE ?_)))
    exact pa6 hS h25 ⟨rfl, rfl, rfl, rfl, rfl, rfl, trivial⟩
   subst e
   refine CV.skip (PV.thenN (sr ?_))
   refine mv ?_
   refine fl hS h19 fo174_0 one9 fun x17 h28 => ?_
   refine mv ?_
   refine vy (V.add h28 rfl rfl) fun x18 h29 => ?_
   refine mv ?_
   refine vy (V.sub h29 rfl rfl) fun x19 h30 => ?_
   refine vy (V.slBo (sliceF_ok h30) rfl rfl rfl st9) fun x20 h31 => ?_
   refine LV.call hS h31 (g128_ok _ _ _ _ ) hP rfl rfl rfl rfl fun x21 T8 n8 h32 ρ its hS => ?_
   refine mv ?_
   refine vy (V.ex h32 rfl) fun x22 h33 => ?_
   refine vy (V.ex h33 rfl) fun x23 h34 => ?_
   iterate 2 refine as_ ?_
   refine dn (CV.seq (sr ?_))
   refine mv ?_
   refine vy (V.eq h34 rfl rfl) fun x24 h35 => ?_
   refine dn ?_
   refine CV.cond h35 rfl (fun e h36 => ?_) (fun e h36 => ?_)
   ·
    subst e
    cases h36
   subst e
   refine CV.skip (PV.thenN (sr ?_))
   iterate 2 refine mv ?_
   refine LV.bslice hS h36 rfl rfl el64 rfl rfl rfl rfl fun x25 T9 n9 h37 ρ its hS hdr => ?_
   obtain ⟨T10, its1, h38, hS, hW⟩ := shrK_inv hS h37
   refine LV.world hW ?_
   refine LV.appE hS h38 rfl rfl rfl rfl el64 rfl rfl rfl fun x26 T11 n11 h39 ρ its hS => ?_
   refine as_ ?_
   refine dn (CV.region ?_)
   iterate 2 refine mv ?_
   refine vy (V.add h39 rfl rfl) fun x27 h40 => ?_
   refine as_ ?_
   refine LV.done (PV.blockN ?_)
   exact pa6 hS h40 ⟨rfl, rfl, rfl, rfl, rfl, rfl, trivial⟩
  intro y0 y4 y5 y6 y7 y8 T3 n3 ρ its hS h14
  unfold g100_k2 at h14
  refine CV.region ?_
  refine mv ?_
  refine vy (V.add h14 rfl rfl) fun x9 h15 => ?_
  refine as_ ?_
  refine LV.done ?_
  exact pb6 hS h15 ⟨rfl, rfl, rfl, rfl, rfl, rfl, trivial⟩
 subst e
 refine CV.exit (PV.thenE (PV.thenE (PV.blockE (PV.thenN (sr ?_)))))
 iterate 2 refine mv ?_
 refine fa2 h13 fo174_1 fun x28 h41 => ?_
 refine LV.st hS h41 rfl rfl rfl siz3 rfl rfl fun T12 its h42 hS => ?_
 refine dn (sr ?_)
 iterate 2 refine mv ?_
 refine vy (V.strB hS h42 rfl slt64 u8t5 st9) fun x29 h43 => ?_
 refine mv ?_
 refine LV.call hS h43 (g75_ok _ _ _ _ _ _ _ ) hP rfl rfl rfl rfl fun x30 T13 n13 h44 ρ its hS => ?_
 refine dn (sr ?_)
 refine as_ ?_
 refine dn (CV.ret ?_)
 cases h44
 exact PV.ret (by simp) results100 hS (RS.tmp rfl RS.nil) rfl
def g101_k2 (ro : List HT) (y0 y2 y3 : AV) (T3 : HT) (n3 : Nat) : R :=
 fldK 1010012 T3 ro y0 1 fun x3 =>
 callK (g75 ro y0 (.lit (.int .i64 (.ofNat 4))) y3 x3 T3 n3) fun x4 T4 n4 =>
 fldK 1010015 T4 ro y0 1 fun x5 =>
 lenTK 1010017 y3 fun x6 =>
 addK prog 3 (.tmp 90) (.tmp 92) 1010018 x5 x6 fun x7 =>
 faK 1010019 y0 1 fun x8 =>
 stK 1010020 T4 x8 x7 fun T5 =>
 .ok (.val (.lit (.nilIface))) T5 n4
def g101_k3 (ro : List HT) (y0 y2 y3 y5 y65 : AV) (T7 : HT) (n7 : Nat) : R :=
 condK 1010032 y65
 (
  .bad 1010033
 )
 (
  fldK 1010036 T7 ro y0 4 fun x15 =>
  cutHiK 1010038 T7 ro x15 y5 fun x16 =>
  faK 1010039 y0 4 fun x17 =>
  stK 1010040 T7 x17 x16 fun T8 =>
  g101_k2 ro y0 y2 y3 T8 n7
 )
def g101_k1 (ro : List HT) (y0 y2 y3 : AV) (T2 : HT) (n2 : Nat) : R :=
 ixK 1010023 y3 (.lit (.int .i64 (.ofNat 0))) fun x9 =>
 callK (g130 ro (.lit (.string ⟨⟨[41, 93, 125]⟩⟩)) x9 T2 n2) fun x10 T6 n6 =>
 geK prog 3 (.tmp 44) (.const (.int .i64 (.ofNat 0))) 1010025 x10 (.lit (.int .i64 (.ofNat 0))) fun x11 =>
 condK 1010026 x11
 (
  fldK 1010028 T6 ro y0 4 fun x12 =>
  lenSK 1010029 x12 fun x13 =>
  subK prog 3 (.tmp 50) (.const (.int .i64 (.ofNat 1))) 1010030 x13 (.lit (.int .i64 (.ofNat 1))) fun x14 =>
  ltK prog 3 (.tmp 52) (.const (.int .i64 (.ofNat 0))) 1010042 x14 (.lit (.int .i64 (.ofNat 0))) fun x18 =>
  condK 1010044 x18
  (
   g101_k3 ro y0 y2 y3 x14 (.lit (.bool true)) T6 n6
  )
  (
   ncK 1010047 y0 fun x19 =>
   faK 1010048 x19 4 fun x20 =>
   ldK 1010049 T6 ro x20 fun x21 =>
   iaK 1010051 x21 x14 1 fun x22 =>
   ldK 1010052 T6 ro x22 fun x23 =>
   ixK 1010054 y3 (.lit (.int .i64 (.ofNat 0))) fun x24 =>
   neK prog 5 (.tmp 61) (.tmp 63) 1010055 x23 x24 fun x25 =>
   g101_k3 ro y0 y2 y3 x14 x25 T6 n6
  )
 )
 (
  g101_k2 ro y0 y2 y3 T6 n6
 )
def g101 (ro : List HT) (a0 : AV) (T : HT) (nx : Nat) : R :=
 callK (g129 ro a0 T nx) fun x1 T1 n1 =>
 eqSK prog 9 (.tmp 8) (.const (.string ⟨⟨[]⟩⟩)) 1010006 x1 (.lit (.string ⟨⟨[]⟩⟩)) fun x2 =>
 condK 1010007 x2
 (
  .bad 1010008
 )
 (
  ixK 1010058 x1 (.lit (.int .i64 (.ofNat 0))) fun x26 =>
  callK (g130 ro (.lit (.string ⟨⟨[40, 91, 123]⟩⟩)) x26 T1 n1) fun x27 T9 n9 =>
  geK prog 3 (.tmp 18) (.const (.int .i64 (.ofNat 0))) 1010062 x27 (.lit (.int .i64 (.ofNat 0))) fun x28 =>
  condK 1010063 x28
  (
   fldK 1010065 T9 ro a0 4 fun x29 =>
   lenSK 1010066 x29 fun x30 =>
   geK prog 3 (.tmp 24) (.const (.int .i64 (.ofNat 60))) 1010067 x30 (.lit (.int .i64 (.ofNat 60))) fun x31 =>
   condK 1010068 x31
   (
    .bad 1010069
   )
   (
    ncK 1010072 a0 fun x32 =>
    faK 1010073 x32 4 fun x33 =>
    ldK 1010074 T9 ro x33 fun x34 =>
    ixK 1010076 (.lit (.string ⟨⟨[41, 93, 125]⟩⟩)) x27 fun x35 =>
    bsK 1010077 T9 n9 1 5 1 [(0, x35)] fun x36 T10 n10 =>
    shrK 1010079 T10 x34 fun T11 =>
    appEK 1010078 T11 ro n10 5 1 1 x34 x36 fun x37 T12 n12 =>
    ncK 1010080 a0 fun x38 =>
    faK 1010081 x38 4 fun x39 =>
    stK 1010082 T12 x39 x37 fun T13 =>
    g101_k1 ro a0 (.lit (.nilIface)) x1 T13 n12
   )
  )
  (
   g101_k1 ro a0 (.lit (.nilIface)) x1 T9 n9
  )
 )
theorem g101_ok (ro : List HT) (a0 : AV) (T : HT) (nx : Nat) : GOk prog envE 101 [a0] ro T nx (g101 ro a0 T nx) := by
 refine GOk.of_body func101 rfl ntmps101 (by kernel_rfl) rfl fun r T' n' h1 w0 base ρ0 its hS hP => ?_
 have X : CtxW envE ρ0 ro r T' n' := trivial
 unfold g101 at h1
 refine sr ?_
 refine as_ ?_
 refine dn (sr ?_)
 refine mv ?_
 refine LV.call hS h1 (g129_ok _ _ _ _ ) hP rfl rfl rfl rfl fun x1 T1 n1 h2 ρ its hS => ?_
 refine as_ ?_
 refine dn (CV.seq (sr ?_))
 refine mv ?_
 refine vy (V.eqS h2 rfl rfl) fun x2 h3 => ?_
 refine dn ?_
 refine CV.cond h3 rfl (fun e h4 => ?_) (fun e h4 => ?_)
 ·
  subst e
  cases h4
 subst e
 refine CV.skip (PV.thenN ?_)
 refine cs3 X 0 2 3 [] (g101_k1 ro) ?_ ?_
 ·
  refine sr ?_
  refine mv ?_
  refine vy (V.ix h4 rfl rfl st9) fun x26 h36 => ?_
  refine LV.call hS h36 (g130_ok _ _ _ _ _ ) hP rfl rfl rfl rfl fun x27 T9 n9 h37 ρ its hS => ?_
  refine as_ ?_
  refine dn (sr ?_)
  refine mv ?_
  refine vy (V.ge h37 rfl rfl) fun x28 h38 => ?_
  refine dn ?_
  refine CV.cond h38 rfl (fun e h39 => ?_) (fun e h39 => ?_)
  ·
   subst e
   refine CV.seq (sr ?_)
   refine mv ?_
   refine fl hS h39 fo174_4 one64 fun x29 h40 => ?_
   refine vy (V.lenS h40 rfl ls64) fun x30 h41 => ?_
   refine vy (V.ge h41 rfl rfl) fun x31 h42 => ?_
   refine dn ?_
   refine CV.cond h42 rfl (fun e h43 => ?_) (fun e h43 => ?_)
   ·
    subst e
    cases h43
   subst e
   refine CV.skip (PV.thenN ?_)
   refine CV.regionM [(0, .anywhere), (1, .anywhere), (2, .anywhere), (3, .anywhere), (4, .held), (5, .anywhere), (6, .anywhere), (7, .alone), (8, .alone), (9, .alone), (10, .alone), (11, .alone)] rfl (fun c a a' w hd hq => PanicOk.root (P := prog) (fn := f101) (w0 := w0) (base := base) (E := envE) (ro := ro) (r := r) (T' := T') (n' := n') (ρ0 := ρ0) c a a' w hd hq) (by kernel_rfl) ?_
   refine MV.step0 (i := 0) rfl (VAL.move rfl) rfl rfl rfl ?_
   refine MV.step0 (i := 1) rfl (VAL.move rfl) rfl rfl rfl ?_
   refine MV.lift0 (i := 2) rfl (V.nc h43 rfl) rfl rfl rfl fun x32 h44 => ?_
   refine MV.lift0 (i := 3) rfl (V.fa h44 rfl fo174_4) rfl rfl rfl fun x33 h45 => ?_
   refine MV.lift1 (i := 4) rfl (fun _ z => z) (V.ld hS h45 rfl one64) rfl rfl rfl [] (by kernel_rfl) fun x34 h46 => ?_
   refine MV.step0 (i := 5) rfl (VAL.move rfl) rfl rfl rfl ?_
   refine MV.lift0 (i := 6) rfl (V.ix h46 rfl rfl st9) rfl rfl rfl fun x35 h47 => ?_
   refine MV.force (i := 7) rfl ?_
   refine LV.bslice hS h47 rfl rfl el64 rfl rfl rfl rfl fun x36 T10 n10 h48 ρ its hS hdr => ?_
   refine LV.nextM [4] (by kernel_rfl) (fun _ => hdr) ?_
   refine MV.force (i := 8) rfl ?_
   obtain ⟨T11, its1, h49, hS, hW⟩ := shrK_inv hS h48
   refine LV.world hW ?_
   refine LV.appE hS h49 rfl rfl rfl rfl el64 rfl rfl rfl fun x37 T12 n12 h50 ρ its hS => ?_
   refine LV.nextM [] (by kernel_rfl) (fun z => absurd rfl z) ?_
   refine MV.force (i := 9) rfl ?_
   refine vy (V.nc h50 rfl) fun x38 h51 => ?_
   refine LV.nextM [] (by kernel_rfl) (fun z => absurd rfl z) ?_
   refine MV.force (i := 10) rfl ?_
   refine vy (V.fa h51 rfl fo174_4) fun x39 h52 => ?_
   refine LV.nextM [] (by kernel_rfl) (fun z => absurd rfl z) ?_
   refine MV.force (i := 11) rfl ?_
   refine LV.st hS h52 rfl rfl rfl siz64 rfl rfl fun T13 its h53 hS => ?_
   refine LV.nextM [] (by kernel_rfl) (fun z => absurd rfl z) ?_
   refine MV.done ?_
   exact pa3 hS h53 ⟨rfl, rfl, rfl, trivial⟩
  subst e
  refine CV.skip ?_
  exact pa3 hS h39 ⟨rfl, rfl, rfl, trivial⟩
 intro y0 y2 y3 T2 n2 ρ its hS h5
 unfold g101_k1 at h5
 refine cs3 X 0 2 3 [] (g101_k2 ro) ?_ ?_
 ·
  refine sr ?_
  refine mv ?_
  refine vy (V.ix h5 rfl rfl st9) fun x9 h14 => ?_
  refine LV.call hS h14 (g130_ok _ _ _ _ _ ) hP rfl rfl rfl rfl fun x10 T6 n6 h15 ρ its hS => ?_
  refine vy (V.ge h15 rfl rfl) fun x11 h16 => ?_
  refine dn ?_
  refine CV.cond h16 rfl (fun e h17 => ?_) (fun e h17 => ?_)
  ·
   subst e
   refine sr ?_
   refine mv ?_
   refine fl hS h17 fo174_4 one64 fun x12 h18 => ?_
   refine vy (V.lenS h18 rfl ls64) fun x13 h19 => ?_
   refine vy (V.sub h19 rfl rfl) fun x14 h20 => ?_
   refine as_ ?_
   refine dn (CV.seq ?_)
   refine cs5 X 0 2 3 5 65 [] (g101_k3 ro) ?_ ?_
   ·
    refine CV.regionM [(0, .anywhere), (1, .anywhere), (2, .anywhere), (3, .anywhere), (4, .anywhere), (5, .anywhere), (6, .held), (7, .anywhere), (8, .held), (9, .held), (10, .anywhere), (11, .anywhere), (12, .held), (13, .held)] rfl (fun c a a' w hd hq => PanicOk.root (P := prog) (fn := f101) (w0 := w0) (base := base) (E := envE) (ro := ro) (r := r) (T' := T') (n' := n') (ρ0 := ρ0) c a a' w hd hq) (by kernel_rfl) ?_
    refine MV.step0 (i := 0) rfl (VAL.move rfl) rfl rfl rfl ?_
    refine MV.lift0 (i := 1) rfl (V.lt h20 rfl rfl) rfl rfl rfl fun x18 h27 => ?_
    refine MV.step0 (i := 2) rfl (VAL.move rfl) rfl rfl rfl ?_
    rcases condK_inv h27 with ⟨e, h28⟩ | ⟨e, h28⟩
    ·
     subst e
     refine MV.skip0 (i := 3) rfl rfl rfl rfl ?_
     refine MV.skip0 (i := 4) rfl rfl rfl rfl ?_
     refine MV.skip0 (i := 5) rfl rfl rfl rfl ?_
     refine MV.skip1 (i := 6) rfl (fun _ z => z) rfl rfl rfl [] (by kernel_rfl) ?_
     refine MV.skip0 (i := 7) rfl rfl rfl rfl ?_
     refine MV.skip1 (i := 8) rfl (fun _ z => z) rfl rfl rfl [] (by kernel_rfl) ?_
     refine MV.skip1 (i := 9) rfl (fun _ z => z) rfl rfl rfl [] (by kernel_rfl) ?_
     refine MV.skip0 (i := 10) rfl rfl rfl rfl ?_
     refine MV.skip0 (i := 11) rfl rfl rfl rfl ?_
     refine MV.skip1 (i := 12) rfl (fun _ z => z) rfl rfl rfl [] (by kernel_rfl) ?_
     refine MV.step1 (i := 13) rfl (fun _ z => z) (VAL.pure rfl) rfl rfl rfl [] (by kernel_rfl) ?_
     refine MV.done ?_
     exact pa5 hS h28 ⟨rfl, rfl, rfl, rfl, rfl, trivial⟩
    subst e
    refine MV.step0 (i := 3) rfl (VAL.move rfl) rfl rfl rfl ?_
    refine MV.lift0 (i := 4) rfl (V.nc h28 rfl) rfl rfl rfl fun x19 h29 => ?_
    refine MV.lift0 (i := 5) rfl (V.fa h29 rfl fo174_4) rfl rfl rfl fun x20 h30 => ?_
    refine MV.lift1 (i := 6) rfl (fun _ z => z) (V.ld hS h30 rfl one64) rfl rfl rfl [] (by kernel_rfl) fun x21 h31 => ?_
    refine MV.step0 (i := 7) rfl (VAL.move rfl) rfl rfl rfl ?_
    refine MV.lift1 (i := 8) rfl (fun _ z => z) (V.ia h31 rfl rfl el64) rfl rfl rfl [] (by kernel_rfl) fun x22 h32 => ?_
    refine MV.lift1 (i := 9) rfl (fun _ z => z) (V.ld hS h32 rfl one5) rfl rfl rfl [] (by kernel_rfl) fun x23 h33 => ?_
    refine MV.step0 (i := 10) rfl (VAL.move rfl) rfl rfl rfl ?_
    refine MV.lift0 (i := 11) rfl (V.ix h33 rfl rfl st9) rfl rfl rfl fun x24 h34 => ?_
    refine MV.lift1 (i := 12) rfl (fun _ z => z) (V.ne h34 rfl rfl) rfl rfl rfl [] (by kernel_rfl) fun x25 h35 => ?_
    refine MV.step1 (i := 13) rfl (fun _ z => z) (VAL.pure rfl) rfl rfl rfl [] (by kernel_rfl) ?_
    refine MV.done ?_
    exact pa5 hS h35 ⟨rfl, rfl, rfl, rfl, rfl, trivial⟩
   intro y0 y2 y3 y5 y65 T7 n7 ρ its hS h21
   unfold g101_k3 at h21
   refine CV.cond h21 rfl (fun e h22 => ?_) (fun e h22 => ?_)
   ·
    subst e
    cases h22
   subst e
   refine CV.skip (PV.thenN (CV.region ?_))
   iterate 2 refine mv ?_
   refine fl hS h22 fo174_4 one64 fun x15 h23 => ?_
   refine mv ?_
   refine vy (V.cutHi hS h23 rfl rfl el64) fun x16 h24 => ?_
   refine fa2 h24 fo174_4 fun x17 h25 => ?_
   refine LV.st hS h25 rfl rfl rfl siz64 rfl rfl fun T8 its h26 hS => ?_
   refine LV.done ?_
   exact pa3 hS h26 ⟨rfl, rfl, rfl, trivial⟩
  subst e
  refine CV.skip ?_
  exact pa3 hS h17 ⟨rfl, rfl, rfl, trivial⟩
 intro y0 y2 y3 T3 n3 ρ its hS h6
 unfold g101_k2 at h6
 refine sr ?_
 iterate 3 refine mv ?_
 refine fl hS h6 fo174_1 one3 fun x3 h7 => ?_
 refine LV.call hS h7 (g75_ok _ _ _ _ _ _ _ ) hP rfl rfl rfl rfl fun x4 T4 n4 h8 ρ its hS => ?_
 refine dn (sr ?_)
 refine mv ?_
 refine fl hS h8 fo174_1 one3 fun x5 h9 => ?_
 refine mv ?_
 refine vy (V.lenT h9 rfl ls9) fun x6 h10 => ?_
 refine vy (V.add h10 rfl rfl) fun x7 h11 => ?_
 refine fa2 h11 fo174_1 fun x8 h12 => ?_
 refine LV.st hS h12 rfl rfl rfl siz3 rfl rfl fun T5 its h13 hS => ?_
 refine dn (sr ?_)
 refine as_ ?_
 refine dn (CV.ret ?_)
 cases h13
 exact PV.ret (by simp) results101 hS (RS.tmp rfl RS.nil) rfl
def g72_k2 (ro : List HT) (y0 y2 y3 y73 : AV) (T6 : HT) (n6 : Nat) : R :=
 condK 720048 y73
 (
  callK (g100 ro y0 y3 T6 n6) fun x18 T7 n7 =>
  .ok (.val x18) T7 n7
 )
 (
  callK (g101 ro y0 T6 n6) fun x19 T8 n8 =>
  .ok (.val x19) T8 n8
 )
def g72_k1 (ro : List HT) (y0 y2 y3 : AV) (T2 : HT) (n2 : Nat) : R :=
 callK (g96 ro y3 T2 n2) fun x14 T3 n3 =>
 condK 720035 x14
 (
  .bad 720036
 )
 (
  callK (g98 ro y3 T3 n3) fun x15 T4 n4 =>
  condK 720040 x15
  (
   callK (g99 ro y0 T4 n4) fun x16 T5 n5 =>
   .ok (.val x16) T5 n5
  )
  (
   eqK prog 5 (.tmp 68) (.const (.int .u8 (.ofNat 34))) 720045 y3 (.lit (.int .u8 (.ofNat 34))) fun x17 =>
   condK 720056 x17
   (
    g72_k2 ro y0 y2 y3 (.lit (.bool true)) T4 n4
   )
   (
    eqK prog 5 (.tmp 71) (.const (.int .u8 (.ofNat 39))) 720059 y3 (.lit (.int .u8 (.ofNat 39))) fun x20 =>
    g72_k2 ro y0 y2 y3 x20 T4 n4
   )
  )
 )
def g72 (ro : List HT) (a0 : AV) (T : HT) (nx : Nat) : R :=
 ncK 720003 a0 fun x1 =>
 faK 720004 x1 0 fun x2 =>
 ldK 720005 T ro x2 fun x3 =>
 ncK 720007 a0 fun x4 =>
 faK 720008 x4 1 fun x5 =>
 ldK 720009 T ro x5 fun x6 =>
 ixK 720010 x3 x6 fun x7 =>
 eqK prog 5 (.tmp 15) (.const (.int .u8 (.ofNat 10))) 720013 x7 (.lit (.int .u8 (.ofNat 10))) fun x8 =>
 condK 720015 x8
 (
  .bad 720016
 )
 (
  eqK prog 5 (.tmp 33) (.const (.int .u8 (.ofNat 32))) 720018 x7 (.lit (.int .u8 (.ofNat 32))) fun x9 =>
  condK 720020 x9
  (
   fldK 720022 T ro a0 1 fun x10 =>
   addK prog 3 (.tmp 38) (.const (.int .i64 (.ofNat 1))) 720023 x10 (.lit (.int .i64 (.ofNat 1))) fun x11 =>
   faK 720024 a0 1 fun x12 =>
   stK 720025 T x12 x11 fun T1 =>
   .ok (.val (.lit (.nilIface))) T1 nx
  )
  (
   eqK prog 5 (.tmp 43) (.const (.int .u8 (.ofNat 35))) 720028 x7 (.lit (.int .u8 (.ofNat 35))) fun x13 =>
   condK 720030 x13
   (
    .bad 720031
   )
   (
    fldK 720062 T ro a0 5 fun x21 =>
    notK 720063 x21 fun x22 =>
    condK 720064 x22
    (
     callK (g95 ro a0 T nx) fun x23 T9 n9 =>
     bin0 prog .neq 28 (.tmp 54) (.const (.nilIface)) 720069 x23 (.lit (.nilIface)) fun x24 =>
     condK 720070 x24
     (
      .bad 720071
     )
     (
      g72_k1 ro a0 (.lit (.nilIface)) x7 T9 n9
     )
    )
    (
     g72_k1 ro a0 (.lit (.nilIface)) x7 T nx
    )
   )
  )
 )
theorem g72_ok (ro : List HT) (a0 : AV) (T : HT) (nx : Nat) : GOk prog envE 72 [a0] ro T nx (g72 ro a0 T nx) := by
 refine GOk.of_body func72 rfl ntmps72 (by kernel_rfl) rfl fun r T' n' h1 w0 base ρ0 its hS hP => ?_
 have X : CtxW envE ρ0 ro r T' n' := trivial
 unfold g72 at h1
 refine sr ?_
 refine as_ ?_
 refine dn (CV.seq ?_)
 refine CV.regionM [(0, .anywhere), (1, .anywhere), (2, .anywhere), (3, .held), (4, .anywhere), (5, .anywhere), (6, .anywhere), (7, .held), (8, .held), (9, .held)] rfl (fun c a a' w hd hq => PanicOk.root (P := prog) (fn := f72) (w0 := w0) (base := base) (E := envE) (ro := ro) (r := r) (T' := T') (n' := n') (ρ0 := ρ0) c a a' w hd hq) (by kernel_rfl) ?_
 refine MV.step0 (i := 0) rfl (VAL.move rfl) rfl rfl rfl ?_
 refine MV.lift0 (i := 1) rfl (V.nc h1 rfl) rfl rfl rfl fun x1 h2 => ?_
 refine MV.lift0 (i := 2) rfl (V.fa h2 rfl fo174_0) rfl rfl rfl fun x2 h3 => ?_
 refine MV.lift1 (i := 3) rfl (fun _ z => z) (V.ld hS h3 rfl one9) rfl rfl rfl [] (by kernel_rfl) fun x3 h4 => ?_
 refine MV.step0 (i := 4) rfl (VAL.move rfl) rfl rfl rfl ?_
 refine MV.lift0 (i := 5) rfl (V.nc h4 rfl) rfl rfl rfl fun x4 h5 => ?_
 refine MV.lift0 (i := 6) rfl (V.fa h5 rfl fo174_1) rfl rfl rfl fun x5 h6 => ?_
 refine MV.lift1 (i := 7) rfl (fun _ z => z) (V.ld hS h6 rfl one3) rfl rfl rfl [3] (by kernel_rfl) fun x6 h7 => ?_
 refine MV.lift1 (i := 8) rfl (fun _ z => z) (V.ix h7 rfl rfl st9) rfl rfl rfl [] (by kernel_rfl) fun x7 h8 => ?_
 refine MV.step1 (i := 9) rfl (fun _ z => z) (VAL.assign rfl) rfl rfl rfl [] (by kernel_rfl) ?_
 refine mdn (CV.seq (CV.block (sr ?_)))
 refine mv ?_
 refine vy (V.eq h8 rfl rfl) fun x8 h9 => ?_
 refine as_ ?_
 refine dn ?_
 refine CV.cond h9 rfl (fun e h10 => ?_) (fun e h10 => ?_)
 ·
  subst e
  cases h10
 subst e
 refine sr ?_
 refine mv ?_
 refine vy (V.eq h10 rfl rfl) fun x9 h11 => ?_
 refine as_ ?_
 refine dn ?_
 refine CV.cond h11 rfl (fun e h12 => ?_) (fun e h12 => ?_)
 ·
  subst e
  refine sr ?_
  refine mv ?_
  refine fl hS h12 fo174_1 one3 fun x10 h13 => ?_
  refine vy (V.add h13 rfl rfl) fun x11 h14 => ?_
  refine fa2 h14 fo174_1 fun x12 h15 => ?_
  refine LV.st hS h15 rfl rfl rfl siz3 rfl rfl fun T1 its h16 hS => ?_
  refine dn (sr ?_)
  refine as_ ?_
  refine dn (CV.ret (PV.blockR (PV.thenR ?_)))
  cases h16
  exact PV.ret (by simp) results72 hS (RS.tmp rfl RS.nil) rfl
 subst e
 refine sr ?_
 refine mv ?_
 refine vy (V.eq h12 rfl rfl) fun x13 h17 => ?_
 refine as_ ?_
 refine dn ?_
 refine CV.cond h17 rfl (fun e h18 => ?_) (fun e h18 => ?_)
 ·
  subst e
  cases h18
 subst e
 refine CV.skip (PV.blockN (PV.thenN ?_))
 refine cs3 X 0 2 3 [] (g72_k1 ro) ?_ ?_
 ·
  refine sr ?_
  refine mv ?_
  refine fl hS h18 fo174_5 one4 fun x21 h32 => ?_
  refine vy (V.not h32 rfl) fun x22 h33 => ?_
  refine dn ?_
  refine CV.cond h33 rfl (fun e h34 => ?_) (fun e h34 => ?_)
  ·
   subst e
   refine sr ?_
   refine mv ?_
   refine LV.call hS h34 (g95_ok _ _ _ _ ) hP rfl rfl rfl rfl fun x23 T9 n9 h35 ρ its hS => ?_
   refine as_ ?_
   refine dn (sr ?_)
   refine mv ?_
   refine vy (V.bin0 h35 rfl rfl) fun x24 h36 => ?_
   refine dn ?_
   refine CV.cond h36 rfl (fun e h37 => ?_) (fun e h37 => ?_)
   ·
    subst e
    cases h37
   subst e
   refine CV.skip ?_
   exact pa3 hS h37 ⟨rfl, rfl, rfl, trivial⟩
  subst e
  refine CV.skip ?_
  exact pa3 hS h34 ⟨rfl, rfl, rfl, trivial⟩
 intro y0 y2 y3 T2 n2 ρ its hS h19
 unfold g72_k1 at h19
 refine CV.seq (CV.block (sr ?_))
 refine mv ?_
 refine LV.call hS h19 (g96_ok _ _ _ _ ) hP rfl rfl rfl rfl fun x14 T3 n3 h20 ρ its hS => ?_
 refine as_ ?_
 refine dn ?_
 refine CV.cond h20 rfl (fun e h21 => ?_) (fun e h21 => ?_)
 ·
  subst e
  cases h21
 subst e
 refine sr ?_
 refine mv ?_
 refine LV.call hS h21 (g98_ok _ _ _ _ ) hP rfl rfl rfl rfl fun x15 T4 n4 h22 ρ its hS => ?_
 refine as_ ?_
 refine dn ?_
 refine CV.cond h22 rfl (fun e h23 => ?_) (fun e h23 => ?_)
 ·
  subst e
  refine sr ?_
  refine mv ?_
  refine LV.call hS h23 (g99_ok _ _ _ _ ) hP rfl rfl rfl rfl fun x16 T5 n5 h24 ρ its hS => ?_
  refine as_ ?_
  refine dn (CV.ret (PV.blockR (PV.thenR ?_)))
  cases h24
  exact PV.ret (by simp) results72 hS (RS.tmp rfl RS.nil) rfl
 subst e
 refine sr ?_
 refine mv ?_
 refine vy (V.eq h23 rfl rfl) fun x17 h25 => ?_
 refine mv ?_
 refine ls4 X 0 2 3 73 [] (g72_k2 ro) 3 ?_ ?_
 ·
  rcases condK_inv h25 with ⟨e, h30⟩ | ⟨e, h30⟩
  ·
   subst e
   iterate 2 refine sk ?_
   refine pu ?_
   exact la4 hS h30 ⟨rfl, rfl, rfl, rfl, trivial⟩
  subst e
  refine mv ?_
  refine vy (V.eq h30 rfl rfl) fun x20 h31 => ?_
  refine pu ?_
  exact la4 hS h31 ⟨rfl, rfl, rfl, rfl, trivial⟩
 intro y0 y2 y3 y73 T6 n6 ρ its hS h26
 unfold g72_k2 at h26
 refine as_ ?_
 refine dn ?_
 refine CV.cond h26 rfl (fun e h27 => ?_) (fun e h27 => ?_)
 ·
  subst e
  refine sr ?_
  iterate 2 refine mv ?_
  refine LV.call hS h27 (g100_ok _ _ _ _ _ ) hP rfl rfl rfl rfl fun x18 T7 n7 h28 ρ its hS => ?_
  refine as_ ?_
  refine dn (CV.ret (PV.blockR (PV.thenR ?_)))
  cases h28
  exact PV.ret (by simp) results72 hS (RS.tmp rfl RS.nil) rfl
 subst e
 refine CV.skip (PV.blockN (PV.thenN (sr ?_)))
 refine mv ?_
 refine LV.call hS h27 (g101_ok _ _ _ _ ) hP rfl rfl rfl rfl fun x19 T8 n8 h29 ρ its hS => ?_
 refine as_ ?_
 refine dn (CV.ret ?_)
 cases h29
 exact PV.ret (by simp) results72 hS (RS.tmp rfl RS.nil) rfl
def g74_k1 (ro : List HT) (y0 : AV) (T1 : HT) (n1 : Nat) : R :=
 faK 740002 y0 5 fun x1 =>
 stK 740003 T1 x1 (.lit (.bool false)) fun T2 =>
 .ok (.val (.tup [])) T2 n1
def g74 (ro : List HT) (a0 : AV) (T : HT) (nx : Nat) : R :=
 fldK 740005 T ro a0 5 fun x2 =>
 condK 740006 x2
 (
  fldK 740009 T ro a0 1 fun x3 =>
  callK (g75 ro a0 (.lit (.int .i64 (.ofNat 5))) (.lit (.string ⟨⟨[]⟩⟩)) x3 T nx) fun x4 T3 n3 =>
  g74_k1 ro a0 T3 n3
 )
 (
  g74_k1 ro a0 T nx
 )
theorem g74_ok (ro : List HT) (a0 : AV) (T : HT) (nx : Nat) : GOk prog envE 74 [a0] ro T nx (g74 ro a0 T nx) := by
 refine GOk.of_body func74 rfl ntmps74 (by kernel_rfl) rfl fun r T' n' h1 w0 base ρ0 its hS hP => ?_
 have X : CtxW envE ρ0 ro r T' n' := trivial
 unfold g74 at h1
 refine cs1 X 0 [] (g74_k1 ro) ?_ ?_
 ·
  refine sr ?_
  refine mv ?_
  refine fl hS h1 fo174_5 one4 fun x2 h5 => ?_
  refine dn ?_
  refine CV.cond h5 rfl (fun e h6 => ?_) (fun e h6 => ?_)
  ·
   subst e
   refine CV.region ?_
   iterate 2 refine mv ?_
   refine fl hS h6 fo174_1 one3 fun x3 h7 => ?_
   refine LV.call hS h7 (g75_ok _ _ _ _ _ _ _ ) hP rfl rfl rfl rfl fun x4 T3 n3 h8 ρ its hS => ?_
   refine LV.done ?_
   exact pa1 hS h8 ⟨rfl, trivial⟩
  subst e
  refine CV.skip ?_
  exact pa1 hS h6 ⟨rfl, trivial⟩
 intro y0 T1 n1 ρ its hS h2
 unfold g74_k1 at h2
 refine CV.region ?_
 refine mv ?_
 refine fa2 h2 fo174_5 fun x1 h3 => ?_
 refine LV.st hS h3 rfl rfl rfl siz4 rfl rfl fun T2 its h4 hS => ?_
 refine LV.done ?_
 cases h4
 exact PV.ret (by simp) results74 hS RS.nil rfl
def g53_b2 (ro : List HT) (lp2 : AV → AV → AV → AV → AV → HT → Nat → R) (y2 y3 y4 y48 y49 : AV) (T6 : HT) (n6 : Nat) : R :=
 ltK prog 3 (.tmp 49) (.tmp 48) 530045 y49 y48 fun x22 =>
 condK 530046 x22
 (
  fldK 530049 T6 ro y4 0 fun x23 =>
  lenTK 530050 x23 fun x24 =>
  callK (g75 ro y4 (.lit (.int .i64 (.ofNat 7))) (.lit (.string ⟨⟨[]⟩⟩)) x24 T6 n6) fun x25 T7 n7 =>
  addK prog 3 (.tmp 49) (.const (.int .i64 (.ofNat 1))) 530052 y49 (.lit (.int .i64 (.ofNat 1))) fun x26 =>
  lp2 y2 y3 y4 y48 x26 T7 n7
 )
 (
  fldK 530056 T6 ro y4 0 fun x27 =>
  lenTK 530057 x27 fun x28 =>
  callK (g75 ro y4 (.lit (.int .i64 (.ofNat 8))) (.lit (.string ⟨⟨[]⟩⟩)) x28 T6 n6) fun x29 T8 n8 =>
  fldK 530060 T8 ro y4 2 fun x30 =>
  .ok (.val (.tup [x30, (.lit (.nilIface))])) T8 n8
 )
def g53_b1 (ro : List HT) (lp1 : AV → AV → AV → HT → Nat → R) (y2 y3 y4 : AV) (T3 : HT) (n3 : Nat) : R :=
 ncK 530015 y4 fun x6 =>
 faK 530016 x6 1 fun x7 =>
 ldK 530017 T3 ro x7 fun x8 =>
 ncK 530019 y4 fun x9 =>
 faK 530020 x9 0 fun x10 =>
 ldK 530021 T3 ro x10 fun x11 =>
 lenTK 530022 x11 fun x12 =>
 ltK prog 3 (.tmp 17) (.tmp 22) 530023 x8 x12 fun x13 =>
 condK 530024 x13
 (
  callK (g72 ro y4 T3 n3) fun x14 T4 n4 =>
  bin0 prog .neq 28 (.tmp 26) (.const (.nilIface)) 530029 x14 (.lit (.nilIface)) fun x15 =>
  condK 530030 x15
  (
   .bad 530031
  )
  (
   lp1 y2 y3 y4 T4 n4
  )
 )
 (
  fldK 530033 T3 ro y4 4 fun x16 =>
  lenSK 530034 x16 fun x17 =>
  gtK prog 3 (.tmp 33) (.const (.int .i64 (.ofNat 0))) 530035 x17 (.lit (.int .i64 (.ofNat 0))) fun x18 =>
  condK 530036 x18
  (
   .bad 530037
  )
  (
   callK (g74 ro y4 T3 n3) fun x19 T5 n5 =>
   fldK 530041 T5 ro y4 3 fun x20 =>
   cutLenK 530042 T5 ro x20 (.lit (.int .i64 (.ofNat 1))) fun x21 =>
   lpf5 530044 (g53_b2 ro) 100000 y2 y3 y4 x21 (.lit (.int .i64 (.ofNat 0))) T5 n5
  )
 )
def g53 (ro : List HT) (a0 : AV) (T : HT) (nx : Nat) : R :=
 lenTK 530004 a0 fun x1 =>
 gtK prog 3 (.tmp 7) (.const (.int .i64 (.ofNat 65536))) 530005 x1 (.lit (.int .i64 (.ofNat 65536))) fun x2 =>
 condK 530006 x2
 (
  .bad 530007
 )
 (
  bsK 530009 T nx 1 3 1 [(0, (.lit (.int .i64 (.ofNat 0))))] fun x3 T1 n1 =>
  optK 530010 (bld174 [(0, a0), (3, x3)]) fun x4 =>
  boxK 530011 T1 n1 x4 174 fun x5 T2 n2 =>
  lpf3 530013 (g53_b1 ro) 100000 (.lit (.slice none 0 0)) (.lit (.nilIface)) x5 T2 n2
 )
theorem g53_ok (ro : List HT) (a0 : AV) (T : HT) (nx : Nat) : GOk prog envE 53 [a0] ro T nx (g53 ro a0 T nx) := by
 refine GOk.of_body func53 rfl ntmps53 (by kernel_rfl) rfl fun r T' n' h1 w0 base ρ0 its hS hP => ?_
 have X : CtxW envE ρ0 ro r T' n' := trivial
 unfold g53 at h1
 refine sr ?_
 iterate 2 refine as_ ?_
 refine dn (CV.seq (sr ?_))
 refine mv ?_
 refine vy (V.lenT h1 rfl ls9) fun x1 h2 => ?_
 refine vy (V.gt h2 rfl rfl) fun x2 h3 => ?_
 refine dn ?_
 refine CV.cond h3 rfl (fun e h4 => ?_) (fun e h4 => ?_)
 ·
  subst e
  cases h4
 subst e
 refine CV.skip (PV.thenN (sr ?_))
 refine mv ?_
 refine LV.bslice hS h4 rfl rfl el22 rfl rfl rfl rfl fun x3 T1 n1 h5 ρ its hS hdr => ?_
 refine vy (V.bld h5 rfl) fun x4 h6 => ?_
 refine LV.box hS h6 rfl rfl rfl rfl rfl fun x5 T2 n2 h7 ρ its hS hdr => ?_
 refine as_ ?_
 refine dn (CV.seq (CV.block ?_))
 refine cl3 X 2 3 4 [] hS h7 ⟨rfl, rfl, rfl, trivial⟩ ?_
 intro f1 y2 y3 y4 T3 n3 ρ its hS h8
 unfold g53_b1 at h8
 refine CV.seq (CV.seq ?_)
 refine CV.regionM [(0, .anywhere), (1, .anywhere), (2, .anywhere), (3, .held), (4, .anywhere), (5, .anywhere), (6, .anywhere), (7, .held), (8, .held), (9, .held)] rfl (fun c a a' w hd hq => PanicOk.root (P := prog) (fn := f53) (w0 := w0) (base := base) (E := envE) (ro := ro) (r := r) (T' := T') (n' := n') (ρ0 := ρ0) c a a' w hd hq) (by kernel_rfl) ?_
 refine MV.step0 (i := 0) rfl (VAL.move rfl) rfl rfl rfl ?_
 refine MV.lift0 (i := 1) rfl (V.nc h8 rfl) rfl rfl rfl fun x6 h9 => ?_
 refine MV.lift0 (i := 2) rfl (V.fa h9 rfl fo174_1) rfl rfl rfl fun x7 h10 => ?_
 refine MV.lift1 (i := 3) rfl (fun _ z => z) (V.ld hS h10 rfl one3) rfl rfl rfl [] (by kernel_rfl) fun x8 h11 => ?_
 refine MV.step0 (i := 4) rfl (VAL.move rfl) rfl rfl rfl ?_
 refine MV.lift0 (i := 5) rfl (V.nc h11 rfl) rfl rfl rfl fun x9 h12 => ?_
 refine MV.lift0 (i := 6) rfl (V.fa h12 rfl fo174_0) rfl rfl rfl fun x10 h13 => ?_
 refine MV.lift1 (i := 7) rfl (fun _ z => z) (V.ld hS h13 rfl one9) rfl rfl rfl [3] (by kernel_rfl) fun x11 h14 => ?_
 refine MV.lift1 (i := 8) rfl (fun _ z => z) (V.lenT h14 rfl ls9) rfl rfl rfl [3] (by kernel_rfl) fun x12 h15 => ?_
 refine MV.lift1 (i := 9) rfl (fun _ z => z) (V.lt h15 rfl rfl) rfl rfl rfl [] (by kernel_rfl) fun x13 h16 => ?_
 refine mdn ?_
 refine CV.cond h16 rfl (fun e h17 => ?_) (fun e h17 => ?_)
 ·
  subst e
  refine CV.skip (PV.thenN (CV.block (sr ?_)))
  refine mv ?_
  refine LV.call hS h17 (g72_ok _ _ _ _ ) hP rfl rfl rfl rfl fun x14 T4 n4 h18 ρ its hS => ?_
  refine as_ ?_
  refine dn (sr ?_)
  refine mv ?_
  refine vy (V.bin0 h18 rfl rfl) fun x15 h19 => ?_
  refine dn ?_
  refine CV.cond h19 rfl (fun e h20 => ?_) (fun e h20 => ?_)
  ·
   subst e
   cases h20
  subst e
  refine CV.skip (PV.blockN ?_)
  exact pb3 hS h20 ⟨rfl, rfl, rfl, trivial⟩
 subst e
 refine CV.exit (PV.thenE (PV.thenE (PV.blockE (PV.thenN (CV.seq (sr ?_))))))
 refine mv ?_
 refine fl hS h17 fo174_4 one64 fun x16 h21 => ?_
 refine vy (V.lenS h21 rfl ls64) fun x17 h22 => ?_
 refine vy (V.gt h22 rfl rfl) fun x18 h23 => ?_
 refine dn ?_
 refine CV.cond h23 rfl (fun e h24 => ?_) (fun e h24 => ?_)
 ·
  subst e
  cases h24
 subst e
 refine CV.skip (PV.thenN (sr ?_))
 refine mv ?_
 refine LV.call hS h24 (g74_ok _ _ _ _ ) hP rfl rfl rfl rfl fun x19 T5 n5 h25 ρ its hS => ?_
 refine dn (CV.seq (sr ?_))
 refine mv ?_
 refine fl hS h25 fo174_3 one22 fun x20 h26 => ?_
 refine LV.cutLen hS h26 rfl rfl rfl el22 rfl rfl rfl rfl rfl ls22 rfl rfl rfl fun x21 h27 => ?_
 refine mv ?_
 refine dn (CV.block ?_)
 refine cl5 X 2 3 4 48 49 [] hS h27 ⟨rfl, rfl, rfl, rfl, rfl, trivial⟩ ?_
 intro f2 y2 y3 y4 y48 y49 T6 n6 ρ its hS h28
 unfold g53_b2 at h28
 refine sr ?_
 refine vy (V.lt h28 rfl rfl) fun x22 h29 => ?_
 refine dn (CV.seq ?_)
 refine CV.cond h29 rfl (fun e h30 => ?_) (fun e h30 => ?_)
 ·
  subst e
  refine CV.skip (PV.thenN (CV.seq (CV.block (CV.region ?_))))
  iterate 2 refine mv ?_
  refine fl hS h30 fo174_0 one9 fun x23 h31 => ?_
  refine vy (V.lenT h31 rfl ls9) fun x24 h32 => ?_
  refine LV.call hS h32 (g75_ok _ _ _ _ _ _ _ ) hP rfl rfl rfl rfl fun x25 T7 n7 h33 ρ its hS => ?_
  refine LV.done (PV.blockN (PV.thenN (CV.region ?_)))
  refine vy (V.add h33 rfl rfl) fun x26 h34 => ?_
  refine mv ?_
  refine LV.done ?_
  exact pb5 hS h34 ⟨rfl, rfl, rfl, rfl, rfl, trivial⟩
 subst e
 refine CV.exit (PV.thenE (PV.thenE (PV.blockE (PV.thenN (sr ?_)))))
 iterate 2 refine mv ?_
 refine fl hS h30 fo174_0 one9 fun x27 h35 => ?_
 refine vy (V.lenT h35 rfl ls9) fun x28 h36 => ?_
 refine LV.call hS h36 (g75_ok _ _ _ _ _ _ _ ) hP rfl rfl rfl rfl fun x29 T8 n8 h37 ρ its hS => ?_
 refine dn (sr ?_)
 refine mv ?_
 refine fl hS h37 fo174_2 one97 fun x30 h38 => ?_
 iterate 2 refine as_ ?_
 refine dn (CV.ret ?_)
 cases h38
 exact PV.ret (by simp) results53 hS (RS.tmp rfl (RS.tmp rfl RS.nil)) rfl
def g54_k1 (ro : List HT) (y4 y16 : AV) (T3 : HT) (n3 : Nat) : R :=
 condK 540012 y16
 (
  .bad 540013
 )
 (
  condK 540015 y4
  (
   .bad 540016
  )
  (
   .ok (.val (.lit undef)) T3 n3
  )
 )
def gd54 (ro : List HT) (pv : AV) (a0 a1 : AV) (T : HT) (nx : Nat) : R :=
 asK 540002 pv 139 (.tup [.lit (.agg #[.pointer none]), .lit (.bool false)]) fun x1 =>
 exK 540004 x1 0 fun x2 =>
 exK 540005 x1 1 fun x3 =>
 newK T nx (.obj [.lit (.pointer none)] 139) fun x4 T1 n1 =>
 stAK 540007 T1 x4 x2 1 fun T2 =>
 bin0 prog .neq 20 (.tmp 11) (.const (.nilIface)) 540010 pv (.lit (.nilIface)) fun x5 =>
 condK 540017 x5
 (
  notK 540019 x3 fun x6 =>
  g54_k1 ro x3 x6 T2 n1
 )
 (
  g54_k1 ro x3 (.lit (.bool false)) T2 n1
 )
theorem gd54_ok (ro : List HT) (pv : AV) (a0 a1 : AV) (T : HT) (nx : Nat) : GDk prog envE 54 [a0, a1] ro T nx pv (gd54 ro pv a0 a1 T nx) := by
 refine GDk.of_body func54 rfl ntmps54 results54 rfl rfl rfl rfl fun r T' n' h1 w0 base ρ0 its hS hP => ?_
 have X : CtxW envE ρ0 ro (.val r) T' n' := trivial
 unfold gd54 at h1
 refine sr ?_
 refine mv ?_
 refine vy (V.as h1 rfl ni139 za139) fun x1 h2 => ?_
 refine mv ?_
 refine vy (V.ex h2 rfl) fun x2 h3 => ?_
 refine vy (V.ex h3 rfl) fun x3 h4 => ?_
 refine LV.alloc hS h4 rfl zr139 rfl rfl rfl fun x4 T1 n1 h5 ρ its hS hdr => ?_
 refine LV.stA hS h5 rfl rfl rfl agg139 rfl rfl rfl fun T2 its h6 hS => ?_
 refine as_ ?_
 refine dn (CV.seq (sr ?_))
 refine mv ?_
 refine vy (V.bin0 h6 rfl rfl) fun x5 h7 => ?_
 refine mv ?_
 refine ls2 X 4 16 [] (g54_k1 ro) 3 ?_ ?_
 ·
  rcases condK_inv h7 with ⟨e, h11⟩ | ⟨e, h11⟩
  ·
   subst e
   refine mv ?_
   refine vy (V.not h11 rfl) fun x6 h12 => ?_
   refine pu ?_
   exact la2 hS h12 ⟨rfl, rfl, trivial⟩
  subst e
  iterate 2 refine sk ?_
  refine pu ?_
  exact la2 hS h11 ⟨rfl, rfl, trivial⟩
 intro y4 y16 T3 n3 ρ its hS h8
 unfold g54_k1 at h8
 refine dn ?_
 refine CV.cond h8 rfl (fun e h9 => ?_) (fun e h9 => ?_)
 ·
  subst e
  cases h9
 subst e
 refine CV.skip (PV.thenN (sr ?_))
 refine mv ?_
 refine dn ?_
 refine CV.cond h9 rfl (fun e h10 => ?_) (fun e h10 => ?_)
 ·
  subst e
  cases h10
 subst e
 refine CV.skip ?_
 cases h10
 exact PV.dend hS
def g32 (ro : List HT) (a0 a1 : AV) (T : HT) (nx : Nat) : R :=
 newK T nx (.obj [.lit (.slice none 0 0)] 50) fun x1 T1 n1 =>
 newK T1 n1 (.obj [.lit (.nilIface)] 28) fun x2 T2 n2 =>
 callK (g53 ro a0 T2 n2) fun x3 T3 n3 =>
 exK 320006 x3 0 fun x4 =>
 exK 320007 x3 1 fun x5 =>
 stK 320009 T3 x2 x5 fun T4 =>
 ldK 320010 T4 ro x2 fun x6 =>
 bin0 prog .neq 28 (.tmp 13) (.const (.nilIface)) 320011 x6 (.lit (.nilIface)) fun x7 =>
 condK 320012 x7
 (
  .bad 320013
 )
 (
  optK 320015 (bld99 [(0, x4)]) fun x8 =>
  boxK 320016 T4 n3 x8 99 fun x9 T5 n5 =>
  dynK 320022 a1 fun f p q => callPK 320022 (scc3 4000 f ro (p ++ ([x9] ++ q)) T5 n5) (fun pv t m => leaveK 320022 (gd54 ro pv x1 x2 t m) fun T6 n6 =>
   ldK 320023 T6 ro x1 fun x10 =>
   ldK 320024 T6 ro x2 fun x11 =>
   .ok (.val (.tup [x10, x11])) T6 n6
  ) fun x12 T7 n7 =>
  fldK 320026 T7 ro x9 2 fun x13 =>
  stK 320027 T7 x1 x13 fun T8 =>
  stK 320028 T8 x2 (.lit (.nilIface)) fun T9 =>
  leaveK 320029 (gd54 ro (.lit .nilIface) x1 x2 T9 n7) fun T10 n10 =>
  ldK 320030 T10 ro x1 fun x14 =>
  ldK 320031 T10 ro x2 fun x15 =>
  .ok (.val (.tup [x14, x15])) T10 n10
 )
theorem g32_ok (ro : List HT) (a0 a1 : AV) (T : HT) (nx : Nat) : GOk prog envE 32 [a0, a1] ro T nx (g32 ro a0 a1 T nx) := by
 refine GOk.of_bodyD func32 rfl ntmps32 (by kernel_rfl) rfl fun r T' n' h1 w0 base ρ0 its hS hP => ?_
 have X : CtxW envE ρ0 ro r T' n' := trivial
 unfold g32 at h1
 refine sr ?_
 refine LV.alloc hS h1 rfl zr50 rfl rfl rfl fun x1 T1 n1 h2 ρ its hS hdr => ?_
 refine LV.alloc hS h2 rfl zr28 rfl rfl rfl fun x2 T2 n2 h3 ρ its hS hdr => ?_
 refine dn (sr ?_)
 refine mv ?_
 refine LV.call hS h3 (g53_ok _ _ _ _ ) hP rfl rfl rfl rfl fun x3 T3 n3 h4 ρ its hS => ?_
 refine mv ?_
 refine vy (V.ex h4 rfl) fun x4 h5 => ?_
 refine vy (V.ex h5 rfl) fun x5 h6 => ?_
 refine as_ ?_
 refine LV.st hS h6 rfl rfl rfl siz28 rfl rfl fun T4 its h7 hS => ?_
 refine dn (CV.seq (sr ?_))
 refine vy (V.ld hS h7 rfl one28) fun x6 h8 => ?_
 refine vy (V.bin0 h8 rfl rfl) fun x7 h9 => ?_
 refine dn ?_
 refine CV.cond h9 rfl (fun e h10 => ?_) (fun e h10 => ?_)
 ·
  subst e
  cases h10
 subst e
 refine CV.skip (PV.thenN (sr ?_))
 refine mv ?_
 refine vy (V.bld h10 rfl) fun x8 h11 => ?_
 refine LV.box hS h11 rfl rfl rfl rfl rfl fun x9 T5 n5 h12 ρ its hS hdr => ?_
 refine as_ ?_
 refine dn (sr ?_)
 refine pu ?_
 refine LV.defer rfl rfl rfl rfl rfl rfl fun us hys => ?_
 refine dn (sr ?_)
 iterate 2 refine mv ?_
 refine LV.callDP (fn := f32) (kf := 54) (Xp := fun pv t m => gd54 ro pv x1 x2 t m) (G := fun f gs => scc3 4000 f ro gs T5 n5) (qs := [x9]) hS h12 (fun f gs => scc3_ok _ _ _ _ _ _) (fun pv t m => gd54_ok _ _ _ _ _ _ ) en54 hys (fun ch a w z => z) rfl rfl rfl rfl rfl rfl rfl (fun T6 n6 h13 ρ its hS => ?_) (fun x12 T7 n7 h16 ρ its hE hS => ?_)
 refine PV.ld (x := .tmp 4) (t := 50) hS h13 rfl one50 fun x10 h14 hVx4_10 => ?_
 refine PV.ld (x := .tmp 5) (t := 28) hS h14 rfl one28 fun x11 h15 hVx5_11 => ?_
 cases h15
 exact PV.ret (by simp) results32 hS (RS.cell hVx4_10 (RS.cell hVx5_11 RS.nil)) rfl
 have hys := instL_ext hE _ _ hys
 refine dn (sr ?_)
 refine mv ?_
 refine fl hS h16 fo99_2 one50 fun x13 h17 => ?_
 refine LV.st hS h17 rfl rfl rfl siz50 rfl rfl fun T8 its h18 hS => ?_
 refine LV.st hS h18 rfl rfl rfl siz28 rfl rfl fun T9 its h19 hS => ?_
 refine dn (CV.ret ?_)
 refine PV.leaveR (by simp) hS hys h19 (gd54_ok _ _ _ _ _ _ ) en54 fun T10 n10 h20 ρ its hS => ?_
 refine PV.ld (x := .tmp 4) (t := 50) hS h20 rfl one50 fun x14 h21 hVx4_14 => ?_
 refine PV.ld (x := .tmp 5) (t := 28) hS h21 rfl one28 fun x15 h22 hVx5_15 => ?_
 cases h22
 exact PV.ret (by simp) results32 hS (RS.cell hVx4_14 (RS.cell hVx5_15 RS.nil)) rfl
def g18 (ro : List HT) (a0 : AV) (T : HT) (nx : Nat) : R :=
 callK (g32 ro a0 (.lit (.func (.func 33) #[] #[])) T nx) fun x1 T1 n1 =>
 exK 180005 x1 0 fun x2 =>
 exK 180006 x1 1 fun x3 =>
 .ok (.val (.tup [x2, x3])) T1 n1
theorem g18_ok (ro : List HT) (a0 : AV) (T : HT) (nx : Nat) : GOk prog envE 18 [a0] ro T nx (g18 ro a0 T nx) := by
 refine GOk.of_body func18 rfl ntmps18 (by kernel_rfl) rfl fun r T' n' h1 w0 base ρ0 its hS hP => ?_
 have X : CtxW envE ρ0 ro r T' n' := trivial
 unfold g18 at h1
 refine sr ?_
 iterate 2 refine as_ ?_
 refine dn (sr ?_)
 refine mv ?_
 refine LV.call hS h1 (g32_ok _ _ _ _ _ ) hP rfl rfl rfl rfl fun x1 T1 n1 h2 ρ its hS => ?_
 refine vy (V.ex h2 rfl) fun x2 h3 => ?_
 refine vy (V.ex h3 rfl) fun x3 h4 => ?_
 iterate 2 refine as_ ?_
 refine dn (CV.ret ?_)
 cases h4
 exact PV.ret (by simp) results18 hS (RS.tmp rfl (RS.tmp rfl RS.nil)) rfl
def g37 (ro : List HT) (a0 : AV) (T : HT) (nx : Nat) : R :=
 slEqK prog .eql false 50 (.tmp 3) (.const (.slice none 0 0)) 370003 a0 fun x1 =>
 condK 370004 x1
 (
  .bad 370005
 )
 (
  bs0K T nx 105 5 fun x2 T1 n1 =>
  shrK 370009 T1 x2 fun T2 =>
  appEK 370008 T2 ro n1 105 5 64 x2 a0 fun x3 T3 n3 =>
  .ok (.val x3) T3 n3
 )
theorem g37_ok (ro : List HT) (a0 : AV) (T : HT) (nx : Nat) : GOk prog envE 37 [a0] ro T nx (g37 ro a0 T nx) := by
 refine GOk.of_body func37 rfl ntmps37 (by kernel_rfl) rfl fun r T' n' h1 w0 base ρ0 its hS hP => ?_
 have X : CtxW envE ρ0 ro r T' n' := trivial
 unfold g37 at h1
 refine sr ?_
 refine as_ ?_
 refine dn (CV.seq (sr ?_))
 refine mv ?_
 refine vy (V.slEq h1 rfl slt50) fun x1 h2 => ?_
 refine dn ?_
 refine CV.cond h2 rfl (fun e h3 => ?_) (fun e h3 => ?_)
 ·
  subst e
  cases h3
 subst e
 refine CV.skip (PV.thenN (sr ?_))
 refine LV.bs0 hS h3 rfl el50 rfl rfl rfl fun x2 T1 n1 h4 ρ its hS hdr => ?_
 refine mv ?_
 obtain ⟨T2, its1, h5, hS, hW⟩ := shrK_inv hS h4
 refine LV.world hW ?_
 refine LV.appE hS h5 rfl rfl rfl rfl el50 rfl rfl rfl fun x3 T3 n3 h6 ρ its hS => ?_
 refine as_ ?_
 refine dn (CV.ret ?_)
 cases h6
 exact PV.ret (by simp) results37 hS (RS.tmp rfl RS.nil) rfl
def g57_k3 (ro : List HT) (lp1 : AV → AV → AV → AV → AV → AV → HT → Nat → R) (y1 y2 y6 y8 y9 y10 y11 y27 : AV) (T3 : HT) (n3 : Nat) : R :=
 condK 570015 y27
 (
  .bad 570016
 )
 (
  iaK 570019 y2 y8 1 fun x6 =>
  stK 570020 T3 x6 (.lit (.bool true)) fun T4 =>
  addK prog 3 (.tmp 11) (.const (.int .i64 (.ofNat 1))) 570021 y11 (.lit (.int .i64 (.ofNat 1))) fun x7 =>
  lp1 y1 y2 y6 y9 y10 x7 T4 n3
 )
def g57_k2 (ro : List HT) (lp1 : AV → AV → AV → AV → AV → AV → HT → Nat → R) (y1 y2 y6 y8 y9 y10 y11 y21 : AV) (T2 : HT) (n2 : Nat) : R :=
 condK 570023 y21
 (
  g57_k3 ro lp1 y1 y2 y6 y8 y9 y10 y11 (.lit (.bool true)) T2 n2
 )
 (
  iaK 570027 y2 y8 1 fun x8 =>
  ldK 570028 T2 ro x8 fun x9 =>
  g57_k3 ro lp1 y1 y2 y6 y8 y9 y10 y11 x9 T2 n2
 )
def g57_b1 (ro : List HT) (lp1 : AV → AV → AV → AV → AV → AV → HT → Nat → R) (y1 y2 y6 y9 y10 y11 : AV) (T1 : HT) (n1 : Nat) : R :=
 ltK prog 3 (.tmp 11) (.tmp 10) 570006 y11 y10 fun x2 =>
 condK 570007 x2
 (
  iaK 570008 y9 y11 1 fun x3 =>
  ldK 570009 T1 ro x3 fun x4 =>
  ltK prog 3 (.tmp 15) (.const (.int .i64 (.ofNat 0))) 570012 x4 (.lit (.int .i64 (.ofNat 0))) fun x5 =>
  condK 570030 x5
  (
   g57_k2 ro lp1 y1 y2 y6 x4 y9 y10 y11 (.lit (.bool true)) T1 n1
  )
  (
   geK prog 3 (.tmp 18) (.tmp 19) 570034 x4 y1 fun x10 =>
   g57_k2 ro lp1 y1 y2 y6 x4 y9 y10 y11 x10 T1 n1
  )
 )
 (
  .ok (.val (.lit (.bool true))) T1 n1
 )
def g57 (ro : List HT) (a0 a1 a2 : AV) (T : HT) (nx : Nat) : R :=
 lenSK 570003 a0 fun x1 =>
 lpf6 570005 (g57_b1 ro) 100000 a1 a2 (.lit (.bool false)) a0 x1 (.lit (.int .i64 (.ofNat 0))) T nx
theorem g57_ok (ro : List HT) (a0 a1 a2 : AV) (T : HT) (nx : Nat) : GOk prog envE 57 [a0, a1, a2] ro T nx (g57 ro a0 a1 a2 T nx) := by
 refine GOk.of_body func57 rfl ntmps57 (by kernel_rfl) rfl fun r T' n' h1 w0 base ρ0 its hS hP => ?_
 have X : CtxW envE ρ0 ro r T' n' := trivial
 unfold g57 at h1
 refine sr ?_
 refine as_ ?_
 refine dn (CV.seq (sr ?_))
 refine mv ?_
 refine vy (V.lenS h1 rfl ls22) fun x1 h2 => ?_
 refine mv ?_
 refine dn (CV.block ?_)
 refine cl6 X 1 2 6 9 10 11 [] hS h2 ⟨rfl, rfl, rfl, rfl, rfl, rfl, trivial⟩ ?_
 intro f1 y1 y2 y6 y9 y10 y11 T1 n1 ρ its hS h3
 unfold g57_b1 at h3
 refine sr ?_
 refine vy (V.lt h3 rfl rfl) fun x2 h4 => ?_
 refine dn (CV.seq ?_)
 refine CV.cond h4 rfl (fun e h5 => ?_) (fun e h5 => ?_)
 ·
  subst e
  refine CV.skip (PV.thenN (CV.seq (CV.block (sr ?_))))
  refine vy (V.ia h5 rfl rfl el22) fun x3 h6 => ?_
  refine vy (V.ld hS h6 rfl one3) fun x4 h7 => ?_
  refine as_ ?_
  refine dn (CV.seq (sr ?_))
  refine mv ?_
  refine vy (V.lt h7 rfl rfl) fun x5 h8 => ?_
  refine mv ?_
  refine ls8 X 1 2 6 8 9 10 11 21 [] (g57_k2 ro (lpf6 570005 (g57_b1 ro) f1)) 4 ?_ ?_
  ·
   rcases condK_inv h8 with ⟨e, h18⟩ | ⟨e, h18⟩
   ·
    subst e
    iterate 3 refine sk ?_
    refine pu ?_
    exact la8 hS h18 ⟨rfl, rfl, rfl, rfl, rfl, rfl, rfl, rfl, trivial⟩
   subst e
   iterate 2 refine mv ?_
   refine vy (V.ge h18 rfl rfl) fun x10 h19 => ?_
   refine pu ?_
   exact la8 hS h19 ⟨rfl, rfl, rfl, rfl, rfl, rfl, rfl, rfl, trivial⟩
  intro y1 y2 y6 y8 y9 y10 y11 y21 T2 n2 ρ its hS h9
  unfold g57_k2 at h9
  refine mv ?_
  refine ls8 X 1 2 6 8 9 10 11 27 [] (g57_k3 ro (lpf6 570005 (g57_b1 ro) f1)) 5 ?_ ?_
  ·
   rcases condK_inv h9 with ⟨e, h15⟩ | ⟨e, h15⟩
   ·
    subst e
    iterate 4 refine sk ?_
    refine pu ?_
    exact la8 hS h15 ⟨rfl, rfl, rfl, rfl, rfl, rfl, rfl, rfl, trivial⟩
   subst e
   iterate 2 refine mv ?_
   refine vy (V.ia h15 rfl rfl el146) fun x8 h16 => ?_
   refine vy (V.ld hS h16 rfl one4) fun x9 h17 => ?_
   refine pu ?_
   exact la8 hS h17 ⟨rfl, rfl, rfl, rfl, rfl, rfl, rfl, rfl, trivial⟩
  intro y1 y2 y6 y8 y9 y10 y11 y27 T3 n3 ρ its hS h10
  unfold g57_k3 at h10
  refine dn ?_
  refine CV.cond h10 rfl (fun e h11 => ?_) (fun e h11 => ?_)
  ·
   subst e
   cases h11
  subst e
  refine CV.skip (PV.thenN (CV.region ?_))
  iterate 2 refine mv ?_
  refine vy (V.ia h11 rfl rfl el146) fun x6 h12 => ?_
  refine LV.st hS h12 rfl rfl rfl siz4 rfl rfl fun T4 its h13 hS => ?_
  refine LV.done (PV.blockN (PV.thenN (CV.region ?_)))
  refine vy (V.add h13 rfl rfl) fun x7 h14 => ?_
  refine mv ?_
  refine LV.done ?_
  exact pb6 hS h14 ⟨rfl, rfl, rfl, rfl, rfl, rfl, trivial⟩
 subst e
 refine CV.exit (PV.thenE (PV.thenE (PV.blockE (PV.thenN (sr ?_)))))
 refine as_ ?_
 refine dn (CV.ret ?_)
 cases h5
 exact PV.ret (by simp) results57 hS (RS.tmp rfl RS.nil) rfl
def g110_b1 (ro : List HT) (lp1 : AV → AV → AV → AV → AV → AV → HT → Nat → R) (y0 y2 y6 y9 y10 y11 : AV) (T1 : HT) (n1 : Nat) : R :=
 ltK prog 3 (.tmp 11) (.tmp 10) 1100006 y11 y10 fun x2 =>
 condK 1100007 x2
 (
  iaK 1100008 y9 y11 1 fun x3 =>
  ldK 1100009 T1 ro x3 fun x4 =>
  fldK 1100013 T1 ro y0 0 fun x5 =>
  iaK 1100015 x5 x4 5 fun x6 =>
  ldAK 1100016 T1 ro x6 5 fun x7 =>
  dynK 1100017 y2 fun f p q => callK (scc3 4000 f ro (p ++ ([x7] ++ q)) T1 n1) fun x8 T2 n2 =>
  notK 1100018 x8 fun x9 =>
  condK 1100019 x9
  (
   .bad 1100020
  )
  (
   addK prog 3 (.tmp 11) (.const (.int .i64 (.ofNat 1))) 1100021 y11 (.lit (.int .i64 (.ofNat 1))) fun x10 =>
   lp1 y0 y2 y6 y9 y10 x10 T2 n2
  )
 )
 (
  .ok (.val (.lit (.bool true))) T1 n1
 )
def g110 (ro : List HT) (a0 a1 a2 : AV) (T : HT) (nx : Nat) : R :=
 lenSK 1100003 a1 fun x1 =>
 lpf6 1100005 (g110_b1 ro) 100000 a0 a2 (.lit (.bool false)) a1 x1 (.lit (.int .i64 (.ofNat 0))) T nx
theorem g110_ok (ro : List HT) (a0 a1 a2 : AV) (T : HT) (nx : Nat) : GOk prog envE 110 [a0, a1, a2] ro T nx (g110 ro a0 a1 a2 T nx) := by
 refine GOk.of_body func110 rfl ntmps110 (by kernel_rfl) rfl fun r T' n' h1 w0 base ρ0 its hS hP => ?_
 have X : CtxW envE ρ0 ro r T' n' := trivial
 unfold g110 at h1
 refine sr ?_
 refine as_ ?_
 refine dn (CV.seq (sr ?_))
 refine mv ?_
 refine vy (V.lenS h1 rfl ls22) fun x1 h2 => ?_
 refine mv ?_
 refine dn (CV.block ?_)
 refine cl6 X 0 2 6 9 10 11 [] hS h2 ⟨rfl, rfl, rfl, rfl, rfl, rfl, trivial⟩ ?_
 intro f1 y0 y2 y6 y9 y10 y11 T1 n1 ρ its hS h3
 unfold g110_b1 at h3
 refine sr ?_
 refine vy (V.lt h3 rfl rfl) fun x2 h4 => ?_
 refine dn (CV.seq ?_)
 refine CV.cond h4 rfl (fun e h5 => ?_) (fun e h5 => ?_)
 ·
  subst e
  refine CV.skip (PV.thenN (CV.seq (CV.block (sr ?_))))
  refine vy (V.ia h5 rfl rfl el22) fun x3 h6 => ?_
  refine vy (V.ld hS h6 rfl one3) fun x4 h7 => ?_
  refine as_ ?_
  refine dn (sr ?_)
  iterate 2 refine mv ?_
  refine fl hS h7 fo148_0 one50 fun x5 h8 => ?_
  refine mv ?_
  refine vy (V.ia h8 rfl rfl el50) fun x6 h9 => ?_
  refine vy (V.ldA hS h9 rfl agg105) fun x7 h10 => ?_
  refine LV.callD (G := fun f gs => scc3 4000 f ro gs T1 n1) (qs := [x7]) hS h10 (fun f gs => scc3_ok _ _ _ _ _ _) hP rfl rfl rfl rfl rfl rfl rfl fun x8 T2 n2 h11 ρ its hS => ?_
  refine vy (V.not h11 rfl) fun x9 h12 => ?_
  refine dn ?_
  refine CV.cond h12 rfl (fun e h13 => ?_) (fun e h13 => ?_)
  ·
   subst e
   cases h13
  subst e
  refine CV.skip (PV.blockN (PV.thenN (CV.region ?_)))
  refine vy (V.add h13 rfl rfl) fun x10 h14 => ?_
  refine mv ?_
  refine LV.done ?_
  exact pb6 hS h14 ⟨rfl, rfl, rfl, rfl, rfl, rfl, trivial⟩
 subst e
 refine CV.exit (PV.thenE (PV.thenE (PV.blockE (PV.thenN (sr ?_)))))
 refine as_ ?_
 refine dn (CV.ret ?_)
 cases h5
 exact PV.ret (by simp) results110 hS (RS.tmp rfl RS.nil) rfl
def g108_k2 (ro : List HT) (y23 : AV) (T2 : HT) (n2 : Nat) : R :=
 .ok (.val y23) T2 n2
def g108_k1 (ro : List HT) (y0 y1 y18 : AV) (T1 : HT) (n1 : Nat) : R :=
 condK 1080009 y18
 (
  callK (g110 ro y0 y1 (.lit (.func (.func 134) #[] #[])) T1 n1) fun x3 T3 n3 =>
  g108_k2 ro x3 T3 n3
 )
 (
  g108_k2 ro (.lit (.bool false)) T1 n1
 )
def g108 (ro : List HT) (a0 a1 a2 a3 : AV) (T : HT) (nx : Nat) : R :=
 lenSK 1080003 a1 fun x1 =>
 geK prog 3 (.tmp 10) (.tmp 11) 1080005 x1 a2 fun x2 =>
 condK 1080015 x2
 (
  lenSK 1080017 a1 fun x4 =>
  leK prog 3 (.tmp 15) (.tmp 16) 1080019 x4 a3 fun x5 =>
  g108_k1 ro a0 a1 x5 T nx
 )
 (
  g108_k1 ro a0 a1 (.lit (.bool false)) T nx
 )
theorem g108_ok (ro : List HT) (a0 a1 a2 a3 : AV) (T : HT) (nx : Nat) : GOk prog envE 108 [a0, a1, a2, a3] ro T nx (g108 ro a0 a1 a2 a3 T nx) := by
 refine GOk.of_body func108 rfl ntmps108 (by kernel_rfl) rfl fun r T' n' h1 w0 base ρ0 its hS hP => ?_
 have X : CtxW envE ρ0 ro r T' n' := trivial
 unfold g108 at h1
 refine sr ?_
 refine as_ ?_
 refine dn (sr ?_)
 refine mv ?_
 refine vy (V.lenS h1 rfl ls22) fun x1 h2 => ?_
 refine mv ?_
 refine vy (V.ge h2 rfl rfl) fun x2 h3 => ?_
 refine mv ?_
 refine ls3 X 0 1 18 [(8, (.lit (.bool false)))] (g108_k1 ro) 5 ?_ ?_
 ·
  rcases condK_inv h3 with ⟨e, h8⟩ | ⟨e, h8⟩
  ·
   subst e
   refine mv ?_
   refine vy (V.lenS h8 rfl ls22) fun x4 h9 => ?_
   refine mv ?_
   refine vy (V.le h9 rfl rfl) fun x5 h10 => ?_
   refine pu ?_
   exact la3 hS h10 ⟨rfl, rfl, rfl, rfl, trivial⟩
  subst e
  iterate 4 refine sk ?_
  refine pu ?_
  exact la3 hS h8 ⟨rfl, rfl, rfl, rfl, trivial⟩
 intro y0 y1 y18 T1 n1 ρ its hS h4
 unfold g108_k1 at h4
 refine mv ?_
 refine ls1 X 23 [(8, (.lit (.bool false)))] (g108_k2 ro) 4 ?_ ?_
 ·
  rcases condK_inv h4 with ⟨e, h6⟩ | ⟨e, h6⟩
  ·
   subst e
   iterate 2 refine mv ?_
   refine LV.call hS h6 (g110_ok _ _ _ _ _ _ ) hP rfl rfl rfl rfl fun x3 T3 n3 h7 ρ its hS => ?_
   refine pu ?_
   exact la1 hS h7 ⟨rfl, rfl, trivial⟩
  subst e
  iterate 3 refine sk ?_
  refine pu ?_
  exact la1 hS h6 ⟨rfl, rfl, trivial⟩
 intro y23 T2 n2 ρ its hS h5
 unfold g108_k2 at h5
 refine as_ ?_
 refine dn (CV.ret ?_)
 cases h5
 exact PV.ret (by simp) results108 hS (RS.tmp rfl RS.nil) rfl
def g119_k4 (ro : List HT) (y122 : AV) (T4 : HT) (n4 : Nat) : R :=
 .ok (.val y122) T4 n4
def g119_k3 (ro : List HT) (y0 y2 y116 : AV) (T3 : HT) (n3 : Nat) : R :=
 condK 1190028 y116
 (
  callK (g108 ro y0 y2 (.lit (.int .i64 (.ofNat 2))) (.lit (.int .i64 (.ofNat 2))) T3 n3) fun x6 T5 n5 =>
  g119_k4 ro x6 T5 n5
 )
 (
  g119_k4 ro (.lit (.bool false)) T3 n3
 )
def g119_k5 (ro : List HT) (y0 y2 y115 : AV) (T6 : HT) (n6 : Nat) : R :=
 g119_k3 ro y0 y2 y115 T6 n6
def g119_k2 (ro : List HT) (y0 y1 y2 y108 : AV) (T2 : HT) (n2 : Nat) : R :=
 condK 1190034 y108
 (
  g119_k3 ro y0 y2 (.lit (.bool true)) T2 n2
 )
 (
  geK prog 3 (.tmp 110) (.const (.int .i64 (.ofNat 21))) 1190037 y1 (.lit (.int .i64 (.ofNat 21))) fun x7 =>
  condK 1190040 x7
  (
   leK prog 3 (.tmp 113) (.const (.int .i64 (.ofNat 33))) 1190042 y1 (.lit (.int .i64 (.ofNat 33))) fun x8 =>
   g119_k5 ro y0 y2 x8 T2 n2
  )
  (
   g119_k5 ro y0 y2 (.lit (.bool false)) T2 n2
  )
 )
def g119_k1 (ro : List HT) (y0 y1 y2 y104 : AV) (T1 : HT) (n1 : Nat) : R :=
 condK 1190045 y104
 (
  g119_k2 ro y0 y1 y2 (.lit (.bool true)) T1 n1
 )
 (
  eqK prog 3 (.tmp 106) (.const (.int .i64 (.ofNat 19))) 1190048 y1 (.lit (.int .i64 (.ofNat 19))) fun x9 =>
  g119_k2 ro y0 y1 y2 x9 T1 n1
 )
def g119 (ro : List HT) (a0 a1 a2 : AV) (T : HT) (nx : Nat) : R :=
 eqK prog 3 (.tmp 8) (.const (.int .i64 (.ofNat 36))) 1190003 a1 (.lit (.int .i64 (.ofNat 36))) fun x1 =>
 condK 1190005 x1
 (
  .bad 1190006
 )
 (
  eqK prog 3 (.tmp 8) (.const (.int .i64 (.ofNat 37))) 1190007 a1 (.lit (.int .i64 (.ofNat 37))) fun x2 =>
  condK 1190009 x2
  (
   .bad 1190010
  )
  (
   eqK prog 3 (.tmp 8) (.const (.int .i64 (.ofNat 43))) 1190011 a1 (.lit (.int .i64 (.ofNat 43))) fun x3 =>
   condK 1190013 x3
   (
    .bad 1190014
   )
   (
    eqK prog 3 (.tmp 8) (.const (.int .i64 (.ofNat 44))) 1190015 a1 (.lit (.int .i64 (.ofNat 44))) fun x4 =>
    condK 1190017 x4
    (
     .bad 1190018
    )
    (
     eqK prog 3 (.tmp 99) (.const (.int .i64 (.ofNat 13))) 1190020 a1 (.lit (.int .i64 (.ofNat 13))) fun x5 =>
     condK 1190050 x5
     (
      g119_k1 ro a0 a1 a2 (.lit (.bool true)) T nx
     )
     (
      eqK prog 3 (.tmp 102) (.const (.int .i64 (.ofNat 18))) 1190053 a1 (.lit (.int .i64 (.ofNat 18))) fun x10 =>
      g119_k1 ro a0 a1 a2 x10 T nx
     )
    )
   )
  )
 )
theorem g119_ok (ro : List HT) (a0 a1 a2 : AV) (T : HT) (nx : Nat) : GOk prog envE 119 [a0, a1, a2] ro T nx (g119 ro a0 a1 a2 T nx) := by
 refine GOk.of_body func119 rfl ntmps119 (by kernel_rfl) rfl fun r T' n' h1 w0 base ρ0 its hS hP => ?_
 have X : CtxW envE ρ0 ro r T' n' := trivial
 unfold g119 at h1
 refine sr ?_
 refine as_ ?_
 refine dn (CV.seq (sr ?_))
 refine mv ?_
 refine dn (CV.block (sr ?_))
 refine vy (V.eq h1 rfl rfl) fun x1 h2 => ?_
 refine as_ ?_
 refine dn ?_
 refine CV.cond h2 rfl (fun e h3 => ?_) (fun e h3 => ?_)
 ·
  subst e
  cases h3
 subst e
 refine sr ?_
 refine vy (V.eq h3 rfl rfl) fun x2 h4 => ?_
 refine as_ ?_
 refine dn ?_
 refine CV.cond h4 rfl (fun e h5 => ?_) (fun e h5 => ?_)
 ·
  subst e
  cases h5
 subst e
 refine sr ?_
 refine vy (V.eq h5 rfl rfl) fun x3 h6 => ?_
 refine as_ ?_
 refine dn ?_
 refine CV.cond h6 rfl (fun e h7 => ?_) (fun e h7 => ?_)
 ·
  subst e
  cases h7
 subst e
 refine sr ?_
 refine vy (V.eq h7 rfl rfl) fun x4 h8 => ?_
 refine as_ ?_
 refine dn ?_
 refine CV.cond h8 rfl (fun e h9 => ?_) (fun e h9 => ?_)
 ·
  subst e
  cases h9
 subst e
 refine CV.skip (PV.blockN (PV.thenN (sr ?_)))
 refine mv ?_
 refine vy (V.eq h9 rfl rfl) fun x5 h10 => ?_
 refine mv ?_
 refine ls4 X 0 1 2 104 [(6, (.lit (.bool false)))] (g119_k1 ro) 3 ?_ ?_
 ·
  rcases condK_inv h10 with ⟨e, h24⟩ | ⟨e, h24⟩
  ·
   subst e
   iterate 2 refine sk ?_
   refine pu ?_
   exact la4 hS h24 ⟨rfl, rfl, rfl, rfl, rfl, trivial⟩
  subst e
  refine mv ?_
  refine vy (V.eq h24 rfl rfl) fun x10 h25 => ?_
  refine pu ?_
  exact la4 hS h25 ⟨rfl, rfl, rfl, rfl, rfl, trivial⟩
 intro y0 y1 y2 y104 T1 n1 ρ its hS h11
 unfold g119_k1 at h11
 refine mv ?_
 refine ls4 X 0 1 2 108 [(6, (.lit (.bool false)))] (g119_k2 ro) 3 ?_ ?_
 ·
  rcases condK_inv h11 with ⟨e, h22⟩ | ⟨e, h22⟩
  ·
   subst e
   iterate 2 refine sk ?_
   refine pu ?_
   exact la4 hS h22 ⟨rfl, rfl, rfl, rfl, rfl, trivial⟩
  subst e
  refine mv ?_
  refine vy (V.eq h22 rfl rfl) fun x9 h23 => ?_
  refine pu ?_
  exact la4 hS h23 ⟨rfl, rfl, rfl, rfl, rfl, trivial⟩
 intro y0 y1 y2 y108 T2 n2 ρ its hS h12
 unfold g119_k2 at h12
 refine mv ?_
 refine ls3 X 0 2 116 [(6, (.lit (.bool false)))] (g119_k3 ro) 7 ?_ ?_
 ·
  rcases condK_inv h12 with ⟨e, h17⟩ | ⟨e, h17⟩
  ·
   subst e
   iterate 6 refine sk ?_
   refine pu ?_
   exact la3 hS h17 ⟨rfl, rfl, rfl, rfl, trivial⟩
  subst e
  refine mv ?_
  refine vy (V.ge h17 rfl rfl) fun x7 h18 => ?_
  refine mv ?_
  refine ls3 X 0 2 115 [(6, (.lit (.bool false))), (109, (.lit (.bool false)))] (g119_k5 ro) 3 ?_ ?_
  ·
   rcases condK_inv h18 with ⟨e, h20⟩ | ⟨e, h20⟩
   ·
    subst e
    refine mv ?_
    refine vy (V.le h20 rfl rfl) fun x8 h21 => ?_
    refine pu ?_
    exact la3 hS h21 ⟨rfl, rfl, rfl, rfl, rfl, trivial⟩
   subst e
   iterate 2 refine sk ?_
   refine pu ?_
   exact la3 hS h20 ⟨rfl, rfl, rfl, rfl, rfl, trivial⟩
  intro y0 y2 y115 T6 n6 ρ its hS h19
  unfold g119_k5 at h19
  refine pu ?_
  exact la3 hS h19 ⟨rfl, rfl, rfl, rfl, trivial⟩
 intro y0 y2 y116 T3 n3 ρ its hS h13
 unfold g119_k3 at h13
 refine as_ ?_
 refine dn (sr ?_)
 iterate 2 refine mv ?_
 refine ls1 X 122 [(6, (.lit (.bool false)))] (g119_k4 ro) 4 ?_ ?_
 ·
  rcases condK_inv h13 with ⟨e, h15⟩ | ⟨e, h15⟩
  ·
   subst e
   iterate 2 refine mv ?_
   refine LV.call hS h15 (g108_ok _ _ _ _ _ _ _ ) hP rfl rfl rfl rfl fun x6 T5 n5 h16 ρ its hS => ?_
   refine pu ?_
   exact la1 hS h16 ⟨rfl, rfl, trivial⟩
  subst e
  iterate 3 refine sk ?_
  refine pu ?_
  exact la1 hS h15 ⟨rfl, rfl, trivial⟩
 intro y122 T4 n4 ρ its hS h14
 unfold g119_k4 at h14
 refine as_ ?_
 refine dn (CV.ret ?_)
 cases h14
 exact PV.ret (by simp) results119 hS (RS.tmp rfl RS.nil) rfl
def g83_k3 (ro : List HT) (y0 y3 y4 y5 y40 : AV) (T5 : HT) (n5 : Nat) : R :=
 .ok (.val y40) T5 n5
def g83_k6 (ro : List HT) (y0 y3 y4 y5 y155 : AV) (T10 : HT) (n10 : Nat) : R :=
 .ok (.val y155) T10 n10
def g83_k5 (ro : List HT) (y0 y3 y4 y5 y9 y55 : AV) (T9 : HT) (n9 : Nat) : R :=
 condK 830042 y55
 (
  .bad 830043
 )
 (
  eqK prog 3 (.tmp 9) (.const (.int .i64 (.ofNat 10))) 830044 y9 (.lit (.int .i64 (.ofNat 10))) fun x16 =>
  condK 830046 x16
  (
   .bad 830047
  )
  (
   eqK prog 3 (.tmp 9) (.const (.int .i64 (.ofNat 14))) 830048 y9 (.lit (.int .i64 (.ofNat 14))) fun x17 =>
   condK 830050 x17
   (
    .bad 830051
   )
   (
    eqK prog 3 (.tmp 9) (.const (.int .i64 (.ofNat 34))) 830052 y9 (.lit (.int .i64 (.ofNat 34))) fun x18 =>
    condK 830054 x18
    (
     .bad 830055
    )
    (
     eqK prog 3 (.tmp 9) (.const (.int .i64 (.ofNat 42))) 830056 y9 (.lit (.int .i64 (.ofNat 42))) fun x19 =>
     condK 830058 x19
     (
      .bad 830059
     )
     (
      eqK prog 3 (.tmp 9) (.const (.int .i64 (.ofNat 45))) 830060 y9 (.lit (.int .i64 (.ofNat 45))) fun x20 =>
      condK 830062 x20
      (
       .bad 830063
      )
      (
       eqK prog 3 (.tmp 9) (.const (.int .i64 (.ofNat 47))) 830064 y9 (.lit (.int .i64 (.ofNat 47))) fun x21 =>
       condK 830066 x21
       (
        lenSK 830068 y5 fun x22 =>
        gtK prog 3 (.tmp 149) (.const (.int .i64 (.ofNat 0))) 830069 x22 (.lit (.int .i64 (.ofNat 0))) fun x23 =>
        condK 830072 x23
        (
         callK (g110 ro y0 y5 (.lit (.func (.func 117) #[] #[])) T9 n9) fun x24 T11 n11 =>
         g83_k6 ro y0 y3 y4 y5 x24 T11 n11
        )
        (
         g83_k6 ro y0 y3 y4 y5 (.lit (.bool false)) T9 n9
        )
       )
       (
        faK 830079 y3 0 fun x25 =>
        ldK 830080 T9 ro x25 fun x26 =>
        callK (g119 ro y0 x26 y5 T9 n9) fun x27 T12 n12 =>
        .ok (.val x27) T12 n12
       )
      )
     )
    )
   )
  )
 )
def g83_k4 (ro : List HT) (y0 y3 y4 y5 y9 y41 : AV) (T7 : HT) (n7 : Nat) : R :=
 condK 830033 y41
 (
  callK (g108 ro y0 y5 (.lit (.int .i64 (.ofNat 1))) (.lit (.int .i64 (.ofNat 1))) T7 n7) fun x14 T8 n8 =>
  .ok (.val x14) T8 n8
 )
 (
  eqK prog 3 (.tmp 9) (.const (.int .i64 (.ofNat 20))) 830038 y9 (.lit (.int .i64 (.ofNat 20))) fun x15 =>
  condK 830040 x15
  (
   .bad 830041
  )
  (
   eqK prog 3 (.tmp 9) (.const (.int .i64 (.ofNat 41))) 830084 y9 (.lit (.int .i64 (.ofNat 41))) fun x28 =>
   condK 830086 x28
   (
    g83_k5 ro y0 y3 y4 y5 y9 (.lit (.bool true)) T7 n7
   )
   (
    eqK prog 3 (.tmp 9) (.const (.int .i64 (.ofNat 46))) 830087 y9 (.lit (.int .i64 (.ofNat 46))) fun x29 =>
    g83_k5 ro y0 y3 y4 y5 y9 x29 T7 n7
   )
  )
 )
def g83_k2 (ro : List HT) (y0 y3 y4 y5 y9 y24 : AV) (T3 : HT) (n3 : Nat) : R :=
 condK 830013 y24
 (
  callK (g108 ro y0 y5 (.lit (.int .i64 (.ofNat 0))) (.lit (.int .i64 (.ofNat 1048576))) T3 n3) fun x8 T4 n4 =>
  .ok (.val x8) T4 n4
 )
 (
  eqK prog 3 (.tmp 9) (.const (.int .i64 (.ofNat 9))) 830018 y9 (.lit (.int .i64 (.ofNat 9))) fun x9 =>
  condK 830020 x9
  (
   lenSK 830022 y5 fun x10 =>
   bin0 prog .rem 3 (.tmp 33) (.const (.int .i64 (.ofNat 2))) 830023 x10 (.lit (.int .i64 (.ofNat 2))) fun x11 =>
   eqK prog 3 (.tmp 34) (.const (.int .i64 (.ofNat 0))) 830024 x11 (.lit (.int .i64 (.ofNat 0))) fun x12 =>
   condK 830027 x12
   (
    callK (g108 ro y0 y5 (.lit (.int .i64 (.ofNat 0))) (.lit (.int .i64 (.ofNat 1048576))) T3 n3) fun x13 T6 n6 =>
    g83_k3 ro y0 y3 y4 y5 x13 T6 n6
   )
   (
    g83_k3 ro y0 y3 y4 y5 (.lit (.bool false)) T3 n3
   )
  )
  (
   eqK prog 3 (.tmp 9) (.const (.int .i64 (.ofNat 11))) 830089 y9 (.lit (.int .i64 (.ofNat 11))) fun x30 =>
   condK 830091 x30
   (
    g83_k4 ro y0 y3 y4 y5 y9 (.lit (.bool true)) T3 n3
   )
   (
    eqK prog 3 (.tmp 9) (.const (.int .i64 (.ofNat 12))) 830092 y9 (.lit (.int .i64 (.ofNat 12))) fun x31 =>
    condK 830094 x31
    (
     g83_k4 ro y0 y3 y4 y5 y9 (.lit (.bool true)) T3 n3
    )
    (
     eqK prog 3 (.tmp 9) (.const (.int .i64 (.ofNat 16))) 830095 y9 (.lit (.int .i64 (.ofNat 16))) fun x32 =>
     condK 830097 x32
     (
      g83_k4 ro y0 y3 y4 y5 y9 (.lit (.bool true)) T3 n3
     )
     (
      eqK prog 3 (.tmp 9) (.const (.int .i64 (.ofNat 17))) 830098 y9 (.lit (.int .i64 (.ofNat 17))) fun x33 =>
      condK 830100 x33
      (
       g83_k4 ro y0 y3 y4 y5 y9 (.lit (.bool true)) T3 n3
      )
      (
       eqK prog 3 (.tmp 9) (.const (.int .i64 (.ofNat 35))) 830101 y9 (.lit (.int .i64 (.ofNat 35))) fun x34 =>
       g83_k4 ro y0 y3 y4 y5 y9 x34 T3 n3
      )
     )
    )
   )
  )
 )
def g83_k1 (ro : List HT) (y0 y3 y4 y5 y9 y10 : AV) (T2 : HT) (n2 : Nat) : R :=
 condK 830008 y10
 (
  lenSK 830010 y5 fun x6 =>
  eqK prog 3 (.tmp 22) (.const (.int .i64 (.ofNat 0))) 830011 x6 (.lit (.int .i64 (.ofNat 0))) fun x7 =>
  .ok (.val x7) T2 n2
 )
 (
  eqK prog 3 (.tmp 9) (.const (.int .i64 (.ofNat 7))) 830103 y9 (.lit (.int .i64 (.ofNat 7))) fun x35 =>
  condK 830105 x35
  (
   g83_k2 ro y0 y3 y4 y5 y9 (.lit (.bool true)) T2 n2
  )
  (
   eqK prog 3 (.tmp 9) (.const (.int .i64 (.ofNat 8))) 830106 y9 (.lit (.int .i64 (.ofNat 8))) fun x36 =>
   g83_k2 ro y0 y3 y4 y5 y9 x36 T2 n2
  )
 )
def g83 (ro : List HT) (a0 a1 : AV) (T : HT) (nx : Nat) : R :=
 boxK 830001 T nx a1 105 fun x1 T1 n1 =>
 faK 830003 x1 4 fun x2 =>
 ldK 830004 T1 ro x2 fun x3 =>
 faK 830006 x1 0 fun x4 =>
 ldK 830007 T1 ro x4 fun x5 =>
 eqK prog 3 (.tmp 9) (.const (.int .i64 (.ofNat 1))) 830108 x5 (.lit (.int .i64 (.ofNat 1))) fun x37 =>
 condK 830110 x37
 (
  g83_k1 ro a0 x1 (.lit (.bool false)) x3 x5 (.lit (.bool true)) T1 n1
 )
 (
  eqK prog 3 (.tmp 9) (.const (.int .i64 (.ofNat 2))) 830111 x5 (.lit (.int .i64 (.ofNat 2))) fun x38 =>
  condK 830113 x38
  (
   g83_k1 ro a0 x1 (.lit (.bool false)) x3 x5 (.lit (.bool true)) T1 n1
  )
  (
   eqK prog 3 (.tmp 9) (.const (.int .i64 (.ofNat 3))) 830114 x5 (.lit (.int .i64 (.ofNat 3))) fun x39 =>
   condK 830116 x39
   (
    g83_k1 ro a0 x1 (.lit (.bool false)) x3 x5 (.lit (.bool true)) T1 n1
   )
   (
    eqK prog 3 (.tmp 9) (.const (.int .i64 (.ofNat 4))) 830117 x5 (.lit (.int .i64 (.ofNat 4))) fun x40 =>
    condK 830119 x40
    (
     g83_k1 ro a0 x1 (.lit (.bool false)) x3 x5 (.lit (.bool true)) T1 n1
    )
    (
     eqK prog 3 (.tmp 9) (.const (.int .i64 (.ofNat 5))) 830120 x5 (.lit (.int .i64 (.ofNat 5))) fun x41 =>
     condK 830122 x41
     (
      g83_k1 ro a0 x1 (.lit (.bool false)) x3 x5 (.lit (.bool true)) T1 n1
     )
     (
      eqK prog 3 (.tmp 9) (.const (.int .i64 (.ofNat 6))) 830123 x5 (.lit (.int .i64 (.ofNat 6))) fun x42 =>
      condK 830125 x42
      (
       g83_k1 ro a0 x1 (.lit (.bool false)) x3 x5 (.lit (.bool true)) T1 n1
      )
      (
       eqK prog 3 (.tmp 9) (.const (.int .i64 (.ofNat 15))) 830126 x5 (.lit (.int .i64 (.ofNat 15))) fun x43 =>
       condK 830128 x43
       (
        g83_k1 ro a0 x1 (.lit (.bool false)) x3 x5 (.lit (.bool true)) T1 n1
       )
       (
        eqK prog 3 (.tmp 9) (.const (.int .i64 (.ofNat 38))) 830129 x5 (.lit (.int .i64 (.ofNat 38))) fun x44 =>
        condK 830131 x44
        (
         g83_k1 ro a0 x1 (.lit (.bool false)) x3 x5 (.lit (.bool true)) T1 n1
        )
        (
         eqK prog 3 (.tmp 9) (.const (.int .i64 (.ofNat 39))) 830132 x5 (.lit (.int .i64 (.ofNat 39))) fun x45 =>
         condK 830134 x45
         (
          g83_k1 ro a0 x1 (.lit (.bool false)) x3 x5 (.lit (.bool true)) T1 n1
         )
         (
          eqK prog 3 (.tmp 9) (.const (.int .i64 (.ofNat 40))) 830135 x5 (.lit (.int .i64 (.ofNat 40))) fun x46 =>
          g83_k1 ro a0 x1 (.lit (.bool false)) x3 x5 x46 T1 n1
         )
        )
       )
      )
     )
    )
   )
  )
 )
theorem g83_ok (ro : List HT) (a0 a1 : AV) (T : HT) (nx : Nat) : GOk prog envE 83 [a0, a1] ro T nx (g83 ro a0 a1 T nx) := by
 refine GOk.of_body func83 rfl ntmps83 (by kernel_rfl) rfl fun r T' n' h1 w0 base ρ0 its hS hP => ?_
 have X : CtxW envE ρ0 ro r T' n' := trivial
 unfold g83 at h1
 refine sr ?_
 refine LV.box hS h1 rfl rfl rfl rfl rfl fun x1 T1 n1 h2 ρ its hS hdr => ?_
 refine as_ ?_
 refine dn (sr ?_)
 refine vy (V.fa h2 rfl fo105_4) fun x2 h3 => ?_
 refine vy (V.ld hS h3 rfl one22) fun x3 h4 => ?_
 refine as_ ?_
 refine dn (CV.seq (sr ?_))
 refine vy (V.fa h4 rfl fo105_0) fun x4 h5 => ?_
 refine vy (V.ld hS h5 rfl one3) fun x5 h6 => ?_
 refine dn (CV.block ?_)
 refine cs6 X 0 3 4 5 9 10 [] (g83_k1 ro) ?_ ?_
 ·
  refine sr ?_
  refine vy (V.eq h6 rfl rfl) fun x37 h64 => ?_
  refine as_ ?_
  refine dn ?_
  refine CV.cond h64 rfl (fun e h65 => ?_) (fun e h65 => ?_)
  ·
   subst e
   refine CV.skip ?_
   exact pa6 hS h65 ⟨rfl, rfl, rfl, rfl, rfl, rfl, trivial⟩
  subst e
  refine sr ?_
  refine vy (V.eq h65 rfl rfl) fun x38 h66 => ?_
  refine as_ ?_
  refine dn ?_
  refine CV.cond h66 rfl (fun e h67 => ?_) (fun e h67 => ?_)
  ·
   subst e
   refine CV.skip ?_
   exact pa6 hS h67 ⟨rfl, rfl, rfl, rfl, rfl, rfl, trivial⟩
  subst e
  refine sr ?_
  refine vy (V.eq h67 rfl rfl) fun x39 h68 => ?_
  refine as_ ?_
  refine dn ?_
  refine CV.cond h68 rfl (fun e h69 => ?_) (fun e h69 => ?_)
  ·
   subst e
   refine CV.skip ?_
   exact pa6 hS h69 ⟨rfl, rfl, rfl, rfl, rfl, rfl, trivial⟩
  subst e
  refine sr ?_
  refine vy (V.eq h69 rfl rfl) fun x40 h70 => ?_
  refine as_ ?_
  refine dn ?_
  refine CV.cond h70 rfl (fun e h71 => ?_) (fun e h71 => ?_)
  ·
   subst e
   refine CV.skip ?_
   exact pa6 hS h71 ⟨rfl, rfl, rfl, rfl, rfl, rfl, trivial⟩
  subst e
  refine sr ?_
  refine vy (V.eq h71 rfl rfl) fun x41 h72 => ?_
  refine as_ ?_
  refine dn ?_
  refine CV.cond h72 rfl (fun e h73 => ?_) (fun e h73 => ?_)
  ·
   subst e
   refine CV.skip ?_
   exact pa6 hS h73 ⟨rfl, rfl, rfl, rfl, rfl, rfl, trivial⟩
  subst e
  refine sr ?_
  refine vy (V.eq h73 rfl rfl) fun x42 h74 => ?_
  refine as_ ?_
  refine dn ?_
  refine CV.cond h74 rfl (fun e h75 => ?_) (fun e h75 => ?_)
  ·
   subst e
   refine CV.skip ?_
   exact pa6 hS h75 ⟨rfl, rfl, rfl, rfl, rfl, rfl, trivial⟩
  subst e
  refine sr ?_
  refine vy (V.eq h75 rfl rfl) fun x43 h76 => ?_
  refine as_ ?_
  refine dn ?_
  refine CV.cond h76 rfl (fun e h77 => ?_) (fun e h77 => ?_)
  ·
   subst e
   refine CV.skip ?_
   exact pa6 hS h77 ⟨rfl, rfl, rfl, rfl, rfl, rfl, trivial⟩
  subst e
  refine sr ?_
  refine vy (V.eq h77 rfl rfl) fun x44 h78 => ?_
  refine as_ ?_
  refine dn ?_
  refine CV.cond h78 rfl (fun e h79 => ?_) (fun e h79 => ?_)
  ·
   subst e
   refine CV.skip ?_
   exact pa6 hS h79 ⟨rfl, rfl, rfl, rfl, rfl, rfl, trivial⟩
  subst e
  refine sr ?_
  refine vy (V.eq h79 rfl rfl) fun x45 h80 => ?_
  refine as_ ?_
  refine dn ?_
  refine CV.cond h80 rfl (fun e h81 => ?_) (fun e h81 => ?_)
  ·
   subst e
   refine CV.skip ?_
   exact pa6 hS h81 ⟨rfl, rfl, rfl, rfl, rfl, rfl, trivial⟩
  subst e
  refine CV.region ?_
  refine vy (V.eq h81 rfl rfl) fun x46 h82 => ?_
  refine as_ ?_
  refine LV.done ?_
  exact pa6 hS h82 ⟨rfl, rfl, rfl, rfl, rfl, rfl, trivial⟩
 intro y0 y3 y4 y5 y9 y10 T2 n2 ρ its hS h7
 unfold g83_k1 at h7
 refine CV.cond h7 rfl (fun e h8 => ?_) (fun e h8 => ?_)
 ·
  subst e
  refine sr ?_
  refine mv ?_
  refine vy (V.lenS h8 rfl ls22) fun x6 h9 => ?_
  refine vy (V.eq h9 rfl rfl) fun x7 h10 => ?_
  refine as_ ?_
  refine dn (CV.ret (PV.blockR (PV.thenR ?_)))
  cases h10
  exact PV.ret (by simp) results83 hS (RS.tmp rfl RS.nil) rfl
 subst e
 refine cs6 X 0 3 4 5 9 24 [] (g83_k2 ro) ?_ ?_
 ·
  refine sr ?_
  refine vy (V.eq h8 rfl rfl) fun x35 h61 => ?_
  refine as_ ?_
  refine dn ?_
  refine CV.cond h61 rfl (fun e h62 => ?_) (fun e h62 => ?_)
  ·
   subst e
   refine CV.skip ?_
   exact pa6 hS h62 ⟨rfl, rfl, rfl, rfl, rfl, rfl, trivial⟩
  subst e
  refine CV.region ?_
  refine vy (V.eq h62 rfl rfl) fun x36 h63 => ?_
  refine as_ ?_
  refine LV.done ?_
  exact pa6 hS h63 ⟨rfl, rfl, rfl, rfl, rfl, rfl, trivial⟩
 intro y0 y3 y4 y5 y9 y24 T3 n3 ρ its hS h11
 unfold g83_k2 at h11
 refine CV.cond h11 rfl (fun e h12 => ?_) (fun e h12 => ?_)
 ·
  subst e
  refine sr ?_
  iterate 2 refine mv ?_
  refine LV.call hS h12 (g108_ok _ _ _ _ _ _ _ ) hP rfl rfl rfl rfl fun x8 T4 n4 h13 ρ its hS => ?_
  refine as_ ?_
  refine dn (CV.ret (PV.blockR (PV.thenR ?_)))
  cases h13
  exact PV.ret (by simp) results83 hS (RS.tmp rfl RS.nil) rfl
 subst e
 refine sr ?_
 refine vy (V.eq h12 rfl rfl) fun x9 h14 => ?_
 refine as_ ?_
 refine dn ?_
 refine CV.cond h14 rfl (fun e h15 => ?_) (fun e h15 => ?_)
 ·
  subst e
  refine sr ?_
  refine mv ?_
  refine vy (V.lenS h15 rfl ls22) fun x10 h16 => ?_
  refine vy (V.bin0 h16 rfl rfl) fun x11 h17 => ?_
  refine vy (V.eq h17 rfl rfl) fun x12 h18 => ?_
  refine mv ?_
  refine ls5 X 0 3 4 5 40 [] (g83_k3 ro) 4 ?_ ?_
  ·
   rcases condK_inv h18 with ⟨e, h20⟩ | ⟨e, h20⟩
   ·
    subst e
    iterate 2 refine mv ?_
    refine LV.call hS h20 (g108_ok _ _ _ _ _ _ _ ) hP rfl rfl rfl rfl fun x13 T6 n6 h21 ρ its hS => ?_
    refine pu ?_
    exact la5 hS h21 ⟨rfl, rfl, rfl, rfl, rfl, trivial⟩
   subst e
   iterate 3 refine sk ?_
   refine pu ?_
   exact la5 hS h20 ⟨rfl, rfl, rfl, rfl, rfl, trivial⟩
  intro y0 y3 y4 y5 y40 T5 n5 ρ its hS h19
  unfold g83_k3 at h19
  refine as_ ?_
  refine dn (CV.ret (PV.blockR (PV.thenR ?_)))
  cases h19
  exact PV.ret (by simp) results83 hS (RS.tmp rfl RS.nil) rfl
 subst e
 refine cs6 X 0 3 4 5 9 41 [] (g83_k4 ro) ?_ ?_
 ·
  refine sr ?_
  refine vy (V.eq h15 rfl rfl) fun x30 h52 => ?_
  refine as_ ?_
  refine dn ?_
  refine CV.cond h52 rfl (fun e h53 => ?_) (fun e h53 => ?_)
  ·
   subst e
   refine CV.skip ?_
   exact pa6 hS h53 ⟨rfl, rfl, rfl, rfl, rfl, rfl, trivial⟩
  subst e
  refine sr ?_
  refine vy (V.eq h53 rfl rfl) fun x31 h54 => ?_
  refine as_ ?_
  refine dn ?_
  refine CV.cond h54 rfl (fun e h55 => ?_) (fun e h55 => ?_)
  ·
   subst e
   refine CV.skip ?_
   exact pa6 hS h55 ⟨rfl, rfl, rfl, rfl, rfl, rfl, trivial⟩
  subst e
  refine sr ?_
  refine vy (V.eq h55 rfl rfl) fun x32 h56 => ?_
  refine as_ ?_
  refine dn ?_
  refine CV.cond h56 rfl (fun e h57 => ?_) (fun e h57 => ?_)
  ·
   subst e
   refine CV.skip ?_
   exact pa6 hS h57 ⟨rfl, rfl, rfl, rfl, rfl, rfl, trivial⟩
  subst e
  refine sr ?_
  refine vy (V.eq h57 rfl rfl) fun x33 h58 => ?_
  refine as_ ?_
  refine dn ?_
  refine CV.cond h58 rfl (fun e h59 => ?_) (fun e h59 => ?_)
  ·
   subst e
   refine CV.skip ?_
   exact pa6 hS h59 ⟨rfl, rfl, rfl, rfl, rfl, rfl, trivial⟩
  subst e
  refine CV.region ?_
  refine vy (V.eq h59 rfl rfl) fun x34 h60 => ?_
  refine as_ ?_
  refine LV.done ?_
  exact pa6 hS h60 ⟨rfl, rfl, rfl, rfl, rfl, rfl, trivial⟩
 intro y0 y3 y4 y5 y9 y41 T7 n7 ρ its hS h22
 unfold g83_k4 at h22
 refine CV.cond h22 rfl (fun e h23 => ?_) (fun e h23 => ?_)
 ·
  subst e
  refine sr ?_
  iterate 2 refine mv ?_
  refine LV.call hS h23 (g108_ok _ _ _ _ _ _ _ ) hP rfl rfl rfl rfl fun x14 T8 n8 h24 ρ its hS => ?_
  refine as_ ?_
  refine dn (CV.ret (PV.blockR (PV.thenR ?_)))
  cases h24
  exact PV.ret (by simp) results83 hS (RS.tmp rfl RS.nil) rfl
 subst e
 refine sr ?_
 refine vy (V.eq h23 rfl rfl) fun x15 h25 => ?_
 refine as_ ?_
 refine dn ?_
 refine CV.cond h25 rfl (fun e h26 => ?_) (fun e h26 => ?_)
 ·
  subst e
  cases h26
 subst e
 refine cs6 X 0 3 4 5 9 55 [] (g83_k5 ro) ?_ ?_
 ·
  refine sr ?_
  refine vy (V.eq h26 rfl rfl) fun x28 h49 => ?_
  refine as_ ?_
  refine dn ?_
  refine CV.cond h49 rfl (fun e h50 => ?_) (fun e h50 => ?_)
  ·
   subst e
   refine CV.skip ?_
   exact pa6 hS h50 ⟨rfl, rfl, rfl, rfl, rfl, rfl, trivial⟩
  subst e
  refine CV.region ?_
  refine vy (V.eq h50 rfl rfl) fun x29 h51 => ?_
  refine as_ ?_
  refine LV.done ?_
  exact pa6 hS h51 ⟨rfl, rfl, rfl, rfl, rfl, rfl, trivial⟩
 intro y0 y3 y4 y5 y9 y55 T9 n9 ρ its hS h27
 unfold g83_k5 at h27
 refine CV.cond h27 rfl (fun e h28 => ?_) (fun e h28 => ?_)
 ·
  subst e
  cases h28
 subst e
 refine sr ?_
 refine vy (V.eq h28 rfl rfl) fun x16 h29 => ?_
 refine as_ ?_
 refine dn ?_
 refine CV.cond h29 rfl (fun e h30 => ?_) (fun e h30 => ?_)
 ·
  subst e
  cases h30
 subst e
 refine sr ?_
 refine vy (V.eq h30 rfl rfl) fun x17 h31 => ?_
 refine as_ ?_
 refine dn ?_
 refine CV.cond h31 rfl (fun e h32 => ?_) (fun e h32 => ?_)
 ·
  subst e
  cases h32
 subst e
 refine sr ?_
 refine vy (V.eq h32 rfl rfl) fun x18 h33 => ?_
 refine as_ ?_
 refine dn ?_
 refine CV.cond h33 rfl (fun e h34 => ?_) (fun e h34 => ?_)
 ·
  subst e
  cases h34
 subst e
 refine sr ?_
 refine vy (V.eq h34 rfl rfl) fun x19 h35 => ?_
 refine as_ ?_
 refine dn ?_
 refine CV.cond h35 rfl (fun e h36 => ?_) (fun e h36 => ?_)
 ·
  subst e
  cases h36
 subst e
 refine sr ?_
 refine vy (V.eq h36 rfl rfl) fun x20 h37 => ?_
 refine as_ ?_
 refine dn ?_
 refine CV.cond h37 rfl (fun e h38 => ?_) (fun e h38 => ?_)
 ·
  subst e
  cases h38
 subst e
 refine sr ?_
 refine vy (V.eq h38 rfl rfl) fun x21 h39 => ?_
 refine as_ ?_
 refine dn ?_
 refine CV.cond h39 rfl (fun e h40 => ?_) (fun e h40 => ?_)
 ·
  subst e
  refine sr ?_
  refine mv ?_
  refine vy (V.lenS h40 rfl ls22) fun x22 h41 => ?_
  refine vy (V.gt h41 rfl rfl) fun x23 h42 => ?_
  refine mv ?_
  refine ls5 X 0 3 4 5 155 [] (g83_k6 ro) 4 ?_ ?_
  ·
   rcases condK_inv h42 with ⟨e, h44⟩ | ⟨e, h44⟩
   ·
    subst e
    iterate 2 refine mv ?_
    refine LV.call hS h44 (g110_ok _ _ _ _ _ _ ) hP rfl rfl rfl rfl fun x24 T11 n11 h45 ρ its hS => ?_
    refine pu ?_
    exact la5 hS h45 ⟨rfl, rfl, rfl, rfl, rfl, trivial⟩
   subst e
   iterate 3 refine sk ?_
   refine pu ?_
   exact la5 hS h44 ⟨rfl, rfl, rfl, rfl, rfl, trivial⟩
  intro y0 y3 y4 y5 y155 T10 n10 ρ its hS h43
  unfold g83_k6 at h43
  refine as_ ?_
  refine dn (CV.ret (PV.blockR (PV.thenR ?_)))
  cases h43
  exact PV.ret (by simp) results83 hS (RS.tmp rfl RS.nil) rfl
 subst e
 refine CV.skip (PV.blockN (PV.thenN (sr ?_)))
 refine mv ?_
 refine vy (V.fa h40 rfl fo105_0) fun x25 h46 => ?_
 refine vy (V.ld hS h46 rfl one3) fun x26 h47 => ?_
 refine mv ?_
 refine LV.call hS h47 (g119_ok _ _ _ _ _ _ ) hP rfl rfl rfl rfl fun x27 T12 n12 h48 ρ its hS => ?_
 refine as_ ?_
 refine dn (CV.ret ?_)
 cases h48
 exact PV.ret (by simp) results83 hS (RS.tmp rfl RS.nil) rfl
def g84_k2 (ro : List HT) (lp1 : AV → AV → AV → AV → HT → Nat → R) (y0 y2 y5 y6 y18 : AV) (T2 : HT) (n2 : Nat) : R :=
 condK 840015 y18
 (
  .bad 840016
 )
 (
  addK prog 3 (.tmp 6) (.const (.int .i64 (.ofNat 1))) 840017 y6 (.lit (.int .i64 (.ofNat 1))) fun x5 =>
  lp1 y0 y2 y5 x5 T2 n2
 )
def g84_k3 (ro : List HT) (y2 y35 : AV) (T3 : HT) (n3 : Nat) : R :=
 .ok (.val y35) T3 n3
def g84_k5 (ro : List HT) (y2 y34 : AV) (T5 : HT) (n5 : Nat) : R :=
 g84_k3 ro y2 y34 T5 n5
def g84_k4 (ro : List HT) (y0 y2 y29 : AV) (T4 : HT) (n4 : Nat) : R :=
 condK 840037 y29
 (
  lenTK 840039 y0 fun x10 =>
  leK prog 3 (.tmp 32) (.const (.int .i64 (.ofNat 600))) 840040 x10 (.lit (.int .i64 (.ofNat 600))) fun x11 =>
  g84_k5 ro y2 x11 T4 n4
 )
 (
  g84_k5 ro y2 (.lit (.bool false)) T4 n4
 )
def g84_b1 (ro : List HT) (lp1 : AV → AV → AV → AV → HT → Nat → R) (y0 y2 y5 y6 : AV) (T1 : HT) (n1 : Nat) : R :=
 ltK prog 3 (.tmp 6) (.tmp 5) 840006 y6 y5 fun x2 =>
 condK 840007 x2
 (
  ixK 840012 y0 y6 fun x3 =>
  ltK prog 5 (.tmp 11) (.const (.int .u8 (.ofNat 48))) 840013 x3 (.lit (.int .u8 (.ofNat 48))) fun x4 =>
  condK 840019 x4
  (
   g84_k2 ro lp1 y0 y2 y5 y6 (.lit (.bool true)) T1 n1
  )
  (
   ixK 840023 y0 y6 fun x6 =>
   gtK prog 5 (.tmp 16) (.const (.int .u8 (.ofNat 57))) 840024 x6 (.lit (.int .u8 (.ofNat 57))) fun x7 =>
   g84_k2 ro lp1 y0 y2 y5 y6 x7 T1 n1
  )
 )
 (
  eqSK prog 9 (.tmp 20) (.const (.string ⟨⟨[48]⟩⟩)) 840027 y0 (.lit (.string ⟨⟨[48]⟩⟩)) fun x8 =>
  condK 840030 x8
  (
   g84_k3 ro y2 (.lit (.bool true)) T1 n1
  )
  (
   neSK prog 9 (.tmp 23) (.const (.string ⟨⟨[]⟩⟩)) 840033 y0 (.lit (.string ⟨⟨[]⟩⟩)) fun x9 =>
   condK 840043 x9
   (
    ixK 840045 y0 (.lit (.int .i64 (.ofNat 0))) fun x12 =>
    neK prog 5 (.tmp 27) (.const (.int .u8 (.ofNat 48))) 840046 x12 (.lit (.int .u8 (.ofNat 48))) fun x13 =>
    g84_k4 ro y0 y2 x13 T1 n1
   )
   (
    g84_k4 ro y0 y2 (.lit (.bool false)) T1 n1
   )
  )
 )
def g84 (ro : List HT) (a0 : AV) (T : HT) (nx : Nat) : R :=
 lenTK 840003 a0 fun x1 =>
 lpf4 840005 (g84_b1 ro) 100000 a0 (.lit (.bool false)) x1 (.lit (.int .i64 (.ofNat 0))) T nx
theorem g84_ok (ro : List HT) (a0 : AV) (T : HT) (nx : Nat) : GOk prog envE 84 [a0] ro T nx (g84 ro a0 T nx) := by
 refine GOk.of_body func84 rfl ntmps84 (by kernel_rfl) rfl fun r T' n' h1 w0 base ρ0 its hS hP => ?_
 have X : CtxW envE ρ0 ro r T' n' := trivial
 unfold g84 at h1
 refine sr ?_
 refine as_ ?_
 refine dn (CV.seq (sr ?_))
 refine mv ?_
 refine vy (V.lenT h1 rfl ls9) fun x1 h2 => ?_
 refine mv ?_
 refine dn (CV.block ?_)
 refine cl4 X 0 2 5 6 [] hS h2 ⟨rfl, rfl, rfl, rfl, trivial⟩ ?_
 intro f1 y0 y2 y5 y6 T1 n1 ρ its hS h3
 unfold g84_b1 at h3
 refine sr ?_
 refine vy (V.lt h3 rfl rfl) fun x2 h4 => ?_
 refine dn (CV.seq ?_)
 refine CV.cond h4 rfl (fun e h5 => ?_) (fun e h5 => ?_)
 ·
  subst e
  refine CV.skip (PV.thenN (CV.seq (CV.block (sr ?_))))
  refine mv ?_
  refine as_ ?_
  refine dn (sr ?_)
  iterate 2 refine mv ?_
  refine vy (V.ix h5 rfl rfl st9) fun x3 h6 => ?_
  refine vy (V.lt h6 rfl rfl) fun x4 h7 => ?_
  refine mv ?_
  refine ls5 X 0 2 5 6 18 [] (g84_k2 ro (lpf4 840005 (g84_b1 ro) f1)) 5 ?_ ?_
  ·
   rcases condK_inv h7 with ⟨e, h11⟩ | ⟨e, h11⟩
   ·
    subst e
    iterate 4 refine sk ?_
    refine pu ?_
    exact la5 hS h11 ⟨rfl, rfl, rfl, rfl, rfl, trivial⟩
   subst e
   iterate 2 refine mv ?_
   refine vy (V.ix h11 rfl rfl st9) fun x6 h12 => ?_
   refine vy (V.gt h12 rfl rfl) fun x7 h13 => ?_
   refine pu ?_
   exact la5 hS h13 ⟨rfl, rfl, rfl, rfl, rfl, trivial⟩
  intro y0 y2 y5 y6 y18 T2 n2 ρ its hS h8
  unfold g84_k2 at h8
  refine dn ?_
  refine CV.cond h8 rfl (fun e h9 => ?_) (fun e h9 => ?_)
  ·
   subst e
   cases h9
  subst e
  refine CV.skip (PV.blockN (PV.thenN (CV.region ?_)))
  refine vy (V.add h9 rfl rfl) fun x5 h10 => ?_
  refine mv ?_
  refine LV.done ?_
  exact pb4 hS h10 ⟨rfl, rfl, rfl, rfl, trivial⟩
 subst e
 refine CV.exit (PV.thenE (PV.thenE (PV.blockE (PV.thenN (sr ?_)))))
 refine mv ?_
 refine vy (V.eqS h5 rfl rfl) fun x8 h14 => ?_
 refine mv ?_
 refine ls2 X 2 35 [] (g84_k3 ro) 13 ?_ ?_
 ·
  rcases condK_inv h14 with ⟨e, h16⟩ | ⟨e, h16⟩
  ·
   subst e
   iterate 12 refine sk ?_
   refine pu ?_
   exact la2 hS h16 ⟨rfl, rfl, trivial⟩
  subst e
  refine mv ?_
  refine vy (V.neS h16 rfl rfl) fun x9 h17 => ?_
  refine mv ?_
  refine ls3 X 0 2 29 [(22, (.lit (.bool false)))] (g84_k4 ro) 4 ?_ ?_
  ·
   rcases condK_inv h17 with ⟨e, h23⟩ | ⟨e, h23⟩
   ·
    subst e
    refine mv ?_
    refine vy (V.ix h23 rfl rfl st9) fun x12 h24 => ?_
    refine vy (V.ne h24 rfl rfl) fun x13 h25 => ?_
    refine pu ?_
    exact la3 hS h25 ⟨rfl, rfl, rfl, rfl, trivial⟩
   subst e
   iterate 3 refine sk ?_
   refine pu ?_
   exact la3 hS h23 ⟨rfl, rfl, rfl, rfl, trivial⟩
  intro y0 y2 y29 T4 n4 ρ its hS h18
  unfold g84_k4 at h18
  refine mv ?_
  refine ls2 X 2 34 [(22, (.lit (.bool false)))] (g84_k5 ro) 4 ?_ ?_
  ·
   rcases condK_inv h18 with ⟨e, h20⟩ | ⟨e, h20⟩
   ·
    subst e
    refine mv ?_
    refine vy (V.lenT h20 rfl ls9) fun x10 h21 => ?_
    refine vy (V.le h21 rfl rfl) fun x11 h22 => ?_
    refine pu ?_
    exact la2 hS h22 ⟨rfl, rfl, rfl, trivial⟩
   subst e
   iterate 3 refine sk ?_
   refine pu ?_
   exact la2 hS h20 ⟨rfl, rfl, rfl, trivial⟩
  intro y2 y34 T5 n5 ρ its hS h19
  unfold g84_k5 at h19
  refine pu ?_
  exact la2 hS h19 ⟨rfl, rfl, trivial⟩
 intro y2 y35 T3 n3 ρ its hS h15
 unfold g84_k3 at h15
 refine as_ ?_
 refine dn (CV.ret ?_)
 cases h15
 exact PV.ret (by simp) results84 hS (RS.tmp rfl RS.nil) rfl

end
end Go.Proofs.YtljaoofbklkglaaGreatDoor.Vo
