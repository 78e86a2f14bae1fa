/-
  Proved here: plain functions that do what the program's functions do, each with its proof.
-/
import Derived.Test.YtljaoofbklkglaaGreatDoorVob
namespace Go.Proofs.YtljaoofbklkglaaGreatDoor.Vo
open Go.EY Go.EX Go.SX Go.RowKit
open Tryz Vof
noncomputable section
def g171_k1 (ih : FuncId → List HT → List AV → HT → Nat → R) (ro : List HT) (y2 y4 : AV) (T7 : HT) (n7 : Nat) : R :=
 .ok (.val y4) T7 n7
def g171 (ih : FuncId → List HT → List AV → HT → Nat → R) (ro : List HT) (a0 : AV) (T : HT) (nx : Nat) : R :=
 callK (g104 ro a0 (.lit (.string ⟨⟨[40]⟩⟩)) T nx) fun x1 T1 n1 =>
 callK (g105 ro a0 x1 T1 n1) fun x2 T2 n2 =>
 callK (g78 ro a0 (.lit (.string ⟨⟨[41]⟩⟩)) T2 n2) fun x3 T3 n3 =>
 condK 1710010 x3
 (
  .bad 1710011
 )
 (
  callK (ih 55 ro [a0] T3 n3) fun x4 T4 n4 =>
  exK 1710015 x4 0 fun x5 =>
  exK 1710016 x4 1 fun x6 =>
  callK (g104 ro a0 (.lit (.string ⟨⟨[41]⟩⟩)) T4 n4) fun x7 T5 n5 =>
  fldK 1710022 T5 ro a0 3 fun x8 =>
  subK prog 3 (.tmp 33) (.const (.int .i64 (.ofNat 1))) 1710023 x8 (.lit (.int .i64 (.ofNat 1))) fun x9 =>
  faK 1710024 a0 3 fun x10 =>
  stK 1710025 T5 x10 x9 fun T6 =>
  condK 1710029 x6
  (
   fldK 1710031 T6 ro a0 2 fun x11 =>
   iaK 1710034 x11 x5 5 fun x12 =>
   faK 1710035 x12 2 fun x13 =>
   stK 1710036 T6 x13 x1 fun T8 =>
   g171_k1 ih ro (.lit (.int .i64 (.ofNat 0))) x5 T8 n5
  )
  (
   g171_k1 ih ro (.lit (.int .i64 (.ofNat 0))) x5 T6 n5
  )
 )
theorem g171_ok (ih : FuncId → List HT → List AV → HT → Nat → R) (hI : ∀ f ro args T nx, GOk prog envE f args ro T nx (ih f ro args T nx)) (ro : List HT) (a0 : AV) (T : HT) (nx : Nat) : GOk prog envE 171 [a0] ro T nx (g171 ih ro a0 T nx) := by
 refine GOk.of_body func171 rfl ntmps171 (by kernel_rfl) rfl fun r T' n' h1 w0 base ρ0 its hS hP => ?_
 have X : CtxW envE ρ0 ro r T' n' := trivial
 unfold g171 at h1
 refine sr ?_
 refine as_ ?_
 refine dn (sr ?_)
 refine mv ?_
 refine LV.call hS h1 (g104_ok _ _ _ _ _ ) hP rfl rfl rfl rfl fun x1 T1 n1 h2 ρ its hS => ?_
 refine as_ ?_
 refine dn (sr ?_)
 iterate 2 refine mv ?_
 refine LV.call hS h2 (g105_ok _ _ _ _ _ ) hP rfl rfl rfl rfl fun x2 T2 n2 h3 ρ its hS => ?_
 refine dn (CV.seq (sr ?_))
 refine mv ?_
 refine LV.call hS h3 (g78_ok _ _ _ _ _ ) hP rfl rfl rfl rfl fun x3 T3 n3 h4 ρ its hS => ?_
 refine dn ?_
 refine CV.cond h4 rfl (fun e h5 => ?_) (fun e h5 => ?_)
 ·
  subst e
  cases h5
 subst e
 refine CV.skip (PV.thenN (sr ?_))
 refine mv ?_
 refine LV.call hS h5 (hI _ _ _ _ _) hP rfl rfl rfl rfl fun x4 T4 n4 h6 ρ its hS => ?_
 refine mv ?_
 refine vy (V.ex h6 rfl) fun x5 h7 => ?_
 refine vy (V.ex h7 rfl) fun x6 h8 => ?_
 iterate 2 refine as_ ?_
 refine dn (sr ?_)
 refine mv ?_
 refine LV.call hS h8 (g104_ok _ _ _ _ _ ) hP rfl rfl rfl rfl fun x7 T5 n5 h9 ρ its hS => ?_
 refine dn (sr ?_)
 refine mv ?_
 refine fl hS h9 fo99_3 one3 fun x8 h10 => ?_
 refine vy (V.sub h10 rfl rfl) fun x9 h11 => ?_
 refine fa2 h11 fo99_3 fun x10 h12 => ?_
 refine LV.st hS h12 rfl rfl rfl siz3 rfl rfl fun T6 its h13 hS => ?_
 refine dn ?_
 refine cs2 X 2 4 [] (g171_k1 ih ro) ?_ ?_
 ·
  refine sr ?_
  refine mv ?_
  refine dn ?_
  refine CV.cond h13 rfl (fun e h15 => ?_) (fun e h15 => ?_)
  ·
   subst e
   refine CV.region ?_
   refine mv ?_
   refine fl hS h15 fo99_2 one50 fun x11 h16 => ?_
   iterate 2 refine mv ?_
   refine vy (V.ia h16 rfl rfl el50) fun x12 h17 => ?_
   refine vy (V.fa h17 rfl fo105_2) fun x13 h18 => ?_
   refine LV.st hS h18 rfl rfl rfl siz3 rfl rfl fun T8 its h19 hS => ?_
   refine LV.done ?_
   exact pa2 hS h19 ⟨rfl, rfl, trivial⟩
  subst e
  refine CV.skip ?_
  exact pa2 hS h15 ⟨rfl, rfl, trivial⟩
 intro y2 y4 T7 n7 ρ its hS h14
 unfold g171_k1 at h14
 refine sr ?_
 refine mv ?_
 refine as_ ?_
 refine dn (CV.ret ?_)
 cases h14
 exact PV.ret (by simp) results171 hS (RS.tmp rfl RS.nil) rfl
def g172_k1 (ih : FuncId → List HT → List AV → HT → Nat → R) (ro : List HT) (y0 y2 y3 y4 : AV) (T3 : HT) (n3 : Nat) : R :=
 callK (g104 ro y0 (.lit (.string ⟨⟨[93]⟩⟩)) T3 n3) fun x3 T4 n4 =>
 fldK 1720012 T4 ro y0 3 fun x4 =>
 subK prog 3 (.tmp 41) (.const (.int .i64 (.ofNat 1))) 1720013 x4 (.lit (.int .i64 (.ofNat 1))) fun x5 =>
 faK 1720014 y0 3 fun x6 =>
 stK 1720015 T4 x6 x5 fun T5 =>
 callK (g80 ro y0 (.lit (.int .i64 (.ofNat 7))) y3 (.lit (.string ⟨⟨[]⟩⟩)) y4 T5 n4) fun x7 T6 n6 =>
 .ok (.val x7) T6 n6
def g172_k3 (ih : FuncId → List HT → List AV → HT → Nat → R) (ro : List HT) (lp2 : AV → AV → AV → AV → HT → Nat → R) (y0 y2 y3 y4 y26 : AV) (T14 : HT) (n14 : Nat) : R :=
 condK 1720038 y26
 (
  .bad 1720039
 )
 (
  callK (g78 ro y0 (.lit (.string ⟨⟨[44]⟩⟩)) T14 n14) fun x16 T15 n15 =>
  notK 1720042 x16 fun x17 =>
  condK 1720043 x17
  (
   g172_k1 ih ro y0 y2 y3 y4 T15 n15
  )
  (
   lp2 y0 y2 y3 y4 T15 n15
  )
 )
def g172_b2 (ih : FuncId → List HT → List AV → HT → Nat → R) (ro : List HT) (lp2 : AV → AV → AV → AV → HT → Nat → R) (y0 y2 y3 y4 : AV) (T7 : HT) (n7 : Nat) : R :=
 bsK 1720023 T7 n7 1 9 1 [(0, (.lit (.string ⟨⟨[93]⟩⟩)))] fun x8 T8 n8 =>
 callK (g103 ro y0 x8 T8 n8) fun x9 T9 n9 =>
 notK 1720025 x9 fun x10 =>
 condK 1720026 x10
 (
  callK (ih 77 ro [y0] T9 n9) fun x11 T10 n10 =>
  bsK 1720030 T10 n10 1 3 1 [(0, x11)] fun x12 T11 n11 =>
  shrK 1720032 T11 y4 fun T12 =>
  appEK 1720031 T12 ro n11 3 1 8 y4 x12 fun x13 T13 n13 =>
  lenSK 1720035 x13 fun x14 =>
  eqK prog 3 (.tmp 20) (.const (.int .i64 (.ofNat 1))) 1720036 x14 (.lit (.int .i64 (.ofNat 1))) fun x15 =>
  condK 1720044 x15
  (
   bsK 1720046 T13 n13 1 9 1 [(0, (.lit (.string ⟨⟨[102, 111, 114]⟩⟩)))] fun x18 T16 n16 =>
   callK (g103 ro y0 x18 T16 n16) fun x19 T17 n17 =>
   g172_k3 ih ro lp2 y0 y2 y3 x13 x19 T17 n17
  )
  (
   g172_k3 ih ro lp2 y0 y2 y3 x13 (.lit (.bool false)) T13 n13
  )
 )
 (
  g172_k1 ih ro y0 y2 y3 y4 T9 n9
 )
def g172 (ih : FuncId → List HT → List AV → HT → Nat → R) (ro : List HT) (a0 : AV) (T : HT) (nx : Nat) : R :=
 callK (g104 ro a0 (.lit (.string ⟨⟨[91]⟩⟩)) T nx) fun x1 T1 n1 =>
 callK (g105 ro a0 x1 T1 n1) fun x2 T2 n2 =>
 lpf4 1720021 (g172_b2 ih ro) 100000 a0 (.lit (.int .i64 (.ofNat 0))) x1 (.lit (.slice none 0 0)) T2 n2
theorem g172_ok (ih : FuncId → List HT → List AV → HT → Nat → R) (hI : ∀ f ro args T nx, GOk prog envE f args ro T nx (ih f ro args T nx)) (ro : List HT) (a0 : AV) (T : HT) (nx : Nat) : GOk prog envE 172 [a0] ro T nx (g172 ih ro a0 T nx) := by
 refine GOk.of_body func172 rfl ntmps172 (by kernel_rfl) rfl fun r T' n' h1 w0 base ρ0 its hS hP => ?_
 have X : CtxW envE ρ0 ro r T' n' := trivial
 unfold g172 at h1
 refine sr ?_
 refine as_ ?_
 refine dn (sr ?_)
 refine mv ?_
 refine LV.call hS h1 (g104_ok _ _ _ _ _ ) hP rfl rfl rfl rfl fun x1 T1 n1 h2 ρ its hS => ?_
 refine as_ ?_
 refine dn (sr ?_)
 iterate 2 refine mv ?_
 refine LV.call hS h2 (g105_ok _ _ _ _ _ ) hP rfl rfl rfl rfl fun x2 T2 n2 h3 ρ its hS => ?_
 refine dn (sr ?_)
 refine as_ ?_
 refine dn ?_
 refine cs4 X 0 2 3 4 [] (g172_k1 ih ro) ?_ ?_
 ·
  refine CV.block ?_
  refine cl4 X 0 2 3 4 [] hS h3 ⟨rfl, rfl, rfl, rfl, trivial⟩ ?_
  intro f2 y0 y2 y3 y4 T7 n7 ρ its hS h11
  unfold g172_b2 at h11
  refine CV.seq (sr ?_)
  refine mv ?_
  refine LV.bslice hS h11 rfl rfl el89 rfl rfl rfl rfl fun x8 T8 n8 h12 ρ its hS hdr => ?_
  refine LV.call hS h12 (g103_ok _ _ _ _ _ ) hP rfl rfl rfl rfl fun x9 T9 n9 h13 ρ its hS => ?_
  refine vy (V.not h13 rfl) fun x10 h14 => ?_
  refine dn ?_
  refine CV.cond h14 rfl (fun e h15 => ?_) (fun e h15 => ?_)
  ·
   subst e
   refine CV.skip (PV.thenN (CV.block (sr ?_)))
   iterate 2 refine mv ?_
   refine LV.call hS h15 (hI _ _ _ _ _) hP rfl rfl rfl rfl fun x11 T10 n10 h16 ρ its hS => ?_
   refine LV.bslice hS h16 rfl rfl el22 rfl rfl rfl rfl fun x12 T11 n11 h17 ρ its hS hdr => ?_
   obtain ⟨T12, its1, h18, hS, hW⟩ := shrK_inv hS h17
   refine LV.world hW ?_
   refine LV.appE hS h18 rfl rfl rfl rfl el22 rfl rfl rfl fun x13 T13 n13 h19 ρ its hS => ?_
   refine as_ ?_
   refine dn (CV.seq (sr ?_))
   refine mv ?_
   refine vy (V.lenS h19 rfl ls22) fun x14 h20 => ?_
   refine vy (V.eq h20 rfl rfl) fun x15 h21 => ?_
   refine mv ?_
   refine ls5 X 0 2 3 4 26 [] (g172_k3 ih ro (lpf4 1720021 (g172_b2 ih ro) f2)) 4 ?_ ?_
   ·
    rcases condK_inv h21 with ⟨e, h27⟩ | ⟨e, h27⟩
    ·
     subst e
     refine mv ?_
     refine LV.bslice hS h27 rfl rfl el89 rfl rfl rfl rfl fun x18 T16 n16 h28 ρ its hS hdr => ?_
     refine LV.call hS h28 (g103_ok _ _ _ _ _ ) hP rfl rfl rfl rfl fun x19 T17 n17 h29 ρ its hS => ?_
     refine pu ?_
     exact la5 hS h29 ⟨rfl, rfl, rfl, rfl, rfl, trivial⟩
    subst e
    iterate 3 refine sk ?_
    refine pu ?_
    exact la5 hS h27 ⟨rfl, rfl, rfl, rfl, rfl, trivial⟩
   intro y0 y2 y3 y4 y26 T14 n14 ρ its hS h22
   unfold g172_k3 at h22
   refine dn ?_
   refine CV.cond h22 rfl (fun e h23 => ?_) (fun e h23 => ?_)
   ·
    subst e
    cases h23
   subst e
   refine CV.skip (PV.thenN (sr ?_))
   refine mv ?_
   refine LV.call hS h23 (g78_ok _ _ _ _ _ ) hP rfl rfl rfl rfl fun x16 T15 n15 h24 ρ its hS => ?_
   refine vy (V.not h24 rfl) fun x17 h25 => ?_
   refine dn ?_
   refine CV.cond h25 rfl (fun e h26 => ?_) (fun e h26 => ?_)
   ·
    subst e
    refine CV.exit ?_
    refine PV.blockO rfl ?_
    refine PV.thenE (PV.blockE ?_)
    exact pa4 hS h26 ⟨rfl, rfl, rfl, rfl, trivial⟩
   subst e
   refine CV.skip (PV.blockN ?_)
   exact pb4 hS h26 ⟨rfl, rfl, rfl, rfl, trivial⟩
  subst e
  refine CV.exit (PV.thenE (PV.thenE (PV.blockE ?_)))
  exact pa4 hS h15 ⟨rfl, rfl, rfl, rfl, trivial⟩
 intro y0 y2 y3 y4 T3 n3 ρ its hS h4
 unfold g172_k1 at h4
 refine sr ?_
 refine mv ?_
 refine LV.call hS h4 (g104_ok _ _ _ _ _ ) hP rfl rfl rfl rfl fun x3 T4 n4 h5 ρ its hS => ?_
 refine dn (sr ?_)
 refine mv ?_
 refine fl hS h5 fo99_3 one3 fun x4 h6 => ?_
 refine vy (V.sub h6 rfl rfl) fun x5 h7 => ?_
 refine fa2 h7 fo99_3 fun x6 h8 => ?_
 refine LV.st hS h8 rfl rfl rfl siz3 rfl rfl fun T5 its h9 hS => ?_
 refine dn (sr ?_)
 iterate 3 refine mv ?_
 refine LV.call hS h9 (g80_ok _ _ _ _ _ _ _ _ ) hP rfl rfl rfl rfl fun x7 T6 n6 h10 ρ its hS => ?_
 refine as_ ?_
 refine dn (CV.ret ?_)
 cases h10
 exact PV.ret (by simp) results172 hS (RS.tmp rfl RS.nil) rfl
def g173_k1 (ih : FuncId → List HT → List AV → HT → Nat → R) (ro : List HT) (y0 y2 y3 y4 : AV) (T3 : HT) (n3 : Nat) : R :=
 callK (g104 ro y0 (.lit (.string ⟨⟨[125]⟩⟩)) T3 n3) fun x3 T4 n4 =>
 fldK 1730012 T4 ro y0 3 fun x4 =>
 subK prog 3 (.tmp 34) (.const (.int .i64 (.ofNat 1))) 1730013 x4 (.lit (.int .i64 (.ofNat 1))) fun x5 =>
 faK 1730014 y0 3 fun x6 =>
 stK 1730015 T4 x6 x5 fun T5 =>
 callK (g80 ro y0 (.lit (.int .i64 (.ofNat 9))) y3 (.lit (.string ⟨⟨[]⟩⟩)) y4 T5 n4) fun x7 T6 n6 =>
 .ok (.val x7) T6 n6
def g173_b2 (ih : FuncId → List HT → List AV → HT → Nat → R) (ro : List HT) (lp2 : AV → AV → AV → AV → HT → Nat → R) (y0 y2 y3 y4 : AV) (T7 : HT) (n7 : Nat) : R :=
 bsK 1730023 T7 n7 1 9 1 [(0, (.lit (.string ⟨⟨[125]⟩⟩)))] fun x8 T8 n8 =>
 callK (g103 ro y0 x8 T8 n8) fun x9 T9 n9 =>
 notK 1730025 x9 fun x10 =>
 condK 1730026 x10
 (
  callK (ih 77 ro [y0] T9 n9) fun x11 T10 n10 =>
  bsK 1730030 T10 n10 1 3 1 [(0, x11)] fun x12 T11 n11 =>
  shrK 1730032 T11 y4 fun T12 =>
  appEK 1730031 T12 ro n11 3 1 8 y4 x12 fun x13 T13 n13 =>
  callK (g104 ro y0 (.lit (.string ⟨⟨[58]⟩⟩)) T13 n13) fun x14 T14 n14 =>
  callK (ih 77 ro [y0] T14 n14) fun x15 T15 n15 =>
  bsK 1730039 T15 n15 1 3 1 [(0, x15)] fun x16 T16 n16 =>
  shrK 1730041 T16 x13 fun T17 =>
  appEK 1730040 T17 ro n16 3 1 8 x13 x16 fun x17 T18 n18 =>
  callK (g78 ro y0 (.lit (.string ⟨⟨[44]⟩⟩)) T18 n18) fun x18 T19 n19 =>
  notK 1730045 x18 fun x19 =>
  condK 1730046 x19
  (
   g173_k1 ih ro y0 y2 y3 x17 T19 n19
  )
  (
   lp2 y0 y2 y3 x17 T19 n19
  )
 )
 (
  g173_k1 ih ro y0 y2 y3 y4 T9 n9
 )
def g173 (ih : FuncId → List HT → List AV → HT → Nat → R) (ro : List HT) (a0 : AV) (T : HT) (nx : Nat) : R :=
 callK (g104 ro a0 (.lit (.string ⟨⟨[123]⟩⟩)) T nx) fun x1 T1 n1 =>
 callK (g105 ro a0 x1 T1 n1) fun x2 T2 n2 =>
 lpf4 1730021 (g173_b2 ih ro) 100000 a0 (.lit (.int .i64 (.ofNat 0))) x1 (.lit (.slice none 0 0)) T2 n2
theorem g173_ok (ih : FuncId → List HT → List AV → HT → Nat → R) (hI : ∀ f ro args T nx, GOk prog envE f args ro T nx (ih f ro args T nx)) (ro : List HT) (a0 : AV) (T : HT) (nx : Nat) : GOk prog envE 173 [a0] ro T nx (g173 ih ro a0 T nx) := by
 refine GOk.of_body func173 rfl ntmps173 (by kernel_rfl) rfl fun r T' n' h1 w0 base ρ0 its hS hP => ?_
 have X : CtxW envE ρ0 ro r T' n' := trivial
 unfold g173 at h1
 refine sr ?_
 refine as_ ?_
 refine dn (sr ?_)
 refine mv ?_
 refine LV.call hS h1 (g104_ok _ _ _ _ _ ) hP rfl rfl rfl rfl fun x1 T1 n1 h2 ρ its hS => ?_
 refine as_ ?_
 refine dn (sr ?_)
 iterate 2 refine mv ?_
 refine LV.call hS h2 (g105_ok _ _ _ _ _ ) hP rfl rfl rfl rfl fun x2 T2 n2 h3 ρ its hS => ?_
 refine dn (sr ?_)
 refine as_ ?_
 refine dn ?_
 refine cs4 X 0 2 3 4 [] (g173_k1 ih ro) ?_ ?_
 ·
  refine CV.block ?_
  refine cl4 X 0 2 3 4 [] hS h3 ⟨rfl, rfl, rfl, rfl, trivial⟩ ?_
  intro f2 y0 y2 y3 y4 T7 n7 ρ its hS h11
  unfold g173_b2 at h11
  refine CV.seq (sr ?_)
  refine mv ?_
  refine LV.bslice hS h11 rfl rfl el89 rfl rfl rfl rfl fun x8 T8 n8 h12 ρ its hS hdr => ?_
  refine LV.call hS h12 (g103_ok _ _ _ _ _ ) hP rfl rfl rfl rfl fun x9 T9 n9 h13 ρ its hS => ?_
  refine vy (V.not h13 rfl) fun x10 h14 => ?_
  refine dn ?_
  refine CV.cond h14 rfl (fun e h15 => ?_) (fun e h15 => ?_)
  ·
   subst e
   refine CV.skip (PV.thenN (CV.block (sr ?_)))
   iterate 2 refine mv ?_
   refine LV.call hS h15 (hI _ _ _ _ _) hP rfl rfl rfl rfl fun x11 T10 n10 h16 ρ its hS => ?_
   refine LV.bslice hS h16 rfl rfl el22 rfl rfl rfl rfl fun x12 T11 n11 h17 ρ its hS hdr => ?_
   obtain ⟨T12, its1, h18, hS, hW⟩ := shrK_inv hS h17
   refine LV.world hW ?_
   refine LV.appE hS h18 rfl rfl rfl rfl el22 rfl rfl rfl fun x13 T13 n13 h19 ρ its hS => ?_
   refine as_ ?_
   refine dn (sr ?_)
   refine mv ?_
   refine LV.call hS h19 (g104_ok _ _ _ _ _ ) hP rfl rfl rfl rfl fun x14 T14 n14 h20 ρ its hS => ?_
   refine dn (sr ?_)
   iterate 2 refine mv ?_
   refine LV.call hS h20 (hI _ _ _ _ _) hP rfl rfl rfl rfl fun x15 T15 n15 h21 ρ its hS => ?_
   refine LV.bslice hS h21 rfl rfl el22 rfl rfl rfl rfl fun x16 T16 n16 h22 ρ its hS hdr => ?_
   obtain ⟨T17, its1, h23, hS, hW⟩ := shrK_inv hS h22
   refine LV.world hW ?_
   refine LV.appE hS h23 rfl rfl rfl rfl el22 rfl rfl rfl fun x17 T18 n18 h24 ρ its hS => ?_
   refine as_ ?_
   refine dn (sr ?_)
   refine mv ?_
   refine LV.call hS h24 (g78_ok _ _ _ _ _ ) hP rfl rfl rfl rfl fun x18 T19 n19 h25 ρ its hS => ?_
   refine vy (V.not h25 rfl) fun x19 h26 => ?_
   refine dn ?_
   refine CV.cond h26 rfl (fun e h27 => ?_) (fun e h27 => ?_)
   ·
    subst e
    refine CV.exit ?_
    refine PV.blockO rfl ?_
    refine PV.thenE (PV.blockE ?_)
    exact pa4 hS h27 ⟨rfl, rfl, rfl, rfl, trivial⟩
   subst e
   refine CV.skip (PV.blockN ?_)
   exact pb4 hS h27 ⟨rfl, rfl, rfl, rfl, trivial⟩
  subst e
  refine CV.exit (PV.thenE (PV.thenE (PV.blockE ?_)))
  exact pa4 hS h15 ⟨rfl, rfl, rfl, rfl, trivial⟩
 intro y0 y2 y3 y4 T3 n3 ρ its hS h4
 unfold g173_k1 at h4
 refine sr ?_
 refine mv ?_
 refine LV.call hS h4 (g104_ok _ _ _ _ _ ) hP rfl rfl rfl rfl fun x3 T4 n4 h5 ρ its hS => ?_
 refine dn (sr ?_)
 refine mv ?_
 refine fl hS h5 fo99_3 one3 fun x4 h6 => ?_
 refine vy (V.sub h6 rfl rfl) fun x5 h7 => ?_
 refine fa2 h7 fo99_3 fun x6 h8 => ?_
 refine LV.st hS h8 rfl rfl rfl siz3 rfl rfl fun T5 its h9 hS => ?_
 refine dn (sr ?_)
 iterate 3 refine mv ?_
 refine LV.call hS h9 (g80_ok _ _ _ _ _ _ _ _ ) hP rfl rfl rfl rfl fun x7 T6 n6 h10 ρ its hS => ?_
 refine as_ ?_
 refine dn (CV.ret ?_)
 cases h10
 exact PV.ret (by simp) results173 hS (RS.tmp rfl RS.nil) rfl
def ap3 (ih : FuncId → List HT → List AV → HT → Nat → R) (f : FuncId) (ro : List HT) (args : List AV) (T : HT) (nx : Nat) : R :=
  Bool.rec (motive := fun _ => R) (Bool.rec (motive := fun _ => R) (Bool.rec (motive := fun _ => R) (Bool.rec (motive := fun _ => R) (Bool.rec (motive := fun _ => R) (Bool.rec (motive := fun _ => R) (.bad 2) (List.rec (motive := fun _ => R) (.bad 1) (fun a0 l0 _ => List.rec (motive := fun _ => R) (g173 ih ro a0 T nx) (fun _ _ _ => .bad 1) l0) args) (Nat.beq f 173)) (Bool.rec (motive := fun _ => R) (.bad 2) (List.rec (motive := fun _ => R) (.bad 1) (fun a0 l0 _ => List.rec (motive := fun _ => R) (g172 ih ro a0 T nx) (fun _ _ _ => .bad 1) l0) args) (Nat.beq f 172)) (Nat.ble f 172)) (Bool.rec (motive := fun _ => R) (.bad 2) (List.rec (motive := fun _ => R) (.bad 1) (fun a0 l0 _ => List.rec (motive := fun _ => R) (g171 ih ro a0 T nx) (fun _ _ _ => .bad 1) l0) args) (Nat.beq f 171)) (Nat.ble f 171)) (Bool.rec (motive := fun _ => R) (Bool.rec (motive := fun _ => R) (.bad 2) (List.rec (motive := fun _ => R) (.bad 1) (fun a0 l0 _ => List.rec (motive := fun _ => R) (g168 ih ro a0 T nx) (fun _ _ _ => .bad 1) l0) args) (Nat.beq f 168)) (Bool.rec (motive := fun _ => R) (.bad 2) (List.rec (motive := fun _ => R) (.bad 1) (fun a0 l0 _ => List.rec (motive := fun _ => R) (g165 ih ro a0 T nx) (fun _ _ _ => .bad 1) l0) args) (Nat.beq f 165)) (Nat.ble f 165)) (Nat.ble f 168)) (Bool.rec (motive := fun _ => R) (Bool.rec (motive := fun _ => R) (Bool.rec (motive := fun _ => R) (Bool.rec (motive := fun _ => R) (.bad 2) (List.rec (motive := fun _ => R) (.bad 1) (fun a0 l0 _ => List.rec (motive := fun _ => R) (g159 ih ro a0 T nx) (fun _ _ _ => .bad 1) l0) args) (Nat.beq f 159)) (Bool.rec (motive := fun _ => R) (.bad 2) (List.rec (motive := fun _ => R) (.bad 1) (fun a0 l0 _ => List.rec (motive := fun _ => R) (g154 ih ro a0 T nx) (fun _ _ _ => .bad 1) l0) args) (Nat.beq f 154)) (Nat.ble f 154)) (Bool.rec (motive := fun _ => R) (.bad 2) (List.rec (motive := fun _ => R) (.bad 1) (fun a0 l0 _ => List.rec (motive := fun _ => R) (g152 ih ro a0 T nx) (fun _ _ _ => .bad 1) l0) args) (Nat.beq f 152)) (Nat.ble f 152)) (Bool.rec (motive := fun _ => R) (Bool.rec (motive := fun _ => R) (.bad 2) (List.rec (motive := fun _ => R) (.bad 1) (fun a0 l0 _ => List.rec (motive := fun _ => R) (g149 ih ro a0 T nx) (fun _ _ _ => .bad 1) l0) args) (Nat.beq f 149)) (Bool.rec (motive := fun _ => R) (.bad 2) (List.rec (motive := fun _ => R) (.bad 1) (fun a0 l0 _ => List.rec (motive := fun _ => R) (g144 ih ro a0 T nx) (fun _ _ _ => .bad 1) l0) args) (Nat.beq f 144)) (Nat.ble f 144)) (Nat.ble f 149)) (Nat.ble f 159)) (Bool.rec (motive := fun _ => R) (Bool.rec (motive := fun _ => R) (Bool.rec (motive := fun _ => R) (Bool.rec (motive := fun _ => R) (Bool.rec (motive := fun _ => R) (.bad 2) (List.rec (motive := fun _ => R) (.bad 1) (fun a0 l0 _ => List.rec (motive := fun _ => R) (g134 ro a0 T nx) (fun _ _ _ => .bad 1) l0) args) (Nat.beq f 134)) (Bool.rec (motive := fun _ => R) (.bad 2) (List.rec (motive := fun _ => R) (.bad 1) (fun a0 l0 _ => List.rec (motive := fun _ => R) (g132 ih ro a0 T nx) (fun _ _ _ => .bad 1) l0) args) (Nat.beq f 132)) (Nat.ble f 132)) (Bool.rec (motive := fun _ => R) (.bad 2) (List.rec (motive := fun _ => R) (.bad 1) (fun a0 l0 _ => List.rec (motive := fun _ => R) (.bad 1) (fun a1 l1 _ => List.rec (motive := fun _ => R) (.bad 1) (fun a2 l2 _ => List.rec (motive := fun _ => R) (g131 ih ro a0 a1 a2 T nx) (fun _ _ _ => .bad 1) l2) l1) l0) args) (Nat.beq f 131)) (Nat.ble f 131)) (Bool.rec (motive := fun _ => R) (Bool.rec (motive := fun _ => R) (.bad 2) (List.rec (motive := fun _ => R) (.bad 1) (fun a0 l0 _ => List.rec (motive := fun _ => R) (g117 ro a0 T nx) (fun _ _ _ => .bad 1) l0) args) (Nat.beq f 117)) (Bool.rec (motive := fun _ => R) (.bad 2) (List.rec (motive := fun _ => R) (.bad 1) (fun a0 l0 _ => List.rec (motive := fun _ => R) (g102 ih ro a0 T nx) (fun _ _ _ => .bad 1) l0) args) (Nat.beq f 102)) (Nat.ble f 102)) (Nat.ble f 117)) (Bool.rec (motive := fun _ => R) (Bool.rec (motive := fun _ => R) (Bool.rec (motive := fun _ => R) (.bad 2) (List.rec (motive := fun _ => R) (.bad 1) (fun a0 l0 _ => List.rec (motive := fun _ => R) (g77 ih ro a0 T nx) (fun _ _ _ => .bad 1) l0) args) (Nat.beq f 77)) (Bool.rec (motive := fun _ => R) (.bad 2) (List.rec (motive := fun _ => R) (.bad 1) (fun a0 l0 _ => List.rec (motive := fun _ => R) (g55 ih ro a0 T nx) (fun _ _ _ => .bad 1) l0) args) (Nat.beq f 55)) (Nat.ble f 55)) (Bool.rec (motive := fun _ => R) (Bool.rec (motive := fun _ => R) (.bad 2) (List.rec (motive := fun _ => R) (.bad 1) (fun a0 l0 _ => List.rec (motive := fun _ => R) (g34 ih ro a0 T nx) (fun _ _ _ => .bad 1) l0) args) (Nat.beq f 34)) (Bool.rec (motive := fun _ => R) (.bad 2) (List.rec (motive := fun _ => R) (.bad 1) (fun a0 l0 _ => List.rec (motive := fun _ => R) (g33 ih ro a0 T nx) (fun _ _ _ => .bad 1) l0) args) (Nat.beq f 33)) (Nat.ble f 33)) (Nat.ble f 34)) (Nat.ble f 77)) (Nat.ble f 134)
def scc3 (fuel : Nat) : FuncId → List HT → List AV → HT → Nat → R :=
  Nat.rec (motive := fun _ => FuncId → List HT → List AV → HT → Nat → R) (fun _ _ _ _ _ => .bad 3) (fun _ ih => ap3 ih) fuel
theorem ap3_ok (ih : FuncId → List HT → List AV → HT → Nat → R) (hI : ∀ f ro args T nx, GOk prog envE f args ro T nx (ih f ro args T nx)) (f : FuncId) (ro : List HT) (args : List AV) (T : HT) (nx : Nat) : GOk prog envE f args ro T nx (ap3 ih f ro args T nx) := by
  unfold ap3
  refine recb_go (fun hb => ?_) (fun _ => ?_)
  · refine recb_go (fun hb => ?_) (fun _ => ?_)
    · refine recb_go (fun hb => ?_) (fun _ => ?_)
      · refine recb_go (fun hb => ?_) (fun _ => ?_)
        · refine recb_go (fun hb => ?_) (fun _ => ?_)
          · obtain rfl := beqT hb
            rcases args with _ | ⟨a0, l0⟩
            · exact GOk.bad
            rcases l0 with _ | ⟨_, _⟩
            · exact g33_ok _ hI _ _ _ _ 
            · exact GOk.bad
          · exact GOk.bad
        · refine recb_go (fun hb => ?_) (fun _ => ?_)
          · obtain rfl := beqT hb
            rcases args with _ | ⟨a0, l0⟩
            · exact GOk.bad
            rcases l0 with _ | ⟨_, _⟩
            · exact g34_ok _ hI _ _ _ _ 
            · exact GOk.bad
          · exact GOk.bad
      · refine recb_go (fun hb => ?_) (fun _ => ?_)
        · refine recb_go (fun hb => ?_) (fun _ => ?_)
          · obtain rfl := beqT hb
            rcases args with _ | ⟨a0, l0⟩
            · exact GOk.bad
            rcases l0 with _ | ⟨_, _⟩
            · exact g55_ok _ hI _ _ _ _ 
            · exact GOk.bad
          · exact GOk.bad
        · refine recb_go (fun hb => ?_) (fun _ => ?_)
          · obtain rfl := beqT hb
            rcases args with _ | ⟨a0, l0⟩
            · exact GOk.bad
            rcases l0 with _ | ⟨_, _⟩
            · exact g77_ok _ hI _ _ _ _ 
            · exact GOk.bad
          · exact GOk.bad
    · refine recb_go (fun hb => ?_) (fun _ => ?_)
      · refine recb_go (fun hb => ?_) (fun _ => ?_)
        · refine recb_go (fun hb => ?_) (fun _ => ?_)
          · obtain rfl := beqT hb
            rcases args with _ | ⟨a0, l0⟩
            · exact GOk.bad
            rcases l0 with _ | ⟨_, _⟩
            · exact g102_ok _ hI _ _ _ _ 
            · exact GOk.bad
          · exact GOk.bad
        · refine recb_go (fun hb => ?_) (fun _ => ?_)
          · obtain rfl := beqT hb
            rcases args with _ | ⟨a0, l0⟩
            · exact GOk.bad
            rcases l0 with _ | ⟨_, _⟩
            · exact g117_ok _ _ _ _ 
            · exact GOk.bad
          · exact GOk.bad
      · refine recb_go (fun hb => ?_) (fun _ => ?_)
        · refine recb_go (fun hb => ?_) (fun _ => ?_)
          · obtain rfl := beqT hb
            rcases args with _ | ⟨a0, l0⟩
            · exact GOk.bad
            rcases l0 with _ | ⟨a1, l1⟩
            · exact GOk.bad
            rcases l1 with _ | ⟨a2, l2⟩
            · exact GOk.bad
            rcases l2 with _ | ⟨_, _⟩
            · exact g131_ok _ hI _ _ _ _ _ _ 
            · exact GOk.bad
          · exact GOk.bad
        · refine recb_go (fun hb => ?_) (fun _ => ?_)
          · refine recb_go (fun hb => ?_) (fun _ => ?_)
            · obtain rfl := beqT hb
              rcases args with _ | ⟨a0, l0⟩
              · exact GOk.bad
              rcases l0 with _ | ⟨_, _⟩
              · exact g132_ok _ hI _ _ _ _ 
              · exact GOk.bad
            · exact GOk.bad
          · refine recb_go (fun hb => ?_) (fun _ => ?_)
            · obtain rfl := beqT hb
              rcases args with _ | ⟨a0, l0⟩
              · exact GOk.bad
              rcases l0 with _ | ⟨_, _⟩
              · exact g134_ok _ _ _ _ 
              · exact GOk.bad
            · exact GOk.bad
  · refine recb_go (fun hb => ?_) (fun _ => ?_)
    · refine recb_go (fun hb => ?_) (fun _ => ?_)
      · refine recb_go (fun hb => ?_) (fun _ => ?_)
        · refine recb_go (fun hb => ?_) (fun _ => ?_)
          · obtain rfl := beqT hb
            rcases args with _ | ⟨a0, l0⟩
            · exact GOk.bad
            rcases l0 with _ | ⟨_, _⟩
            · exact g144_ok _ hI _ _ _ _ 
            · exact GOk.bad
          · exact GOk.bad
        · refine recb_go (fun hb => ?_) (fun _ => ?_)
          · obtain rfl := beqT hb
            rcases args with _ | ⟨a0, l0⟩
            · exact GOk.bad
            rcases l0 with _ | ⟨_, _⟩
            · exact g149_ok _ hI _ _ _ _ 
            · exact GOk.bad
          · exact GOk.bad
      · refine recb_go (fun hb => ?_) (fun _ => ?_)
        · refine recb_go (fun hb => ?_) (fun _ => ?_)
          · obtain rfl := beqT hb
            rcases args with _ | ⟨a0, l0⟩
            · exact GOk.bad
            rcases l0 with _ | ⟨_, _⟩
            · exact g152_ok _ hI _ _ _ _ 
            · exact GOk.bad
          · exact GOk.bad
        · refine recb_go (fun hb => ?_) (fun _ => ?_)
          · refine recb_go (fun hb => ?_) (fun _ => ?_)
            · obtain rfl := beqT hb
              rcases args with _ | ⟨a0, l0⟩
              · exact GOk.bad
              rcases l0 with _ | ⟨_, _⟩
              · exact g154_ok _ hI _ _ _ _ 
              · exact GOk.bad
            · exact GOk.bad
          · refine recb_go (fun hb => ?_) (fun _ => ?_)
            · obtain rfl := beqT hb
              rcases args with _ | ⟨a0, l0⟩
              · exact GOk.bad
              rcases l0 with _ | ⟨_, _⟩
              · exact g159_ok _ hI _ _ _ _ 
              · exact GOk.bad
            · exact GOk.bad
    · refine recb_go (fun hb => ?_) (fun _ => ?_)
      · refine recb_go (fun hb => ?_) (fun _ => ?_)
        · refine recb_go (fun hb => ?_) (fun _ => ?_)
          · obtain rfl := beqT hb
            rcases args with _ | ⟨a0, l0⟩
            · exact GOk.bad
            rcases l0 with _ | ⟨_, _⟩
            · exact g165_ok _ hI _ _ _ _ 
            · exact GOk.bad
          · exact GOk.bad
        · refine recb_go (fun hb => ?_) (fun _ => ?_)
          · obtain rfl := beqT hb
            rcases args with _ | ⟨a0, l0⟩
            · exact GOk.bad
            rcases l0 with _ | ⟨_, _⟩
            · exact g168_ok _ hI _ _ _ _ 
            · exact GOk.bad
          · exact GOk.bad
      · refine recb_go (fun hb => ?_) (fun _ => ?_)
        · refine recb_go (fun hb => ?_) (fun _ => ?_)
          · obtain rfl := beqT hb
            rcases args with _ | ⟨a0, l0⟩
            · exact GOk.bad
            rcases l0 with _ | ⟨_, _⟩
            · exact g171_ok _ hI _ _ _ _ 
            · exact GOk.bad
          · exact GOk.bad
        · refine recb_go (fun hb => ?_) (fun _ => ?_)
          · refine recb_go (fun hb => ?_) (fun _ => ?_)
            · obtain rfl := beqT hb
              rcases args with _ | ⟨a0, l0⟩
              · exact GOk.bad
              rcases l0 with _ | ⟨_, _⟩
              · exact g172_ok _ hI _ _ _ _ 
              · exact GOk.bad
            · exact GOk.bad
          · refine recb_go (fun hb => ?_) (fun _ => ?_)
            · obtain rfl := beqT hb
              rcases args with _ | ⟨a0, l0⟩
              · exact GOk.bad
              rcases l0 with _ | ⟨_, _⟩
              · exact g173_ok _ hI _ _ _ _ 
              · exact GOk.bad
            · exact GOk.bad
theorem scc3_ok : ∀ (fuel : Nat) (f : FuncId) (ro : List HT) (args : List AV) (T : HT) (nx : Nat), GOk prog envE f args ro T nx (scc3 fuel f ro args T nx)
  | 0, _, _, _, _, _ => GOk.bad
  | fuel + 1, f, ro, args, T, nx => ap3_ok (scc3 fuel) (scc3_ok fuel) f ro args T nx
def g75 (ro : List HT) (a0 a1 a2 a3 : AV) (T : HT) (nx : Nat) : R :=
 fldK 750003 T ro a0 2 fun x1 =>
 optK 750007 (bld144 [(0, a1), (1, a2), (2, a3)]) fun x2 =>
 bsK 750008 T nx 1 144 3 [(0, x2)] fun x3 T1 n1 =>
 shrK 750010 T1 x1 fun T2 =>
 appEK 750009 T2 ro n1 144 3 32 x1 x3 fun x4 T3 n3 =>
 faK 750011 a0 2 fun x5 =>
 stK 750012 T3 x5 x4 fun T4 =>
 .ok (.val (.tup [])) T4 n3
theorem g75_ok (ro : List HT) (a0 a1 a2 a3 : AV) (T : HT) (nx : Nat) : GOk prog envE 75 [a0, a1, a2, a3] ro T nx (g75 ro a0 a1 a2 a3 T nx) := by
 refine GOk.of_body func75 rfl ntmps75 (by kernel_rfl) rfl fun r T' n' h1 w0 base ρ0 its hS hP => ?_
 have X : CtxW envE ρ0 ro r T' n' := trivial
 unfold g75 at h1
 refine CV.region ?_
 iterate 2 refine mv ?_
 refine fl hS h1 fo174_2 one97 fun x1 h2 => ?_
 iterate 3 refine mv ?_
 refine vy (V.bld h2 rfl) fun x2 h3 => ?_
 refine LV.bslice hS h3 rfl rfl el97 rfl rfl rfl rfl fun x3 T1 n1 h4 ρ its hS hdr => ?_
 obtain ⟨T2, its1, h5, hS, hW⟩ := shrK_inv hS h4
 refine LV.world hW ?_
 refine LV.appE hS h5 rfl rfl rfl rfl el97 rfl rfl rfl fun x4 T3 n3 h6 ρ its hS => ?_
 refine fa2 h6 fo174_2 fun x5 h7 => ?_
 refine LV.st hS h7 rfl rfl rfl siz97 rfl rfl fun T4 its h8 hS => ?_
 refine LV.done ?_
 cases h8
 exact PV.ret (by simp) results75 hS RS.nil rfl
def g96_k3 (ro : List HT) (y20 : AV) (T3 : HT) (n3 : Nat) : R :=
 .ok (.val y20) T3 n3
def g96_k2 (ro : List HT) (y0 y16 : AV) (T2 : HT) (n2 : Nat) : R :=
 condK 960008 y16
 (
  g96_k3 ro (.lit (.bool true)) T2 n2
 )
 (
  eqK prog 5 (.tmp 18) (.const (.int .u8 (.ofNat 95))) 960011 y0 (.lit (.int .u8 (.ofNat 95))) fun x2 =>
  g96_k3 ro x2 T2 n2
 )
def g96_k4 (ro : List HT) (y0 y15 : AV) (T4 : HT) (n4 : Nat) : R :=
 g96_k2 ro y0 y15 T4 n4
def g96_k1 (ro : List HT) (y0 y8 : AV) (T1 : HT) (n1 : Nat) : R :=
 condK 960013 y8
 (
  g96_k2 ro y0 (.lit (.bool true)) T1 n1
 )
 (
  geK prog 5 (.tmp 10) (.const (.int .u8 (.ofNat 65))) 960016 y0 (.lit (.int .u8 (.ofNat 65))) fun x3 =>
  condK 960019 x3
  (
   leK prog 5 (.tmp 13) (.const (.int .u8 (.ofNat 90))) 960021 y0 (.lit (.int .u8 (.ofNat 90))) fun x4 =>
   g96_k4 ro y0 x4 T1 n1
  )
  (
   g96_k4 ro y0 (.lit (.bool false)) T1 n1
  )
 )
def g96 (ro : List HT) (a0 : AV) (T : HT) (nx : Nat) : R :=
 geK prog 5 (.tmp 3) (.const (.int .u8 (.ofNat 97))) 960003 a0 (.lit (.int .u8 (.ofNat 97))) fun x1 =>
 condK 960024 x1
 (
  leK prog 5 (.tmp 6) (.const (.int .u8 (.ofNat 122))) 960026 a0 (.lit (.int .u8 (.ofNat 122))) fun x5 =>
  g96_k1 ro a0 x5 T nx
 )
 (
  g96_k1 ro a0 (.lit (.bool false)) T nx
 )
theorem g96_ok (ro : List HT) (a0 : AV) (T : HT) (nx : Nat) : GOk prog envE 96 [a0] ro T nx (g96 ro a0 T nx) := by
 refine GOk.of_body func96 rfl ntmps96 (by kernel_rfl) rfl fun r T' n' h1 w0 base ρ0 its hS hP => ?_
 have X : CtxW envE ρ0 ro r T' n' := trivial
 unfold g96 at h1
 refine sr ?_
 refine as_ ?_
 refine dn (sr ?_)
 refine mv ?_
 refine vy (V.ge h1 rfl rfl) fun x1 h2 => ?_
 refine mv ?_
 refine ls2 X 0 8 [(2, (.lit (.bool false)))] (g96_k1 ro) 3 ?_ ?_
 ·
  rcases condK_inv h2 with ⟨e, h13⟩ | ⟨e, h13⟩
  ·
   subst e
   refine mv ?_
   refine vy (V.le h13 rfl rfl) fun x5 h14 => ?_
   refine pu ?_
   exact la2 hS h14 ⟨rfl, rfl, rfl, trivial⟩
  subst e
  iterate 2 refine sk ?_
  refine pu ?_
  exact la2 hS h13 ⟨rfl, rfl, rfl, trivial⟩
 intro y0 y8 T1 n1 ρ its hS h3
 unfold g96_k1 at h3
 refine mv ?_
 refine ls2 X 0 16 [(2, (.lit (.bool false)))] (g96_k2 ro) 7 ?_ ?_
 ·
  rcases condK_inv h3 with ⟨e, h8⟩ | ⟨e, h8⟩
  ·
   subst e
   iterate 6 refine sk ?_
   refine pu ?_
   exact la2 hS h8 ⟨rfl, rfl, rfl, trivial⟩
  subst e
  refine mv ?_
  refine vy (V.ge h8 rfl rfl) fun x3 h9 => ?_
  refine mv ?_
  refine ls2 X 0 15 [(2, (.lit (.bool false))), (9, (.lit (.bool false)))] (g96_k4 ro) 3 ?_ ?_
  ·
   rcases condK_inv h9 with ⟨e, h11⟩ | ⟨e, h11⟩
   ·
    subst e
    refine mv ?_
    refine vy (V.le h11 rfl rfl) fun x4 h12 => ?_
    refine pu ?_
    exact la2 hS h12 ⟨rfl, rfl, rfl, rfl, trivial⟩
   subst e
   iterate 2 refine sk ?_
   refine pu ?_
   exact la2 hS h11 ⟨rfl, rfl, rfl, rfl, trivial⟩
  intro y0 y15 T4 n4 ρ its hS h10
  unfold g96_k4 at h10
  refine pu ?_
  exact la2 hS h10 ⟨rfl, rfl, rfl, trivial⟩
 intro y0 y16 T2 n2 ρ its hS h4
 unfold g96_k2 at h4
 refine mv ?_
 refine ls1 X 20 [(2, (.lit (.bool false)))] (g96_k3 ro) 3 ?_ ?_
 ·
  rcases condK_inv h4 with ⟨e, h6⟩ | ⟨e, h6⟩
  ·
   subst e
   iterate 2 refine sk ?_
   refine pu ?_
   exact la1 hS h6 ⟨rfl, rfl, trivial⟩
  subst e
  refine mv ?_
  refine vy (V.eq h6 rfl rfl) fun x2 h7 => ?_
  refine pu ?_
  exact la1 hS h7 ⟨rfl, rfl, trivial⟩
 intro y20 T3 n3 ρ its hS h5
 unfold g96_k3 at h5
 refine as_ ?_
 refine dn (CV.ret ?_)
 cases h5
 exact PV.ret (by simp) results96 hS (RS.tmp rfl RS.nil) rfl
def g98_k1 (ro : List HT) (y8 : AV) (T1 : HT) (n1 : Nat) : R :=
 .ok (.val y8) T1 n1
def g98 (ro : List HT) (a0 : AV) (T : HT) (nx : Nat) : R :=
 geK prog 5 (.tmp 3) (.const (.int .u8 (.ofNat 48))) 980003 a0 (.lit (.int .u8 (.ofNat 48))) fun x1 =>
 condK 980006 x1
 (
  leK prog 5 (.tmp 6) (.const (.int .u8 (.ofNat 57))) 980008 a0 (.lit (.int .u8 (.ofNat 57))) fun x2 =>
  g98_k1 ro x2 T nx
 )
 (
  g98_k1 ro (.lit (.bool false)) T nx
 )
theorem g98_ok (ro : List HT) (a0 : AV) (T : HT) (nx : Nat) : GOk prog envE 98 [a0] ro T nx (g98 ro a0 T nx) := by
 refine GOk.of_body func98 rfl ntmps98 (by kernel_rfl) rfl fun r T' n' h1 w0 base ρ0 its hS hP => ?_
 have X : CtxW envE ρ0 ro r T' n' := trivial
 unfold g98 at h1
 refine sr ?_
 refine as_ ?_
 refine dn (sr ?_)
 refine mv ?_
 refine vy (V.ge h1 rfl rfl) fun x1 h2 => ?_
 refine mv ?_
 refine ls1 X 8 [(2, (.lit (.bool false)))] (g98_k1 ro) 3 ?_ ?_
 ·
  rcases condK_inv h2 with ⟨e, h4⟩ | ⟨e, h4⟩
  ·
   subst e
   refine mv ?_
   refine vy (V.le h4 rfl rfl) fun x2 h5 => ?_
   refine pu ?_
   exact la1 hS h5 ⟨rfl, rfl, trivial⟩
  subst e
  iterate 2 refine sk ?_
  refine pu ?_
  exact la1 hS h4 ⟨rfl, rfl, trivial⟩
 intro y8 T1 n1 ρ its hS h3
 unfold g98_k1 at h3
 refine as_ ?_
 refine dn (CV.ret ?_)
 cases h3
 exact PV.ret (by simp) results98 hS (RS.tmp rfl RS.nil) rfl
def g140 (ro : List HT) (T : HT) (nx : Nat) : R :=
 bsK 1400002 T nx 22 9 1 [(0, (.lit (.string ⟨⟨[61, 61]⟩⟩))), (1, (.lit (.string ⟨⟨[33, 61]⟩⟩))), (2, (.lit (.string ⟨⟨[60, 61]⟩⟩))), (3, (.lit (.string ⟨⟨[62, 61]⟩⟩))), (4, (.lit (.string ⟨⟨[43, 61]⟩⟩))), (5, (.lit (.string ⟨⟨[47, 47]⟩⟩))), (6, (.lit (.string ⟨⟨[60]⟩⟩))), (7, (.lit (.string ⟨⟨[62]⟩⟩))), (8, (.lit (.string ⟨⟨[61]⟩⟩))), (9, (.lit (.string ⟨⟨[43]⟩⟩))), (10, (.lit (.string ⟨⟨[45]⟩⟩))), (11, (.lit (.string ⟨⟨[42]⟩⟩))), (12, (.lit (.string ⟨⟨[37]⟩⟩))), (13, (.lit (.string ⟨⟨[40]⟩⟩))), (14, (.lit (.string ⟨⟨[41]⟩⟩))), (15, (.lit (.string ⟨⟨[91]⟩⟩))), (16, (.lit (.string ⟨⟨[93]⟩⟩))), (17, (.lit (.string ⟨⟨[123]⟩⟩))), (18, (.lit (.string ⟨⟨[125]⟩⟩))), (19, (.lit (.string ⟨⟨[44]⟩⟩))), (20, (.lit (.string ⟨⟨[58]⟩⟩))), (21, (.lit (.string ⟨⟨[46]⟩⟩)))] fun x1 T1 n1 =>
 .ok (.val x1) T1 n1
theorem g140_ok (ro : List HT) (T : HT) (nx : Nat) : GOk prog envE 140 [] ro T nx (g140 ro T nx) := by
 refine GOk.of_body func140 rfl ntmps140 (by kernel_rfl) rfl fun r T' n' h1 w0 base ρ0 its hS hP => ?_
 have X : CtxW envE ρ0 ro r T' n' := trivial
 unfold g140 at h1
 refine sr ?_
 refine as_ ?_
 refine dn (sr ?_)
 refine LV.bslice hS h1 rfl rfl el89 rfl rfl rfl rfl fun x1 T1 n1 h2 ρ its hS hdr => ?_
 refine as_ ?_
 refine dn (CV.ret ?_)
 cases h2
 exact PV.ret (by simp) results140 hS (RS.tmp rfl RS.nil) rfl
def g136_k1 (ro : List HT) (y17 : AV) (T1 : HT) (n1 : Nat) : R :=
 .ok (.val y17) T1 n1
def g136 (ro : List HT) (a0 a1 : AV) (T : HT) (nx : Nat) : R :=
 lenTK 1360003 a0 fun x1 =>
 lenTK 1360005 a1 fun x2 =>
 geK prog 3 (.tmp 6) (.tmp 8) 1360006 x1 x2 fun x3 =>
 condK 1360009 x3
 (
  lenTK 1360012 a1 fun x4 =>
  sliceF 1360013 a0 none (some x4) fun x5 =>
  eqSK prog 9 (.tmp 14) (.tmp 15) 1360015 x5 a1 fun x6 =>
  g136_k1 ro x6 T nx
 )
 (
  g136_k1 ro (.lit (.bool false)) T nx
 )
theorem g136_ok (ro : List HT) (a0 a1 : AV) (T : HT) (nx : Nat) : GOk prog envE 136 [a0, a1] ro T nx (g136 ro a0 a1 T nx) := by
 refine GOk.of_body func136 rfl ntmps136 (by kernel_rfl) rfl fun r T' n' h1 w0 base ρ0 its hS hP => ?_
 have X : CtxW envE ρ0 ro r T' n' := trivial
 unfold g136 at h1
 refine sr ?_
 refine as_ ?_
 refine dn (sr ?_)
 refine mv ?_
 refine vy (V.lenT h1 rfl ls9) fun x1 h2 => ?_
 refine mv ?_
 refine vy (V.lenT h2 rfl ls9) fun x2 h3 => ?_
 refine vy (V.ge h3 rfl rfl) fun x3 h4 => ?_
 refine mv ?_
 refine ls1 X 17 [(4, (.lit (.bool false)))] (g136_k1 ro) 7 ?_ ?_
 ·
  rcases condK_inv h4 with ⟨e, h6⟩ | ⟨e, h6⟩
  ·
   subst e
   iterate 2 refine mv ?_
   refine vy (V.lenT h6 rfl ls9) fun x4 h7 => ?_
   refine vy (V.slHi (sliceF_ok h7) rfl rfl st9) fun x5 h8 => ?_
   refine mv ?_
   refine vy (V.eqS h8 rfl rfl) fun x6 h9 => ?_
   refine pu ?_
   exact la1 hS h9 ⟨rfl, rfl, trivial⟩
  subst e
  iterate 6 refine sk ?_
  refine pu ?_
  exact la1 hS h6 ⟨rfl, rfl, trivial⟩
 intro y17 T1 n1 ρ its hS h5
 unfold g136_k1 at h5
 refine as_ ?_
 refine dn (CV.ret ?_)
 cases h5
 exact PV.ret (by simp) results136 hS (RS.tmp rfl RS.nil) rfl
def g141 (ro : List HT) (a0 a1 : AV) (T : HT) (nx : Nat) : R :=
 callK (g136 ro a0 a1 T nx) fun x1 T1 n1 =>
 .ok (.val x1) T1 n1
theorem g141_ok (ro : List HT) (a0 a1 : AV) (T : HT) (nx : Nat) : GOk prog envE 141 [a0, a1] ro T nx (g141 ro a0 a1 T nx) := by
 refine GOk.of_body func141 rfl ntmps141 (by kernel_rfl) rfl fun r T' n' h1 w0 base ρ0 its hS hP => ?_
 have X : CtxW envE ρ0 ro r T' n' := trivial
 unfold g141 at h1
 refine sr ?_
 refine as_ ?_
 refine dn (sr ?_)
 iterate 2 refine mv ?_
 refine LV.call hS h1 (g136_ok _ _ _ _ _ ) hP rfl rfl rfl rfl fun x1 T1 n1 h2 ρ its hS => ?_
 refine as_ ?_
 refine dn (CV.ret ?_)
 cases h2
 exact PV.ret (by simp) results141 hS (RS.tmp rfl RS.nil) rfl
def g129_b1 (ro : List HT) (lp1 : AV → AV → AV → AV → AV → HT → Nat → R) (y0 y2 y5 y6 y7 : AV) (T2 : HT) (n2 : Nat) : R :=
 ltK prog 3 (.tmp 7) (.tmp 6) 1290006 y7 y6 fun x3 =>
 condK 1290007 x3
 (
  iaK 1290008 y5 y7 1 fun x4 =>
  ldK 1290009 T2 ro x4 fun x5 =>
  ncK 1290012 y0 fun x6 =>
  faK 1290013 x6 0 fun x7 =>
  ldK 1290014 T2 ro x7 fun x8 =>
  ncK 1290016 y0 fun x9 =>
  faK 1290017 x9 1 fun x10 =>
  ldK 1290018 T2 ro x10 fun x11 =>
  sliceF 1290019 x8 (some x11) none fun x12 =>
  callK (g141 ro x12 x5 T2 n2) fun x13 T3 n3 =>
  condK 1290022 x13
  (
   .ok (.val x5) T3 n3
  )
  (
   addK prog 3 (.tmp 7) (.const (.int .i64 (.ofNat 1))) 1290025 y7 (.lit (.int .i64 (.ofNat 1))) fun x14 =>
   lp1 y0 y2 y5 y6 x14 T3 n3
  )
 )
 (
  .ok (.val (.lit (.string ⟨⟨[]⟩⟩))) T2 n2
 )
def g129 (ro : List HT) (a0 : AV) (T : HT) (nx : Nat) : R :=
 callK (g140 ro T nx) fun x1 T1 n1 =>
 lenSK 1290003 x1 fun x2 =>
 lpf5 1290005 (g129_b1 ro) 100000 a0 (.lit (.string ⟨⟨[]⟩⟩)) x1 x2 (.lit (.int .i64 (.ofNat 0))) T1 n1
theorem g129_ok (ro : List HT) (a0 : AV) (T : HT) (nx : Nat) : GOk prog envE 129 [a0] ro T nx (g129 ro a0 T nx) := by
 refine GOk.of_body func129 rfl ntmps129 (by kernel_rfl) rfl fun r T' n' h1 w0 base ρ0 its hS hP => ?_
 have X : CtxW envE ρ0 ro r T' n' := trivial
 unfold g129 at h1
 refine sr ?_
 refine as_ ?_
 refine dn (CV.seq (sr ?_))
 refine LV.call hS h1 (g140_ok _ _ _ ) hP rfl rfl rfl rfl fun x1 T1 n1 h2 ρ its hS => ?_
 refine vy (V.lenS h2 rfl ls89) fun x2 h3 => ?_
 refine mv ?_
 refine dn (CV.block ?_)
 refine cl5 X 0 2 5 6 7 [] hS h3 ⟨rfl, rfl, rfl, rfl, rfl, trivial⟩ ?_
 intro f1 y0 y2 y5 y6 y7 T2 n2 ρ its hS h4
 unfold g129_b1 at h4
 refine sr ?_
 refine vy (V.lt h4 rfl rfl) fun x3 h5 => ?_
 refine dn (CV.seq ?_)
 refine CV.cond h5 rfl (fun e h6 => ?_) (fun e h6 => ?_)
 ·
  subst e
  refine CV.skip (PV.thenN (CV.seq (CV.block (sr ?_))))
  refine vy (V.ia h6 rfl rfl el89) fun x4 h7 => ?_
  refine vy (V.ld hS h7 rfl one9) fun x5 h8 => ?_
  refine as_ ?_
  refine dn (CV.seq ?_)
  refine CV.regionM [(0, .anywhere), (1, .anywhere), (2, .anywhere), (3, .held), (4, .anywhere), (5, .anywhere), (6, .anywhere), (7, .held), (8, .held), (9, .anywhere), (10, .alone)] rfl (fun c a a' w hd hq => PanicOk.root (P := prog) (fn := f129) (w0 := w0) (base := base) (E := envE) (ro := ro) (r := r) (T' := T') (n' := n') (ρ0 := ρ0) c a a' w hd hq) (by kernel_rfl) ?_
  refine MV.step0 (i := 0) rfl (VAL.move rfl) rfl rfl rfl ?_
  refine MV.lift0 (i := 1) rfl (V.nc h8 rfl) rfl rfl rfl fun x6 h9 => ?_
  refine MV.lift0 (i := 2) rfl (V.fa h9 rfl fo174_0) rfl rfl rfl fun x7 h10 => ?_
  refine MV.lift1 (i := 3) rfl (fun _ z => z) (V.ld hS h10 rfl one9) rfl rfl rfl [] (by kernel_rfl) fun x8 h11 => ?_
  refine MV.step0 (i := 4) rfl (VAL.move rfl) rfl rfl rfl ?_
  refine MV.lift0 (i := 5) rfl (V.nc h11 rfl) rfl rfl rfl fun x9 h12 => ?_
  refine MV.lift0 (i := 6) rfl (V.fa h12 rfl fo174_1) rfl rfl rfl fun x10 h13 => ?_
  refine MV.lift1 (i := 7) rfl (fun _ z => z) (V.ld hS h13 rfl one3) rfl rfl rfl [3] (by kernel_rfl) fun x11 h14 => ?_
  refine MV.lift1 (i := 8) rfl (fun _ z => z) (V.slLo (sliceF_ok h14) rfl rfl st9) rfl rfl rfl [] (by kernel_rfl) fun x12 h15 => ?_
  refine MV.step0 (i := 9) rfl (VAL.move rfl) rfl rfl rfl ?_
  refine MV.force (i := 10) rfl ?_
  refine LV.call hS h15 (g141_ok _ _ _ _ _ ) hP rfl rfl rfl rfl fun x13 T3 n3 h16 ρ its hS => ?_
  refine LV.nextM [] (by kernel_rfl) (fun z => absurd rfl z) ?_
  refine mdn ?_
  refine CV.cond h16 rfl (fun e h17 => ?_) (fun e h17 => ?_)
  ·
   subst e
   refine sr ?_
   refine mv ?_
   refine as_ ?_
   refine dn (CV.ret (PV.blockR (PV.thenR (PV.thenR (PV.blockR (PV.thenR ?_))))))
   cases h17
   exact PV.ret (by simp) results129 hS (RS.tmp rfl RS.nil) rfl
  subst e
  refine CV.skip (PV.blockN (PV.thenN (CV.region ?_)))
  refine vy (V.add h17 rfl rfl) fun x14 h18 => ?_
  refine mv ?_
  refine LV.done ?_
  exact pb5 hS h18 ⟨rfl, rfl, rfl, rfl, rfl, trivial⟩
 subst e
 refine CV.exit (PV.thenE (PV.thenE (PV.blockE (PV.thenN (sr ?_)))))
 refine as_ ?_
 refine dn (CV.ret ?_)
 cases h6
 exact PV.ret (by simp) results129 hS (RS.tmp rfl RS.nil) rfl
def g125_k3 (ro : List HT) (y0 y26 : AV) (T4 : HT) (n4 : Nat) : R :=
 condK 1250017 y26
 (
  .bad 1250018
 )
 (
  callK (g129 ro y0 T4 n4) fun x9 T5 n5 =>
  neSK prog 9 (.tmp 28) (.const (.string ⟨⟨[]⟩⟩)) 1250021 x9 (.lit (.string ⟨⟨[]⟩⟩)) fun x10 =>
  .ok (.val x10) T5 n5
 )
def g125_k2 (ro : List HT) (y0 y3 y22 : AV) (T3 : HT) (n3 : Nat) : R :=
 condK 1250023 y22
 (
  g125_k3 ro y0 (.lit (.bool true)) T3 n3
 )
 (
  eqK prog 5 (.tmp 24) (.const (.int .u8 (.ofNat 39))) 1250026 y3 (.lit (.int .u8 (.ofNat 39))) fun x11 =>
  g125_k3 ro y0 x11 T3 n3
 )
def g125_k1 (ro : List HT) (y0 y3 y18 : AV) (T2 : HT) (n2 : Nat) : R :=
 condK 1250028 y18
 (
  g125_k2 ro y0 y3 (.lit (.bool true)) T2 n2
 )
 (
  eqK prog 5 (.tmp 20) (.const (.int .u8 (.ofNat 34))) 1250031 y3 (.lit (.int .u8 (.ofNat 34))) fun x12 =>
  g125_k2 ro y0 y3 x12 T2 n2
 )
def g125 (ro : List HT) (a0 : AV) (T : HT) (nx : Nat) : R :=
 ncK 1250003 a0 fun x1 =>
 faK 1250004 x1 0 fun x2 =>
 ldK 1250005 T ro x2 fun x3 =>
 ncK 1250007 a0 fun x4 =>
 faK 1250008 x4 1 fun x5 =>
 ldK 1250009 T ro x5 fun x6 =>
 ixK 1250010 x3 x6 fun x7 =>
 callK (g96 ro x7 T nx) fun x8 T1 n1 =>
 condK 1250033 x8
 (
  g125_k1 ro a0 x7 (.lit (.bool true)) T1 n1
 )
 (
  callK (g98 ro x7 T1 n1) fun x13 T6 n6 =>
  g125_k1 ro a0 x7 x13 T6 n6
 )
theorem g125_ok (ro : List HT) (a0 : AV) (T : HT) (nx : Nat) : GOk prog envE 125 [a0] ro T nx (g125 ro a0 T nx) := by
 refine GOk.of_body func125 rfl ntmps125 (by kernel_rfl) rfl fun r T' n' h1 w0 base ρ0 its hS hP => ?_
 have X : CtxW envE ρ0 ro r T' n' := trivial
 unfold g125 at h1
 refine sr ?_
 refine as_ ?_
 refine dn (CV.seq ?_)
 refine CV.regionM [(0, .anywhere), (1, .anywhere), (2, .anywhere), (3, .held), (4, .anywhere), (5, .anywhere), (6, .anywhere), (7, .held), (8, .held), (9, .held)] rfl (fun c a a' w hd hq => PanicOk.root (P := prog) (fn := f125) (w0 := w0) (base := base) (E := envE) (ro := ro) (r := r) (T' := T') (n' := n') (ρ0 := ρ0) c a a' w hd hq) (by kernel_rfl) ?_
 refine MV.step0 (i := 0) rfl (VAL.move rfl) rfl rfl rfl ?_
 refine MV.lift0 (i := 1) rfl (V.nc h1 rfl) rfl rfl rfl fun x1 h2 => ?_
 refine MV.lift0 (i := 2) rfl (V.fa h2 rfl fo174_0) rfl rfl rfl fun x2 h3 => ?_
 refine MV.lift1 (i := 3) rfl (fun _ z => z) (V.ld hS h3 rfl one9) rfl rfl rfl [] (by kernel_rfl) fun x3 h4 => ?_
 refine MV.step0 (i := 4) rfl (VAL.move rfl) rfl rfl rfl ?_
 refine MV.lift0 (i := 5) rfl (V.nc h4 rfl) rfl rfl rfl fun x4 h5 => ?_
 refine MV.lift0 (i := 6) rfl (V.fa h5 rfl fo174_1) rfl rfl rfl fun x5 h6 => ?_
 refine MV.lift1 (i := 7) rfl (fun _ z => z) (V.ld hS h6 rfl one3) rfl rfl rfl [3] (by kernel_rfl) fun x6 h7 => ?_
 refine MV.lift1 (i := 8) rfl (fun _ z => z) (V.ix h7 rfl rfl st9) rfl rfl rfl [] (by kernel_rfl) fun x7 h8 => ?_
 refine MV.step1 (i := 9) rfl (fun _ z => z) (VAL.assign rfl) rfl rfl rfl [] (by kernel_rfl) ?_
 refine mdn (CV.seq (sr ?_))
 refine mv ?_
 refine LV.call hS h8 (g96_ok _ _ _ _ ) hP rfl rfl rfl rfl fun x8 T1 n1 h9 ρ its hS => ?_
 refine mv ?_
 refine ls3 X 0 3 18 [(2, (.lit (.bool false)))] (g125_k1 ro) 3 ?_ ?_
 ·
  rcases condK_inv h9 with ⟨e, h20⟩ | ⟨e, h20⟩
  ·
   subst e
   iterate 2 refine sk ?_
   refine pu ?_
   exact la3 hS h20 ⟨rfl, rfl, rfl, rfl, trivial⟩
  subst e
  refine mv ?_
  refine LV.call hS h20 (g98_ok _ _ _ _ ) hP rfl rfl rfl rfl fun x13 T6 n6 h21 ρ its hS => ?_
  refine pu ?_
  exact la3 hS h21 ⟨rfl, rfl, rfl, rfl, trivial⟩
 intro y0 y3 y18 T2 n2 ρ its hS h10
 unfold g125_k1 at h10
 refine mv ?_
 refine ls3 X 0 3 22 [(2, (.lit (.bool false)))] (g125_k2 ro) 3 ?_ ?_
 ·
  rcases condK_inv h10 with ⟨e, h18⟩ | ⟨e, h18⟩
  ·
   subst e
   iterate 2 refine sk ?_
   refine pu ?_
   exact la3 hS h18 ⟨rfl, rfl, rfl, rfl, trivial⟩
  subst e
  refine mv ?_
  refine vy (V.eq h18 rfl rfl) fun x12 h19 => ?_
  refine pu ?_
  exact la3 hS h19 ⟨rfl, rfl, rfl, rfl, trivial⟩
 intro y0 y3 y22 T3 n3 ρ its hS h11
 unfold g125_k2 at h11
 refine mv ?_
 refine ls2 X 0 26 [(2, (.lit (.bool false)))] (g125_k3 ro) 3 ?_ ?_
 ·
  rcases condK_inv h11 with ⟨e, h16⟩ | ⟨e, h16⟩
  ·
   subst e
   iterate 2 refine sk ?_
   refine pu ?_
   exact la2 hS h16 ⟨rfl, rfl, rfl, trivial⟩
  subst e
  refine mv ?_
  refine vy (V.eq h16 rfl rfl) fun x11 h17 => ?_
  refine pu ?_
  exact la2 hS h17 ⟨rfl, rfl, rfl, trivial⟩
 intro y0 y26 T4 n4 ρ its hS h12
 unfold g125_k3 at h12
 refine dn ?_
 refine CV.cond h12 rfl (fun e h13 => ?_) (fun e h13 => ?_)
 ·
  subst e
  cases h13
 subst e
 refine CV.skip (PV.thenN (sr ?_))
 refine mv ?_
 refine LV.call hS h13 (g129_ok _ _ _ _ ) hP rfl rfl rfl rfl fun x9 T5 n5 h14 ρ its hS => ?_
 refine vy (V.neS h14 rfl rfl) fun x10 h15 => ?_
 refine as_ ?_
 refine dn (CV.ret ?_)
 cases h15
 exact PV.ret (by simp) results125 hS (RS.tmp rfl RS.nil) rfl
def g138_b1 (ro : List HT) (lp1 : AV → AV → AV → AV → HT → Nat → R) (y0 y1 y4 y5 : AV) (T1 : HT) (n1 : Nat) : R :=
 geK prog 3 (.tmp 9) (.const (.int .i64 (.ofNat 0))) 1380008 y5 (.lit (.int .i64 (.ofNat 0))) fun x3 =>
 condK 1380009 x3
 (
  ixK 1380012 y0 y5 fun x4 =>
  eqK prog 5 (.tmp 15) (.tmp 16) 1380014 x4 y1 fun x5 =>
  condK 1380015 x5
  (
   .ok (.val y5) T1 n1
  )
  (
   subK prog 3 (.tmp 11) (.const (.int .i64 (.ofNat 1))) 1380019 y5 (.lit (.int .i64 (.ofNat 1))) fun x6 =>
   lp1 y0 y1 y4 x6 T1 n1
  )
 )
 (
  .ok (.val (.lit (.int .i64 (.negSucc 0)))) T1 n1
 )
def g138 (ro : List HT) (a0 a1 : AV) (T : HT) (nx : Nat) : R :=
 lenTK 1380003 a0 fun x1 =>
 subK prog 3 (.tmp 7) (.const (.int .i64 (.ofNat 1))) 1380004 x1 (.lit (.int .i64 (.ofNat 1))) fun x2 =>
 lpf4 1380006 (g138_b1 ro) 100000 a0 a1 (.lit (.int .i64 (.ofNat 0))) x2 T nx
theorem g138_ok (ro : List HT) (a0 a1 : AV) (T : HT) (nx : Nat) : GOk prog envE 138 [a0, a1] ro T nx (g138 ro a0 a1 T nx) := by
 refine GOk.of_body func138 rfl ntmps138 (by kernel_rfl) rfl fun r T' n' h1 w0 base ρ0 its hS hP => ?_
 have X : CtxW envE ρ0 ro r T' n' := trivial
 unfold g138 at h1
 refine sr ?_
 refine as_ ?_
 refine dn (CV.seq (sr ?_))
 refine mv ?_
 refine vy (V.lenT h1 rfl ls9) fun x1 h2 => ?_
 refine vy (V.sub h2 rfl rfl) fun x2 h3 => ?_
 refine as_ ?_
 refine dn (CV.block ?_)
 refine cl4 X 0 1 4 5 [] hS h3 ⟨rfl, rfl, rfl, rfl, trivial⟩ ?_
 intro f1 y0 y1 y4 y5 T1 n1 ρ its hS h4
 unfold g138_b1 at h4
 refine CV.seq (sr ?_)
 refine mv ?_
 refine vy (V.ge h4 rfl rfl) fun x3 h5 => ?_
 refine dn ?_
 refine CV.cond h5 rfl (fun e h6 => ?_) (fun e h6 => ?_)
 ·
  subst e
  refine CV.skip (PV.thenN (CV.seq (CV.block (sr ?_))))
  iterate 2 refine mv ?_
  refine vy (V.ix h6 rfl rfl st9) fun x4 h7 => ?_
  refine mv ?_
  refine vy (V.eq h7 rfl rfl) fun x5 h8 => ?_
  refine dn ?_
  refine CV.cond h8 rfl (fun e h9 => ?_) (fun e h9 => ?_)
  ·
   subst e
   refine sr ?_
   refine mv ?_
   refine as_ ?_
   refine dn (CV.ret (PV.blockR (PV.thenR (PV.thenR (PV.blockR (PV.thenR ?_))))))
   cases h9
   exact PV.ret (by simp) results138 hS (RS.tmp rfl RS.nil) rfl
  subst e
  refine CV.skip (PV.blockN (PV.thenN (CV.region ?_)))
  refine mv ?_
  refine vy (V.sub h9 rfl rfl) fun x6 h10 => ?_
  refine as_ ?_
  refine LV.done ?_
  exact pb4 hS h10 ⟨rfl, rfl, rfl, rfl, trivial⟩
 subst e
 refine CV.exit (PV.thenE (PV.thenE (PV.blockE (PV.thenN (sr ?_)))))
 refine as_ ?_
 refine dn (CV.ret ?_)
 cases h6
 exact PV.ret (by simp) results138 hS (RS.tmp rfl RS.nil) rfl
def g126 (ro : List HT) (a0 a1 : AV) (T : HT) (nx : Nat) : R :=
 callK (g138 ro a0 a1 T nx) fun x1 T1 n1 =>
 .ok (.val x1) T1 n1
theorem g126_ok (ro : List HT) (a0 a1 : AV) (T : HT) (nx : Nat) : GOk prog envE 126 [a0, a1] ro T nx (g126 ro a0 a1 T nx) := by
 refine GOk.of_body func126 rfl ntmps126 (by kernel_rfl) rfl fun r T' n' h1 w0 base ρ0 its hS hP => ?_
 have X : CtxW envE ρ0 ro r T' n' := trivial
 unfold g126 at h1
 refine sr ?_
 refine as_ ?_
 refine dn (sr ?_)
 iterate 2 refine mv ?_
 refine LV.call hS h1 (g138_ok _ _ _ _ _ ) hP rfl rfl rfl rfl fun x1 T1 n1 h2 ρ its hS => ?_
 refine as_ ?_
 refine dn (CV.ret ?_)
 cases h2
 exact PV.ret (by simp) results126 hS (RS.tmp rfl RS.nil) rfl
def g95_b1 (ro : List HT) (lp1 : AV → AV → AV → HT → Nat → R) (y0 y2 y3 : AV) (T3 : HT) (n3 : Nat) : R :=
 ncK 950048 y0 fun x28 =>
 faK 950049 x28 3 fun x29 =>
 ldK 950050 T3 ro x29 fun x30 =>
 ncK 950052 y0 fun x31 =>
 faK 950053 x31 3 fun x32 =>
 ldK 950054 T3 ro x32 fun x33 =>
 lenSK 950055 x33 fun x34 =>
 subK prog 3 (.tmp 83) (.const (.int .i64 (.ofNat 1))) 950056 x34 (.lit (.int .i64 (.ofNat 1))) fun x35 =>
 iaK 950057 x30 x35 1 fun x36 =>
 ldK 950058 T3 ro x36 fun x37 =>
 ltK prog 3 (.tmp 74) (.tmp 86) 950059 y3 x37 fun x38 =>
 condK 950060 x38
 (
  ncK 950063 y0 fun x39 =>
  faK 950064 x39 3 fun x40 =>
  ldK 950065 T3 ro x40 fun x41 =>
  ncK 950067 y0 fun x42 =>
  faK 950068 x42 3 fun x43 =>
  ldK 950069 T3 ro x43 fun x44 =>
  lenSK 950070 x44 fun x45 =>
  subK prog 3 (.tmp 97) (.const (.int .i64 (.ofNat 1))) 950071 x45 (.lit (.int .i64 (.ofNat 1))) fun x46 =>
  cutHiK 950072 T3 ro x41 x46 fun x47 =>
  ncK 950073 y0 fun x48 =>
  faK 950074 x48 3 fun x49 =>
  stK 950075 T3 x49 x47 fun T4 =>
  fldK 950078 T4 ro y0 1 fun x50 =>
  callK (g75 ro y0 (.lit (.int .i64 (.ofNat 7))) (.lit (.string ⟨⟨[]⟩⟩)) x50 T4 n3) fun x51 T5 n5 =>
  lp1 y0 y2 y3 T5 n5
 )
 (
  ncK 950082 y0 fun x52 =>
  faK 950083 x52 3 fun x53 =>
  ldK 950084 T3 ro x53 fun x54 =>
  ncK 950086 y0 fun x55 =>
  faK 950087 x55 3 fun x56 =>
  ldK 950088 T3 ro x56 fun x57 =>
  lenSK 950089 x57 fun x58 =>
  subK prog 3 (.tmp 117) (.const (.int .i64 (.ofNat 1))) 950090 x58 (.lit (.int .i64 (.ofNat 1))) fun x59 =>
  iaK 950091 x54 x59 1 fun x60 =>
  ldK 950092 T3 ro x60 fun x61 =>
  neK prog 3 (.tmp 108) (.tmp 120) 950093 y3 x61 fun x62 =>
  condK 950094 x62
  (
   .bad 950095
  )
  (
   .ok (.val (.lit (.nilIface))) T3 n3
  )
 )
def g95 (ro : List HT) (a0 : AV) (T : HT) (nx : Nat) : R :=
 callK (g125 ro a0 T nx) fun x1 T1 n1 =>
 notK 950004 x1 fun x2 =>
 condK 950005 x2
 (
  .bad 950006
 )
 (
  faK 950008 a0 5 fun x3 =>
  stK 950009 T1 x3 (.lit (.bool true)) fun T2 =>
  ncK 950011 a0 fun x4 =>
  faK 950012 x4 1 fun x5 =>
  ldK 950013 T2 ro x5 fun x6 =>
  ncK 950015 a0 fun x7 =>
  faK 950016 x7 0 fun x8 =>
  ldK 950017 T2 ro x8 fun x9 =>
  ncK 950019 a0 fun x10 =>
  faK 950020 x10 1 fun x11 =>
  ldK 950021 T2 ro x11 fun x12 =>
  sliceF 950022 x9 none (some x12) fun x13 =>
  callQ 950023 (g126 (T2 :: ro) x13 (.lit (.int .u8 (.ofNat 10))) .nil n1) fun x14 =>
  addK prog 3 (.tmp 29) (.const (.int .i64 (.ofNat 1))) 950024 x14 (.lit (.int .i64 (.ofNat 1))) fun x15 =>
  subK prog 3 (.tmp 19) (.tmp 30) 950025 x6 x15 fun x16 =>
  ncK 950028 a0 fun x17 =>
  faK 950029 x17 3 fun x18 =>
  ldK 950030 T2 ro x18 fun x19 =>
  ncK 950032 a0 fun x20 =>
  faK 950033 x20 3 fun x21 =>
  ldK 950034 T2 ro x21 fun x22 =>
  lenSK 950035 x22 fun x23 =>
  subK prog 3 (.tmp 40) (.const (.int .i64 (.ofNat 1))) 950036 x23 (.lit (.int .i64 (.ofNat 1))) fun x24 =>
  iaK 950037 x19 x24 1 fun x25 =>
  ldK 950038 T2 ro x25 fun x26 =>
  gtK prog 3 (.tmp 44) (.tmp 45) 950042 x16 x26 fun x27 =>
  condK 950043 x27
  (
   .bad 950044
  )
  (
   lpf3 950045 (g95_b1 ro) 100000 a0 (.lit (.nilIface)) x16 T2 n1
  )
 )
theorem g95_ok (ro : List HT) (a0 : AV) (T : HT) (nx : Nat) : GOk prog envE 95 [a0] ro T nx (g95 ro a0 T nx) := by
 refine GOk.of_body func95 rfl ntmps95 (by kernel_rfl) rfl fun r T' n' h1 w0 base ρ0 its hS hP => ?_
 have X : CtxW envE ρ0 ro r T' n' := trivial
 unfold g95 at h1
 refine sr ?_
 refine as_ ?_
 refine dn (CV.seq (sr ?_))
 refine mv ?_
 refine LV.call hS h1 (g125_ok _ _ _ _ ) hP rfl rfl rfl rfl fun x1 T1 n1 h2 ρ its hS => ?_
 refine vy (V.not h2 rfl) fun x2 h3 => ?_
 refine dn ?_
 refine CV.cond h3 rfl (fun e h4 => ?_) (fun e h4 => ?_)
 ·
  subst e
  cases h4
 subst e
 refine CV.skip (PV.thenN (sr ?_))
 refine mv ?_
 refine fa2 h4 fo174_5 fun x3 h5 => ?_
 refine LV.st hS h5 rfl rfl rfl siz4 rfl rfl fun T2 its h6 hS => ?_
 refine dn (CV.seq ?_)
 refine CV.regionM [(0, .anywhere), (1, .anywhere), (2, .anywhere), (3, .held), (4, .anywhere), (5, .anywhere), (6, .anywhere), (7, .held), (8, .anywhere), (9, .anywhere), (10, .anywhere), (11, .held), (12, .held), (13, .alone), (14, .alone), (15, .alone), (16, .alone)] rfl (fun c a a' w hd hq => PanicOk.root (P := prog) (fn := f95) (w0 := w0) (base := base) (E := envE) (ro := ro) (r := r) (T' := T') (n' := n') (ρ0 := ρ0) c a a' w hd hq) (by kernel_rfl) ?_
 refine MV.step0 (i := 0) rfl (VAL.move rfl) rfl rfl rfl ?_
 refine MV.lift0 (i := 1) rfl (V.nc h6 rfl) rfl rfl rfl fun x4 h7 => ?_
 refine MV.lift0 (i := 2) rfl (V.fa h7 rfl fo174_1) rfl rfl rfl fun x5 h8 => ?_
 refine MV.lift1 (i := 3) rfl (fun _ z => z) (V.ld hS h8 rfl one3) rfl rfl rfl [] (by kernel_rfl) fun x6 h9 => ?_
 refine MV.step0 (i := 4) rfl (VAL.move rfl) rfl rfl rfl ?_
 refine MV.lift0 (i := 5) rfl (V.nc h9 rfl) rfl rfl rfl fun x7 h10 => ?_
 refine MV.lift0 (i := 6) rfl (V.fa h10 rfl fo174_0) rfl rfl rfl fun x8 h11 => ?_
 refine MV.lift1 (i := 7) rfl (fun _ z => z) (V.ld hS h11 rfl one9) rfl rfl rfl [3] (by kernel_rfl) fun x9 h12 => ?_
 refine MV.step0 (i := 8) rfl (VAL.move rfl) rfl rfl rfl ?_
 refine MV.lift0 (i := 9) rfl (V.nc h12 rfl) rfl rfl rfl fun x10 h13 => ?_
 refine MV.lift0 (i := 10) rfl (V.fa h13 rfl fo174_1) rfl rfl rfl fun x11 h14 => ?_
 refine MV.lift1 (i := 11) rfl (fun _ z => z) (V.ld hS h14 rfl one3) rfl rfl rfl [7, 3] (by kernel_rfl) fun x12 h15 => ?_
 refine MV.lift1 (i := 12) rfl (fun _ z => z) (V.slHi (sliceF_ok h15) rfl rfl st9) rfl rfl rfl [3] (by kernel_rfl) fun x13 h16 => ?_
 refine MV.force (i := 13) rfl ?_
 refine LV.callQ hS h16 (g126_ok _ _ _ _ _ ) rfl rfl rfl rfl fun x14 h17 => ?_
 refine LV.nextM [3] (by kernel_rfl) (fun _ => fun _ z => z) ?_
 refine MV.force (i := 14) rfl ?_
 refine vy (V.add h17 rfl rfl) fun x15 h18 => ?_
 refine LV.nextM [3] (by kernel_rfl) (fun _ => fun _ z => z) ?_
 refine MV.force (i := 15) rfl ?_
 refine vy (V.sub h18 rfl rfl) fun x16 h19 => ?_
 refine LV.nextM [] (by kernel_rfl) (fun z => absurd rfl z) ?_
 refine MV.force (i := 16) rfl ?_
 refine as_ ?_
 refine LV.nextM [] (by kernel_rfl) (fun z => absurd rfl z) ?_
 refine mdn (CV.seq ?_)
 refine CV.regionM [(0, .anywhere), (1, .anywhere), (2, .anywhere), (3, .held), (4, .anywhere), (5, .anywhere), (6, .anywhere), (7, .held), (8, .held), (9, .held), (10, .held), (11, .held), (12, .held)] rfl (fun c a a' w hd hq => PanicOk.root (P := prog) (fn := f95) (w0 := w0) (base := base) (E := envE) (ro := ro) (r := r) (T' := T') (n' := n') (ρ0 := ρ0) c a a' w hd hq) (by kernel_rfl) ?_
 refine MV.step0 (i := 0) rfl (VAL.move rfl) rfl rfl rfl ?_
 refine MV.lift0 (i := 1) rfl (V.nc h19 rfl) rfl rfl rfl fun x17 h20 => ?_
 refine MV.lift0 (i := 2) rfl (V.fa h20 rfl fo174_3) rfl rfl rfl fun x18 h21 => ?_
 refine MV.lift1 (i := 3) rfl (fun _ z => z) (V.ld hS h21 rfl one22) rfl rfl rfl [] (by kernel_rfl) fun x19 h22 => ?_
 refine MV.step0 (i := 4) rfl (VAL.move rfl) rfl rfl rfl ?_
 refine MV.lift0 (i := 5) rfl (V.nc h22 rfl) rfl rfl rfl fun x20 h23 => ?_
 refine MV.lift0 (i := 6) rfl (V.fa h23 rfl fo174_3) rfl rfl rfl fun x21 h24 => ?_
 refine MV.lift1 (i := 7) rfl (fun _ z => z) (V.ld hS h24 rfl one22) rfl rfl rfl [3] (by kernel_rfl) fun x22 h25 => ?_
 refine MV.lift1 (i := 8) rfl (fun _ z => z) (V.lenS h25 rfl ls22) rfl rfl rfl [3] (by kernel_rfl) fun x23 h26 => ?_
 refine MV.lift1 (i := 9) rfl (fun _ z => z) (V.sub h26 rfl rfl) rfl rfl rfl [3] (by kernel_rfl) fun x24 h27 => ?_
 refine MV.lift1 (i := 10) rfl (fun _ z => z) (V.ia h27 rfl rfl el22) rfl rfl rfl [] (by kernel_rfl) fun x25 h28 => ?_
 refine MV.lift1 (i := 11) rfl (fun _ z => z) (V.ld hS h28 rfl one3) rfl rfl rfl [] (by kernel_rfl) fun x26 h29 => ?_
 refine MV.step1 (i := 12) rfl (fun _ z => z) (VAL.assign rfl) rfl rfl rfl [] (by kernel_rfl) ?_
 refine mdn (CV.seq (sr ?_))
 iterate 2 refine mv ?_
 refine vy (V.gt h29 rfl rfl) fun x27 h30 => ?_
 refine dn ?_
 refine CV.cond h30 rfl (fun e h31 => ?_) (fun e h31 => ?_)
 ·
  subst e
  cases h31
 subst e
 refine CV.skip (PV.thenN (CV.seq (CV.block ?_)))
 refine cl3 X 0 2 3 [] hS h31 ⟨rfl, rfl, rfl, trivial⟩ ?_
 intro f1 y0 y2 y3 T3 n3 ρ its hS h32
 unfold g95_b1 at h32
 refine CV.seq (CV.seq ?_)
 refine CV.regionM [(0, .anywhere), (1, .anywhere), (2, .anywhere), (3, .anywhere), (4, .held), (5, .anywhere), (6, .anywhere), (7, .anywhere), (8, .held), (9, .held), (10, .held), (11, .held), (12, .held), (13, .held)] rfl (fun c a a' w hd hq => PanicOk.root (P := prog) (fn := f95) (w0 := w0) (base := base) (E := envE) (ro := ro) (r := r) (T' := T') (n' := n') (ρ0 := ρ0) c a a' w hd hq) (by kernel_rfl) ?_
 refine MV.step0 (i := 0) rfl (VAL.move rfl) rfl rfl rfl ?_
 refine MV.step0 (i := 1) rfl (VAL.move rfl) rfl rfl rfl ?_
 refine MV.lift0 (i := 2) rfl (V.nc h32 rfl) rfl rfl rfl fun x28 h33 => ?_
 refine MV.lift0 (i := 3) rfl (V.fa h33 rfl fo174_3) rfl rfl rfl fun x29 h34 => ?_
 refine MV.lift1 (i := 4) rfl (fun _ z => z) (V.ld hS h34 rfl one22) rfl rfl rfl [] (by kernel_rfl) fun x30 h35 => ?_
 refine MV.step0 (i := 5) rfl (VAL.move rfl) rfl rfl rfl ?_
 refine MV.lift0 (i := 6) rfl (V.nc h35 rfl) rfl rfl rfl fun x31 h36 => ?_
 refine MV.lift0 (i := 7) rfl (V.fa h36 rfl fo174_3) rfl rfl rfl fun x32 h37 => ?_
 refine MV.lift1 (i := 8) rfl (fun _ z => z) (V.ld hS h37 rfl one22) rfl rfl rfl [4] (by kernel_rfl) fun x33 h38 => ?_
 refine MV.lift1 (i := 9) rfl (fun _ z => z) (V.lenS h38 rfl ls22) rfl rfl rfl [4] (by kernel_rfl) fun x34 h39 => ?_
 refine MV.lift1 (i := 10) rfl (fun _ z => z) (V.sub h39 rfl rfl) rfl rfl rfl [4] (by kernel_rfl) fun x35 h40 => ?_
 refine MV.lift1 (i := 11) rfl (fun _ z => z) (V.ia h40 rfl rfl el22) rfl rfl rfl [] (by kernel_rfl) fun x36 h41 => ?_
 refine MV.lift1 (i := 12) rfl (fun _ z => z) (V.ld hS h41 rfl one3) rfl rfl rfl [] (by kernel_rfl) fun x37 h42 => ?_
 refine MV.lift1 (i := 13) rfl (fun _ z => z) (V.lt h42 rfl rfl) rfl rfl rfl [] (by kernel_rfl) fun x38 h43 => ?_
 refine mdn ?_
 refine CV.cond h43 rfl (fun e h44 => ?_) (fun e h44 => ?_)
 ·
  subst e
  refine CV.skip (PV.thenN (CV.block (CV.seq ?_)))
  refine CV.regionM [(0, .anywhere), (1, .anywhere), (2, .anywhere), (3, .anywhere), (4, .held), (5, .anywhere), (6, .anywhere), (7, .anywhere), (8, .held), (9, .held), (10, .held), (11, .held), (12, .held), (13, .held), (14, .alone)] rfl (fun c a a' w hd hq => PanicOk.root (P := prog) (fn := f95) (w0 := w0) (base := base) (E := envE) (ro := ro) (r := r) (T' := T') (n' := n') (ρ0 := ρ0) c a a' w hd hq) (by kernel_rfl) ?_
  refine MV.step0 (i := 0) rfl (VAL.move rfl) rfl rfl rfl ?_
  refine MV.step0 (i := 1) rfl (VAL.move rfl) rfl rfl rfl ?_
  refine MV.lift0 (i := 2) rfl (V.nc h44 rfl) rfl rfl rfl fun x39 h45 => ?_
  refine MV.lift0 (i := 3) rfl (V.fa h45 rfl fo174_3) rfl rfl rfl fun x40 h46 => ?_
  refine MV.lift1 (i := 4) rfl (fun _ z => z) (V.ld hS h46 rfl one22) rfl rfl rfl [] (by kernel_rfl) fun x41 h47 => ?_
  refine MV.step0 (i := 5) rfl (VAL.move rfl) rfl rfl rfl ?_
  refine MV.lift0 (i := 6) rfl (V.nc h47 rfl) rfl rfl rfl fun x42 h48 => ?_
  refine MV.lift0 (i := 7) rfl (V.fa h48 rfl fo174_3) rfl rfl rfl fun x43 h49 => ?_
  refine MV.lift1 (i := 8) rfl (fun _ z => z) (V.ld hS h49 rfl one22) rfl rfl rfl [4] (by kernel_rfl) fun x44 h50 => ?_
  refine MV.lift1 (i := 9) rfl (fun _ z => z) (V.lenS h50 rfl ls22) rfl rfl rfl [4] (by kernel_rfl) fun x45 h51 => ?_
  refine MV.lift1 (i := 10) rfl (fun _ z => z) (V.sub h51 rfl rfl) rfl rfl rfl [4] (by kernel_rfl) fun x46 h52 => ?_
  refine MV.lift1 (i := 11) rfl (fun _ z => z) (V.cutHi hS h52 rfl rfl el22) rfl rfl rfl [] (by kernel_rfl) fun x47 h53 => ?_
  refine MV.lift1 (i := 12) rfl (fun _ z => z) (V.nc h53 rfl) rfl rfl rfl [] (by kernel_rfl) fun x48 h54 => ?_
  refine MV.lift1 (i := 13) rfl (fun _ z => z) (V.fa h54 rfl fo174_3) rfl rfl rfl [] (by kernel_rfl) fun x49 h55 => ?_
  refine MV.force (i := 14) rfl ?_
  refine LV.st hS h55 rfl rfl rfl siz22 rfl rfl fun T4 its h56 hS => ?_
  refine LV.nextM [] (by kernel_rfl) (fun z => absurd rfl z) ?_
  refine mdn (CV.region ?_)
  iterate 2 refine mv ?_
  refine fl hS h56 fo174_1 one3 fun x50 h57 => ?_
  refine LV.call hS h57 (g75_ok _ _ _ _ _ _ _ ) hP rfl rfl rfl rfl fun x51 T5 n5 h58 ρ its hS => ?_
  refine LV.done (PV.blockN ?_)
  exact pb3 hS h58 ⟨rfl, rfl, rfl, trivial⟩
 subst e
 refine CV.exit (PV.thenE (PV.thenE (PV.blockE (PV.thenN (CV.seq (CV.seq ?_))))))
 refine CV.regionM [(0, .anywhere), (1, .anywhere), (2, .anywhere), (3, .anywhere), (4, .held), (5, .anywhere), (6, .anywhere), (7, .anywhere), (8, .held), (9, .held), (10, .held), (11, .held), (12, .held), (13, .held)] rfl (fun c a a' w hd hq => PanicOk.root (P := prog) (fn := f95) (w0 := w0) (base := base) (E := envE) (ro := ro) (r := r) (T' := T') (n' := n') (ρ0 := ρ0) c a a' w hd hq) (by kernel_rfl) ?_
 refine MV.step0 (i := 0) rfl (VAL.move rfl) rfl rfl rfl ?_
 refine MV.step0 (i := 1) rfl (VAL.move rfl) rfl rfl rfl ?_
 refine MV.lift0 (i := 2) rfl (V.nc h44 rfl) rfl rfl rfl fun x52 h59 => ?_
 refine MV.lift0 (i := 3) rfl (V.fa h59 rfl fo174_3) rfl rfl rfl fun x53 h60 => ?_
 refine MV.lift1 (i := 4) rfl (fun _ z => z) (V.ld hS h60 rfl one22) rfl rfl rfl [] (by kernel_rfl) fun x54 h61 => ?_
 refine MV.step0 (i := 5) rfl (VAL.move rfl) rfl rfl rfl ?_
 refine MV.lift0 (i := 6) rfl (V.nc h61 rfl) rfl rfl rfl fun x55 h62 => ?_
 refine MV.lift0 (i := 7) rfl (V.fa h62 rfl fo174_3) rfl rfl rfl fun x56 h63 => ?_
 refine MV.lift1 (i := 8) rfl (fun _ z => z) (V.ld hS h63 rfl one22) rfl rfl rfl [4] (by kernel_rfl) fun x57 h64 => ?_
 refine MV.lift1 (i := 9) rfl (fun _ z => z) (V.lenS h64 rfl ls22) rfl rfl rfl [4] (by kernel_rfl) fun x58 h65 => ?_
 refine MV.lift1 (i := 10) rfl (fun _ z => z) (V.sub h65 rfl rfl) rfl rfl rfl [4] (by kernel_rfl) fun x59 h66 => ?_
 refine MV.lift1 (i := 11) rfl (fun _ z => z) (V.ia h66 rfl rfl el22) rfl rfl rfl [] (by kernel_rfl) fun x60 h67 => ?_
 refine MV.lift1 (i := 12) rfl (fun _ z => z) (V.ld hS h67 rfl one3) rfl rfl rfl [] (by kernel_rfl) fun x61 h68 => ?_
 refine MV.lift1 (i := 13) rfl (fun _ z => z) (V.ne h68 rfl rfl) rfl rfl rfl [] (by kernel_rfl) fun x62 h69 => ?_
 refine mdn ?_
 refine CV.cond h69 rfl (fun e h70 => ?_) (fun e h70 => ?_)
 ·
  subst e
  cases h70
 subst e
 refine CV.skip (PV.thenN (sr ?_))
 refine as_ ?_
 refine dn (CV.ret ?_)
 cases h70
 exact PV.ret (by simp) results95 hS (RS.tmp rfl RS.nil) rfl
def g99_k3 (ro : List HT) (y0 y2 y3 y4 y84 : AV) (T5 : HT) (n5 : Nat) : R :=
 condK 990039 y84
 (
  .bad 990040
 )
 (
  callK (g75 ro y0 (.lit (.int .i64 (.ofNat 2))) y4 y3 T5 n5) fun x22 T6 n6 =>
  .ok (.val (.lit (.nilIface))) T6 n6
 )
def g99_k4 (ro : List HT) (y0 y2 y3 y4 y83 : AV) (T7 : HT) (n7 : Nat) : R :=
 g99_k3 ro y0 y2 y3 y4 y83 T7 n7
def g99_k2 (ro : List HT) (lp1 : AV → AV → AV → HT → Nat → R) (y0 y2 y3 y42 : AV) (T2 : HT) (n2 : Nat) : R :=
 condK 990006 y42
 (
  ncK 990008 y0 fun x2 =>
  faK 990009 x2 0 fun x3 =>
  ldK 990010 T2 ro x3 fun x4 =>
  ncK 990012 y0 fun x5 =>
  faK 990013 x5 1 fun x6 =>
  ldK 990014 T2 ro x6 fun x7 =>
  ixK 990015 x4 x7 fun x8 =>
  callK (g96 ro x8 T2 n2) fun x9 T3 n3 =>
  condK 990017 x9
  (
   .bad 990018
  )
  (
   fldK 990020 T3 ro y0 1 fun x10 =>
   addK prog 3 (.tmp 58) (.const (.int .i64 (.ofNat 1))) 990021 x10 (.lit (.int .i64 (.ofNat 1))) fun x11 =>
   faK 990022 y0 1 fun x12 =>
   stK 990023 T3 x12 x11 fun T4 =>
   lp1 y0 y2 y3 T4 n3
  )
 )
 (
  ncK 990025 y0 fun x13 =>
  faK 990026 x13 0 fun x14 =>
  ldK 990027 T2 ro x14 fun x15 =>
  ncK 990030 y0 fun x16 =>
  faK 990031 x16 1 fun x17 =>
  ldK 990032 T2 ro x17 fun x18 =>
  sliceF 990033 x15 (some y3) (some x18) fun x19 =>
  lenTK 990036 x19 fun x20 =>
  gtK prog 3 (.tmp 73) (.const (.int .i64 (.ofNat 600))) 990037 x20 (.lit (.int .i64 (.ofNat 600))) fun x21 =>
  condK 990046 x21
  (
   g99_k3 ro y0 y2 y3 x19 (.lit (.bool true)) T2 n2
  )
  (
   ixK 990049 x19 (.lit (.int .i64 (.ofNat 0))) fun x23 =>
   eqK prog 5 (.tmp 77) (.const (.int .u8 (.ofNat 48))) 990050 x23 (.lit (.int .u8 (.ofNat 48))) fun x24 =>
   condK 990053 x24
   (
    lenTK 990055 x19 fun x25 =>
    gtK prog 3 (.tmp 81) (.const (.int .i64 (.ofNat 1))) 990056 x25 (.lit (.int .i64 (.ofNat 1))) fun x26 =>
    g99_k4 ro y0 y2 y3 x19 x26 T2 n2
   )
   (
    g99_k4 ro y0 y2 y3 x19 (.lit (.bool false)) T2 n2
   )
  )
 )
def g99_b1 (ro : List HT) (lp1 : AV → AV → AV → HT → Nat → R) (y0 y2 y3 : AV) (T1 : HT) (n1 : Nat) : R :=
 ncK 990060 y0 fun x27 =>
 faK 990061 x27 1 fun x28 =>
 ldK 990062 T1 ro x28 fun x29 =>
 ncK 990064 y0 fun x30 =>
 faK 990065 x30 0 fun x31 =>
 ldK 990066 T1 ro x31 fun x32 =>
 lenTK 990067 x32 fun x33 =>
 ltK prog 3 (.tmp 12) (.tmp 17) 990068 x29 x33 fun x34 =>
 condK 990070 x34
 (
  ncK 990072 y0 fun x35 =>
  faK 990073 x35 0 fun x36 =>
  ldK 990074 T1 ro x36 fun x37 =>
  ncK 990076 y0 fun x38 =>
  faK 990077 x38 1 fun x39 =>
  ldK 990078 T1 ro x39 fun x40 =>
  ixK 990079 x37 x40 fun x41 =>
  callQ 990080 (g96 (T1 :: ro) x41 .nil n1) fun x42 =>
  condK 990082 x42
  (
   g99_k2 ro lp1 y0 y2 y3 (.lit (.bool true)) T1 n1
  )
  (
   ncK 990086 y0 fun x43 =>
   faK 990087 x43 0 fun x44 =>
   ldK 990088 T1 ro x44 fun x45 =>
   ncK 990090 y0 fun x46 =>
   faK 990091 x46 1 fun x47 =>
   ldK 990092 T1 ro x47 fun x48 =>
   ixK 990093 x45 x48 fun x49 =>
   callQ 990094 (g98 (T1 :: ro) x49 .nil n1) fun x50 =>
   g99_k2 ro lp1 y0 y2 y3 x50 T1 n1
  )
 )
 (
  g99_k2 ro lp1 y0 y2 y3 (.lit (.bool false)) T1 n1
 )
def g99 (ro : List HT) (a0 : AV) (T : HT) (nx : Nat) : R :=
 fldK 990003 T ro a0 1 fun x1 =>
 lpf3 990005 (g99_b1 ro) 100000 a0 (.lit (.nilIface)) x1 T nx
theorem g99_ok (ro : List HT) (a0 : AV) (T : HT) (nx : Nat) : GOk prog envE 99 [a0] ro T nx (g99 ro a0 T nx) := by
 refine GOk.of_body func99 rfl ntmps99 (by kernel_rfl) rfl fun r T' n' h1 w0 base ρ0 its hS hP => ?_
 have X : CtxW envE ρ0 ro r T' n' := trivial
 unfold g99 at h1
 refine sr ?_
 refine as_ ?_
 refine dn (sr ?_)
 refine mv ?_
 refine fl hS h1 fo174_1 one3 fun x1 h2 => ?_
 refine as_ ?_
 refine dn (CV.seq (CV.block ?_))
 refine cl3 X 0 2 3 [] hS h2 ⟨rfl, rfl, rfl, trivial⟩ ?_
 intro f1 y0 y2 y3 T1 n1 ρ its hS h3
 unfold g99_b1 at h3
 refine CV.seq ?_
 refine cs4 X 0 2 3 42 [] (g99_k2 ro (lpf3 990005 (g99_b1 ro) f1)) ?_ ?_
 ·
  refine CV.regionM [(0, .anywhere), (1, .anywhere), (2, .anywhere), (3, .held), (4, .anywhere), (5, .anywhere), (6, .anywhere), (7, .held), (8, .held), (9, .held), (10, .held), (11, .held), (12, .held), (13, .held), (14, .held), (15, .anywhere), (16, .anywhere), (17, .anywhere), (18, .held), (19, .held), (20, .alone), (21, .anywhere), (22, .anywhere), (23, .anywhere), (24, .anywhere), (25, .held), (26, .anywhere), (27, .anywhere), (28, .anywhere), (29, .held), (30, .held), (31, .alone), (32, .anywhere), (33, .anywhere)] rfl (fun c a a' w hd hq => PanicOk.root (P := prog) (fn := f99) (w0 := w0) (base := base) (E := envE) (ro := ro) (r := r) (T' := T') (n' := n') (ρ0 := ρ0) c a a' w hd hq) (by kernel_rfl) ?_
  refine MV.step0 (i := 0) rfl (VAL.move rfl) rfl rfl rfl ?_
  refine MV.lift0 (i := 1) rfl (V.nc h3 rfl) rfl rfl rfl fun x27 h38 => ?_
  refine MV.lift0 (i := 2) rfl (V.fa h38 rfl fo174_1) rfl rfl rfl fun x28 h39 => ?_
  refine MV.lift1 (i := 3) rfl (fun _ z => z) (V.ld hS h39 rfl one3) rfl rfl rfl [] (by kernel_rfl) fun x29 h40 => ?_
  refine MV.step0 (i := 4) rfl (VAL.move rfl) rfl rfl rfl ?_
  refine MV.lift0 (i := 5) rfl (V.nc h40 rfl) rfl rfl rfl fun x30 h41 => ?_
  refine MV.lift0 (i := 6) rfl (V.fa h41 rfl fo174_0) rfl rfl rfl fun x31 h42 => ?_
  refine MV.lift1 (i := 7) rfl (fun _ z => z) (V.ld hS h42 rfl one9) rfl rfl rfl [3] (by kernel_rfl) fun x32 h43 => ?_
  refine MV.lift1 (i := 8) rfl (fun _ z => z) (V.lenT h43 rfl ls9) rfl rfl rfl [3] (by kernel_rfl) fun x33 h44 => ?_
  refine MV.lift1 (i := 9) rfl (fun _ z => z) (V.lt h44 rfl rfl) rfl rfl rfl [] (by kernel_rfl) fun x34 h45 => ?_
  refine MV.step1 (i := 10) rfl (fun _ z => z) (VAL.move rfl) rfl rfl rfl [] (by kernel_rfl) ?_
  rcases condK_inv h45 with ⟨e, h46⟩ | ⟨e, h46⟩
  ·
   subst e
   refine MV.step1 (i := 11) rfl (fun _ z => z) (VAL.move rfl) rfl rfl rfl [] (by kernel_rfl) ?_
   refine MV.lift1 (i := 12) rfl (fun _ z => z) (V.nc h46 rfl) rfl rfl rfl [] (by kernel_rfl) fun x35 h47 => ?_
   refine MV.lift1 (i := 13) rfl (fun _ z => z) (V.fa h47 rfl fo174_0) rfl rfl rfl [] (by kernel_rfl) fun x36 h48 => ?_
   refine MV.lift1 (i := 14) rfl (fun _ z => z) (V.ld hS h48 rfl one9) rfl rfl rfl [] (by kernel_rfl) fun x37 h49 => ?_
   refine MV.step0 (i := 15) rfl (VAL.move rfl) rfl rfl rfl ?_
   refine MV.lift0 (i := 16) rfl (V.nc h49 rfl) rfl rfl rfl fun x38 h50 => ?_
   refine MV.lift0 (i := 17) rfl (V.fa h50 rfl fo174_1) rfl rfl rfl fun x39 h51 => ?_
   refine MV.lift1 (i := 18) rfl (fun _ z => z) (V.ld hS h51 rfl one3) rfl rfl rfl [14] (by kernel_rfl) fun x40 h52 => ?_
   refine MV.lift1 (i := 19) rfl (fun _ z => z) (V.ix h52 rfl rfl st9) rfl rfl rfl [] (by kernel_rfl) fun x41 h53 => ?_
   refine MV.force (i := 20) rfl ?_
   refine LV.callQ hS h53 (g96_ok _ _ _ _ ) rfl rfl rfl rfl fun x42 h54 => ?_
   refine LV.nextM [] (by kernel_rfl) (fun z => absurd rfl z) ?_
   refine MV.step0 (i := 21) rfl (VAL.move rfl) rfl rfl rfl ?_
   rcases condK_inv h54 with ⟨e, h55⟩ | ⟨e, h55⟩
   ·
    subst e
    refine MV.skip0 (i := 22) rfl rfl rfl rfl ?_
    refine MV.skip0 (i := 23) rfl rfl rfl rfl ?_
    refine MV.skip0 (i := 24) rfl rfl rfl rfl ?_
    refine MV.skip1 (i := 25) rfl (fun _ z => z) rfl rfl rfl [] (by kernel_rfl) ?_
    refine MV.skip0 (i := 26) rfl rfl rfl rfl ?_
    refine MV.skip0 (i := 27) rfl rfl rfl rfl ?_
    refine MV.skip0 (i := 28) rfl rfl rfl rfl ?_
    refine MV.skip1 (i := 29) rfl (fun _ z => z) rfl rfl rfl [25] (by kernel_rfl) ?_
    refine MV.skip1 (i := 30) rfl (fun _ z => z) rfl rfl rfl [] (by kernel_rfl) ?_
    refine MV.force (i := 31) rfl ?_
    refine sk ?_
    refine LV.nextM [] (by kernel_rfl) (fun z => absurd rfl z) ?_
    refine MV.step0 (i := 32) rfl (VAL.pure rfl) rfl rfl rfl ?_
    refine MV.step0 (i := 33) rfl (VAL.pure rfl) rfl rfl rfl ?_
    refine MV.done ?_
    exact pa4 hS h55 ⟨rfl, rfl, rfl, rfl, trivial⟩
   subst e
   refine MV.step0 (i := 22) rfl (VAL.move rfl) rfl rfl rfl ?_
   refine MV.lift0 (i := 23) rfl (V.nc h55 rfl) rfl rfl rfl fun x43 h56 => ?_
   refine MV.lift0 (i := 24) rfl (V.fa h56 rfl fo174_0) rfl rfl rfl fun x44 h57 => ?_
   refine MV.lift1 (i := 25) rfl (fun _ z => z) (V.ld hS h57 rfl one9) rfl rfl rfl [] (by kernel_rfl) fun x45 h58 => ?_
   refine MV.step0 (i := 26) rfl (VAL.move rfl) rfl rfl rfl ?_
   refine MV.lift0 (i := 27) rfl (V.nc h58 rfl) rfl rfl rfl fun x46 h59 => ?_
   refine MV.lift0 (i := 28) rfl (V.fa h59 rfl fo174_1) rfl rfl rfl fun x47 h60 => ?_
   refine MV.lift1 (i := 29) rfl (fun _ z => z) (V.ld hS h60 rfl one3) rfl rfl rfl [25] (by kernel_rfl) fun x48 h61 => ?_
   refine MV.lift1 (i := 30) rfl (fun _ z => z) (V.ix h61 rfl rfl st9) rfl rfl rfl [] (by kernel_rfl) fun x49 h62 => ?_
   refine MV.force (i := 31) rfl ?_
   refine LV.callQ hS h62 (g98_ok _ _ _ _ ) rfl rfl rfl rfl fun x50 h63 => ?_
   refine LV.nextM [] (by kernel_rfl) (fun z => absurd rfl z) ?_
   refine MV.step0 (i := 32) rfl (VAL.pure rfl) rfl rfl rfl ?_
   refine MV.step0 (i := 33) rfl (VAL.pure rfl) rfl rfl rfl ?_
   refine MV.done ?_
   exact pa4 hS h63 ⟨rfl, rfl, rfl, rfl, trivial⟩
  subst e
  refine MV.skip1 (i := 11) rfl (fun _ z => z) rfl rfl rfl [] (by kernel_rfl) ?_
  refine MV.skip1 (i := 12) rfl (fun _ z => z) rfl rfl rfl [] (by kernel_rfl) ?_
  refine MV.skip1 (i := 13) rfl (fun _ z => z) rfl rfl rfl [] (by kernel_rfl) ?_
  refine MV.skip1 (i := 14) rfl (fun _ z => z) rfl rfl rfl [] (by kernel_rfl) ?_
  refine MV.skip0 (i := 15) rfl rfl rfl rfl ?_
  refine MV.skip0 (i := 16) rfl rfl rfl rfl ?_
  refine MV.skip0 (i := 17) rfl rfl rfl rfl ?_
  refine MV.skip1 (i := 18) rfl (fun _ z => z) rfl rfl rfl [14] (by kernel_rfl) ?_
  refine MV.skip1 (i := 19) rfl (fun _ z => z) rfl rfl rfl [] (by kernel_rfl) ?_
  refine MV.force (i := 20) rfl ?_
  refine sk ?_
  refine LV.nextM [] (by kernel_rfl) (fun z => absurd rfl z) ?_
  refine MV.skip0 (i := 21) rfl rfl rfl rfl ?_
  refine MV.skip0 (i := 22) rfl rfl rfl rfl ?_
  refine MV.skip0 (i := 23) rfl rfl rfl rfl ?_
  refine MV.skip0 (i := 24) rfl rfl rfl rfl ?_
  refine MV.skip1 (i := 25) rfl (fun _ z => z) rfl rfl rfl [] (by kernel_rfl) ?_
  refine MV.skip0 (i := 26) rfl rfl rfl rfl ?_
  refine MV.skip0 (i := 27) rfl rfl rfl rfl ?_
  refine MV.skip0 (i := 28) rfl rfl rfl rfl ?_
  refine MV.skip1 (i := 29) rfl (fun _ z => z) rfl rfl rfl [25] (by kernel_rfl) ?_
  refine MV.skip1 (i := 30) rfl (fun _ z => z) rfl rfl rfl [] (by kernel_rfl) ?_
  refine MV.force (i := 31) rfl ?_
  refine sk ?_
  refine LV.nextM [] (by kernel_rfl) (fun z => absurd rfl z) ?_
  refine MV.skip0 (i := 32) rfl rfl rfl rfl ?_
  refine MV.step0 (i := 33) rfl (VAL.pure rfl) rfl rfl rfl ?_
  refine MV.done ?_
  exact pa4 hS h46 ⟨rfl, rfl, rfl, rfl, trivial⟩
 intro y0 y2 y3 y42 T2 n2 ρ its hS h4
 unfold g99_k2 at h4
 refine CV.cond h4 rfl (fun e h5 => ?_) (fun e h5 => ?_)
 ·
  subst e
  refine CV.skip (PV.thenN (CV.block (CV.seq (CV.seq ?_))))
  refine CV.regionM [(0, .anywhere), (1, .anywhere), (2, .anywhere), (3, .held), (4, .anywhere), (5, .anywhere), (6, .anywhere), (7, .held), (8, .held), (9, .alone)] rfl (fun c a a' w hd hq => PanicOk.root (P := prog) (fn := f99) (w0 := w0) (base := base) (E := envE) (ro := ro) (r := r) (T' := T') (n' := n') (ρ0 := ρ0) c a a' w hd hq) (by kernel_rfl) ?_
  refine MV.step0 (i := 0) rfl (VAL.move rfl) rfl rfl rfl ?_
  refine MV.lift0 (i := 1) rfl (V.nc h5 rfl) rfl rfl rfl fun x2 h6 => ?_
  refine MV.lift0 (i := 2) rfl (V.fa h6 rfl fo174_0) rfl rfl rfl fun x3 h7 => ?_
  refine MV.lift1 (i := 3) rfl (fun _ z => z) (V.ld hS h7 rfl one9) rfl rfl rfl [] (by kernel_rfl) fun x4 h8 => ?_
  refine MV.step0 (i := 4) rfl (VAL.move rfl) rfl rfl rfl ?_
  refine MV.lift0 (i := 5) rfl (V.nc h8 rfl) rfl rfl rfl fun x5 h9 => ?_
  refine MV.lift0 (i := 6) rfl (V.fa h9 rfl fo174_1) rfl rfl rfl fun x6 h10 => ?_
  refine MV.lift1 (i := 7) rfl (fun _ z => z) (V.ld hS h10 rfl one3) rfl rfl rfl [3] (by kernel_rfl) fun x7 h11 => ?_
  refine MV.lift1 (i := 8) rfl (fun _ z => z) (V.ix h11 rfl rfl st9) rfl rfl rfl [] (by kernel_rfl) fun x8 h12 => ?_
  refine MV.force (i := 9) rfl ?_
  refine LV.call hS h12 (g96_ok _ _ _ _ ) hP rfl rfl rfl rfl fun x9 T3 n3 h13 ρ its hS => ?_
  refine LV.nextM [] (by kernel_rfl) (fun z => absurd rfl z) ?_
  refine mdn ?_
  refine CV.cond h13 rfl (fun e h14 => ?_) (fun e h14 => ?_)
  ·
   subst e
   cases h14
  subst e
  refine CV.skip (PV.thenN (CV.region ?_))
  refine mv ?_
  refine fl hS h14 fo174_1 one3 fun x10 h15 => ?_
  refine vy (V.add h15 rfl rfl) fun x11 h16 => ?_
  refine fa2 h16 fo174_1 fun x12 h17 => ?_
  refine LV.st hS h17 rfl rfl rfl siz3 rfl rfl fun T4 its h18 hS => ?_
  refine LV.done (PV.blockN ?_)
  exact pb3 hS h18 ⟨rfl, rfl, rfl, trivial⟩
 subst e
 refine CV.exit (PV.thenE (PV.thenE (PV.blockE (PV.thenN (CV.seq ?_)))))
 refine CV.regionM [(0, .anywhere), (1, .anywhere), (2, .anywhere), (3, .held), (4, .anywhere), (5, .anywhere), (6, .anywhere), (7, .anywhere), (8, .held), (9, .held), (10, .held)] rfl (fun c a a' w hd hq => PanicOk.root (P := prog) (fn := f99) (w0 := w0) (base := base) (E := envE) (ro := ro) (r := r) (T' := T') (n' := n') (ρ0 := ρ0) c a a' w hd hq) (by kernel_rfl) ?_
 refine MV.step0 (i := 0) rfl (VAL.move rfl) rfl rfl rfl ?_
 refine MV.lift0 (i := 1) rfl (V.nc h5 rfl) rfl rfl rfl fun x13 h19 => ?_
 refine MV.lift0 (i := 2) rfl (V.fa h19 rfl fo174_0) rfl rfl rfl fun x14 h20 => ?_
 refine MV.lift1 (i := 3) rfl (fun _ z => z) (V.ld hS h20 rfl one9) rfl rfl rfl [] (by kernel_rfl) fun x15 h21 => ?_
 refine MV.step0 (i := 4) rfl (VAL.move rfl) rfl rfl rfl ?_
 refine MV.step0 (i := 5) rfl (VAL.move rfl) rfl rfl rfl ?_
 refine MV.lift0 (i := 6) rfl (V.nc h21 rfl) rfl rfl rfl fun x16 h22 => ?_
 refine MV.lift0 (i := 7) rfl (V.fa h22 rfl fo174_1) rfl rfl rfl fun x17 h23 => ?_
 refine MV.lift1 (i := 8) rfl (fun _ z => z) (V.ld hS h23 rfl one3) rfl rfl rfl [3] (by kernel_rfl) fun x18 h24 => ?_
 refine MV.lift1 (i := 9) rfl (fun _ z => z) (V.slBo (sliceF_ok h24) rfl rfl rfl st9) rfl rfl rfl [] (by kernel_rfl) fun x19 h25 => ?_
 refine MV.step1 (i := 10) rfl (fun _ z => z) (VAL.assign rfl) rfl rfl rfl [] (by kernel_rfl) ?_
 refine mdn (CV.seq (sr ?_))
 refine mv ?_
 refine vy (V.lenT h25 rfl ls9) fun x20 h26 => ?_
 refine vy (V.gt h26 rfl rfl) fun x21 h27 => ?_
 refine mv ?_
 refine ls5 X 0 2 3 4 84 [] (g99_k3 ro) 9 ?_ ?_
 ·
  rcases condK_inv h27 with ⟨e, h31⟩ | ⟨e, h31⟩
  ·
   subst e
   iterate 8 refine sk ?_
   refine pu ?_
   exact la5 hS h31 ⟨rfl, rfl, rfl, rfl, rfl, trivial⟩
  subst e
  refine mv ?_
  refine vy (V.ix h31 rfl rfl st9) fun x23 h32 => ?_
  refine vy (V.eq h32 rfl rfl) fun x24 h33 => ?_
  refine mv ?_
  refine ls5 X 0 2 3 4 83 [(75, (.lit (.bool false)))] (g99_k4 ro) 4 ?_ ?_
  ·
   rcases condK_inv h33 with ⟨e, h35⟩ | ⟨e, h35⟩
   ·
    subst e
    refine mv ?_
    refine vy (V.lenT h35 rfl ls9) fun x25 h36 => ?_
    refine vy (V.gt h36 rfl rfl) fun x26 h37 => ?_
    refine pu ?_
    exact la5 hS h37 ⟨rfl, rfl, rfl, rfl, rfl, rfl, trivial⟩
   subst e
   iterate 3 refine sk ?_
   refine pu ?_
   exact la5 hS h35 ⟨rfl, rfl, rfl, rfl, rfl, rfl, trivial⟩
  intro y0 y2 y3 y4 y83 T7 n7 ρ its hS h34
  unfold g99_k4 at h34
  refine pu ?_
  exact la5 hS h34 ⟨rfl, rfl, rfl, rfl, rfl, trivial⟩
 intro y0 y2 y3 y4 y84 T5 n5 ρ its hS h28
 unfold g99_k3 at h28
 refine dn ?_
 refine CV.cond h28 rfl (fun e h29 => ?_) (fun e h29 => ?_)
 ·
  subst e
  cases h29
 subst e
 refine CV.skip (PV.thenN (sr ?_))
 iterate 3 refine mv ?_
 refine LV.call hS h29 (g75_ok _ _ _ _ _ _ _ ) hP rfl rfl rfl rfl fun x22 T6 n6 h30 ρ its hS => ?_
 refine dn (sr ?_)
 refine as_ ?_
 refine dn (CV.ret ?_)
 cases h30
 exact PV.ret (by simp) results99 hS (RS.tmp rfl RS.nil) rfl
def g127_k2 (ro : List HT) (lp1 : AV → AV → AV → AV → HT → Nat → R) (y0 y1 y4 y5 y26 : AV) (T2 : HT) (n2 : Nat) : R :=
 condK 1270013 y26
 (
  fldK 1270015 T2 ro y0 0 fun x6 =>
  ixK 1270017 x6 y5 fun x7 =>
  eqK prog 5 (.tmp 34) (.tmp 36) 1270019 x7 y1 fun x8 =>
  condK 1270021 x8
  (
   addK prog 3 (.tmp 38) (.const (.int .i64 (.ofNat 1))) 1270023 y5 (.lit (.int .i64 (.ofNat 1))) fun x9 =>
   .ok (.val x9) T2 n2
  )
  (
   eqK prog 5 (.tmp 34) (.const (.int .u8 (.ofNat 92))) 1270025 x7 (.lit (.int .u8 (.ofNat 92))) fun x10 =>
   condK 1270027 x10
   (
    .bad 1270028
   )
   (
    addK prog 3 (.tmp 27) (.const (.int .i64 (.ofNat 1))) 1270030 y5 (.lit (.int .i64 (.ofNat 1))) fun x11 =>
    lp1 y0 y1 y4 x11 T2 n2
   )
  )
 )
 (
  .ok (.val (.lit (.int .i64 (.negSucc 0)))) T2 n2
 )
def g127_b1 (ro : List HT) (lp1 : AV → AV → AV → AV → HT → Nat → R) (y0 y1 y4 y5 : AV) (T1 : HT) (n1 : Nat) : R :=
 fldK 1270009 T1 ro y0 0 fun x3 =>
 lenTK 1270010 x3 fun x4 =>
 ltK prog 3 (.tmp 11) (.tmp 16) 1270011 y5 x4 fun x5 =>
 condK 1270033 x5
 (
  ncK 1270035 y0 fun x12 =>
  faK 1270036 x12 0 fun x13 =>
  ldK 1270037 T1 ro x13 fun x14 =>
  ixK 1270039 x14 y5 fun x15 =>
  neK prog 5 (.tmp 24) (.const (.int .u8 (.ofNat 10))) 1270040 x15 (.lit (.int .u8 (.ofNat 10))) fun x16 =>
  g127_k2 ro lp1 y0 y1 y4 y5 x16 T1 n1
 )
 (
  g127_k2 ro lp1 y0 y1 y4 y5 (.lit (.bool false)) T1 n1
 )
def g127 (ro : List HT) (a0 a1 : AV) (T : HT) (nx : Nat) : R :=
 fldK 1270003 T ro a0 1 fun x1 =>
 addK prog 3 (.tmp 9) (.const (.int .i64 (.ofNat 1))) 1270004 x1 (.lit (.int .i64 (.ofNat 1))) fun x2 =>
 lpf4 1270006 (g127_b1 ro) 100000 a0 a1 (.lit (.int .i64 (.ofNat 0))) x2 T nx
theorem g127_ok (ro : List HT) (a0 a1 : AV) (T : HT) (nx : Nat) : GOk prog envE 127 [a0, a1] ro T nx (g127 ro a0 a1 T nx) := by
 refine GOk.of_body func127 rfl ntmps127 (by kernel_rfl) rfl fun r T' n' h1 w0 base ρ0 its hS hP => ?_
 have X : CtxW envE ρ0 ro r T' n' := trivial
 unfold g127 at h1
 refine sr ?_
 refine as_ ?_
 refine dn (CV.seq (sr ?_))
 refine mv ?_
 refine fl hS h1 fo174_1 one3 fun x1 h2 => ?_
 refine vy (V.add h2 rfl rfl) fun x2 h3 => ?_
 refine as_ ?_
 refine dn (CV.block ?_)
 refine cl4 X 0 1 4 5 [] hS h3 ⟨rfl, rfl, rfl, rfl, trivial⟩ ?_
 intro f1 y0 y1 y4 y5 T1 n1 ρ its hS h4
 unfold g127_b1 at h4
 refine CV.seq (sr ?_)
 iterate 2 refine mv ?_
 refine fl hS h4 fo174_0 one9 fun x3 h5 => ?_
 refine vy (V.lenT h5 rfl ls9) fun x4 h6 => ?_
 refine vy (V.lt h6 rfl rfl) fun x5 h7 => ?_
 refine mv ?_
 refine ls5 X 0 1 4 5 26 [] (g127_k2 ro (lpf4 1270006 (g127_b1 ro) f1)) 8 ?_ ?_
 ·
  rcases condK_inv h7 with ⟨e, h18⟩ | ⟨e, h18⟩
  ·
   subst e
   refine mv ?_
   refine vy (V.nc h18 rfl) fun x12 h19 => ?_
   refine vy (V.fa h19 rfl fo174_0) fun x13 h20 => ?_
   refine vy (V.ld hS h20 rfl one9) fun x14 h21 => ?_
   refine mv ?_
   refine vy (V.ix h21 rfl rfl st9) fun x15 h22 => ?_
   refine vy (V.ne h22 rfl rfl) fun x16 h23 => ?_
   refine pu ?_
   exact la5 hS h23 ⟨rfl, rfl, rfl, rfl, rfl, trivial⟩
  subst e
  iterate 7 refine sk ?_
  refine pu ?_
  exact la5 hS h18 ⟨rfl, rfl, rfl, rfl, rfl, trivial⟩
 intro y0 y1 y4 y5 y26 T2 n2 ρ its hS h8
 unfold g127_k2 at h8
 refine dn ?_
 refine CV.cond h8 rfl (fun e h9 => ?_) (fun e h9 => ?_)
 ·
  subst e
  refine CV.skip (PV.thenN (CV.seq (CV.block (sr ?_))))
  refine mv ?_
  refine fl hS h9 fo174_0 one9 fun x6 h10 => ?_
  refine mv ?_
  refine vy (V.ix h10 rfl rfl st9) fun x7 h11 => ?_
  refine dn (CV.block (sr ?_))
  refine mv ?_
  refine vy (V.eq h11 rfl rfl) fun x8 h12 => ?_
  refine as_ ?_
  refine dn ?_
  refine CV.cond h12 rfl (fun e h13 => ?_) (fun e h13 => ?_)
  ·
   subst e
   refine sr ?_
   refine mv ?_
   refine vy (V.add h13 rfl rfl) fun x9 h14 => ?_
   refine as_ ?_
   refine dn (CV.ret (PV.blockR (PV.blockR (PV.thenR (PV.thenR (PV.blockR (PV.thenR ?_)))))))
   cases h14
   exact PV.ret (by simp) results127 hS (RS.tmp rfl RS.nil) rfl
  subst e
  refine sr ?_
  refine vy (V.eq h13 rfl rfl) fun x10 h15 => ?_
  refine as_ ?_
  refine dn ?_
  refine CV.cond h15 rfl (fun e h16 => ?_) (fun e h16 => ?_)
  ·
   subst e
   cases h16
  subst e
  refine CV.skip (PV.blockN (PV.blockN (PV.thenN (CV.region ?_))))
  refine mv ?_
  refine vy (V.add h16 rfl rfl) fun x11 h17 => ?_
  refine as_ ?_
  refine LV.done ?_
  exact pb4 hS h17 ⟨rfl, rfl, rfl, rfl, trivial⟩
 subst e
 refine CV.exit (PV.thenE (PV.thenE (PV.blockE (PV.thenN (sr ?_)))))
 refine as_ ?_
 refine dn (CV.ret ?_)
 cases h9
 exact PV.ret (by simp) results127 hS (RS.tmp rfl RS.nil) rfl
def g142 (ro : List HT) (a0 a1 : AV) (T : HT) (nx : Nat) : R :=
 ibsK 1420004 a0 a1 fun x1 =>
 .ok (.val x1) T nx
theorem g142_ok (ro : List HT) (a0 a1 : AV) (T : HT) (nx : Nat) : GOk prog envE 142 [a0, a1] ro T nx (g142 ro a0 a1 T nx) := by
 refine GOk.of_body func142 rfl ntmps142 (by kernel_rfl) rfl fun r T' n' h1 w0 base ρ0 its hS hP => ?_
 have X : CtxW envE ρ0 ro r T' n' := trivial
 unfold g142 at h1
 refine sr ?_
 refine as_ ?_
 refine dn (sr ?_)
 iterate 2 refine mv ?_
 refine vy (ibf147 h1 rfl rfl) fun x1 h2 => ?_
 refine as_ ?_
 refine dn (CV.ret ?_)
 cases h2
 exact PV.ret (by simp) results142 hS (RS.tmp rfl RS.nil) rfl
def g130 (ro : List HT) (a0 a1 : AV) (T : HT) (nx : Nat) : R :=
 callK (g142 ro a0 a1 T nx) fun x1 T1 n1 =>
 .ok (.val x1) T1 n1
theorem g130_ok (ro : List HT) (a0 a1 : AV) (T : HT) (nx : Nat) : GOk prog envE 130 [a0, a1] ro T nx (g130 ro a0 a1 T nx) := by
 refine GOk.of_body func130 rfl ntmps130 (by kernel_rfl) rfl fun r T' n' h1 w0 base ρ0 its hS hP => ?_
 have X : CtxW envE ρ0 ro r T' n' := trivial
 unfold g130 at h1
 refine sr ?_
 refine as_ ?_
 refine dn (sr ?_)
 iterate 2 refine mv ?_
 refine LV.call hS h1 (g142_ok _ _ _ _ _ ) hP rfl rfl rfl rfl fun x1 T1 n1 h2 ρ its hS => ?_
 refine as_ ?_
 refine dn (CV.ret ?_)
 cases h2
 exact PV.ret (by simp) results130 hS (RS.tmp rfl RS.nil) rfl
def g139_k2 (ro : List HT) (lp1 : AV → AV → AV → AV → AV → HT → Nat → R) (y0 y2 y3 y4 y6 y10 y25 : AV) (T3 : HT) (n3 : Nat) : R :=
 condK 1390024 y25
 (
  .bad 1390025
 )
 (
  bin0 prog .shl 5 (.tmp 26) (.const (.int .u64 (.ofNat 4))) 1390027 y4 (.lit (.int .u64 (.ofNat 4))) fun x8 =>
  optK 1390029 (convV prog 3 5 y6) fun x9 =>
  bin0 prog .or 5 (.tmp 27) (.tmp 29) 1390030 x8 x9 fun x10 =>
  addK prog 3 (.tmp 10) (.const (.int .i64 (.ofNat 1))) 1390032 y10 (.lit (.int .i64 (.ofNat 1))) fun x11 =>
  lp1 y0 y2 y3 x10 x11 T3 n3
 )
def g139_b1 (ro : List HT) (lp1 : AV → AV → AV → AV → AV → HT → Nat → R) (y0 y2 y3 y4 y10 : AV) (T1 : HT) (n1 : Nat) : R :=
 ltK prog 3 (.tmp 10) (.const (.int .i64 (.ofNat 2))) 1390011 y10 (.lit (.int .i64 (.ofNat 2))) fun x3 =>
 condK 1390012 x3
 (
  ixK 1390017 y0 y10 fun x4 =>
  bin0 prog .or 5 (.tmp 15) (.const (.int .u8 (.ofNat 32))) 1390018 x4 (.lit (.int .u8 (.ofNat 32))) fun x5 =>
  callK (g130 ro (.lit (.string ⟨⟨[48, 49, 50, 51, 52, 53, 54, 55, 56, 57, 97, 98, 99, 100, 101, 102]⟩⟩)) x5 T1 n1) fun x6 T2 n2 =>
  ltK prog 3 (.tmp 18) (.const (.int .i64 (.ofNat 0))) 1390022 x6 (.lit (.int .i64 (.ofNat 0))) fun x7 =>
  condK 1390034 x7
  (
   g139_k2 ro lp1 y0 y2 y3 y4 x6 y10 (.lit (.bool true)) T2 n2
  )
  (
   ixK 1390038 y0 y10 fun x12 =>
   ltK prog 5 (.tmp 23) (.const (.int .u8 (.ofNat 48))) 1390039 x12 (.lit (.int .u8 (.ofNat 48))) fun x13 =>
   g139_k2 ro lp1 y0 y2 y3 y4 x6 y10 x13 T2 n2
  )
 )
 (
  .ok (.val (.tup [y4, (.lit (.bool true))])) T1 n1
 )
def g139 (ro : List HT) (a0 : AV) (T : HT) (nx : Nat) : R :=
 lenTK 1390005 a0 fun x1 =>
 ltK prog 3 (.tmp 8) (.const (.int .i64 (.ofNat 2))) 1390006 x1 (.lit (.int .i64 (.ofNat 2))) fun x2 =>
 condK 1390007 x2
 (
  .bad 1390008
 )
 (
  lpf5 1390010 (g139_b1 ro) 100000 a0 (.lit (.int .u8 (.ofNat 0))) (.lit (.bool false)) (.lit (.int .u8 (.ofNat 0))) (.lit (.int .i64 (.ofNat 0))) T nx
 )
theorem g139_ok (ro : List HT) (a0 : AV) (T : HT) (nx : Nat) : GOk prog envE 139 [a0] ro T nx (g139 ro a0 T nx) := by
 refine GOk.of_body func139 rfl ntmps139 (by kernel_rfl) rfl fun r T' n' h1 w0 base ρ0 its hS hP => ?_
 have X : CtxW envE ρ0 ro r T' n' := trivial
 unfold g139 at h1
 refine sr ?_
 iterate 2 refine as_ ?_
 refine dn (sr ?_)
 refine as_ ?_
 refine dn (CV.seq (sr ?_))
 refine mv ?_
 refine vy (V.lenT h1 rfl ls9) fun x1 h2 => ?_
 refine vy (V.lt h2 rfl rfl) fun x2 h3 => ?_
 refine dn ?_
 refine CV.cond h3 rfl (fun e h4 => ?_) (fun e h4 => ?_)
 ·
  subst e
  cases h4
 subst e
 refine CV.skip (PV.thenN (CV.seq (sr ?_)))
 refine mv ?_
 refine dn (CV.block ?_)
 refine cl5 X 0 2 3 4 10 [] hS h4 ⟨rfl, rfl, rfl, rfl, rfl, trivial⟩ ?_
 intro f1 y0 y2 y3 y4 y10 T1 n1 ρ its hS h5
 unfold g139_b1 at h5
 refine sr ?_
 refine vy (V.lt h5 rfl rfl) fun x3 h6 => ?_
 refine dn (CV.seq ?_)
 refine CV.cond h6 rfl (fun e h7 => ?_) (fun e h7 => ?_)
 ·
  subst e
  refine CV.skip (PV.thenN (CV.seq (CV.block (sr ?_))))
  refine mv ?_
  refine as_ ?_
  refine dn (sr ?_)
  iterate 2 refine mv ?_
  refine vy (V.ix h7 rfl rfl st9) fun x4 h8 => ?_
  refine vy (V.bin0 h8 rfl rfl) fun x5 h9 => ?_
  refine LV.call hS h9 (g130_ok _ _ _ _ _ ) hP rfl rfl rfl rfl fun x6 T2 n2 h10 ρ its hS => ?_
  refine as_ ?_
  refine dn (CV.seq (sr ?_))
  refine mv ?_
  refine vy (V.lt h10 rfl rfl) fun x7 h11 => ?_
  refine mv ?_
  refine ls7 X 0 2 3 4 6 10 25 [] (g139_k2 ro (lpf5 1390010 (g139_b1 ro) f1)) 5 ?_ ?_
  ·
   rcases condK_inv h11 with ⟨e, h18⟩ | ⟨e, h18⟩
   ·
    subst e
    iterate 4 refine sk ?_
    refine pu ?_
    exact la7 hS h18 ⟨rfl, rfl, rfl, rfl, rfl, rfl, rfl, trivial⟩
   subst e
   iterate 2 refine mv ?_
   refine vy (V.ix h18 rfl rfl st9) fun x12 h19 => ?_
   refine vy (V.lt h19 rfl rfl) fun x13 h20 => ?_
   refine pu ?_
   exact la7 hS h20 ⟨rfl, rfl, rfl, rfl, rfl, rfl, rfl, trivial⟩
  intro y0 y2 y3 y4 y6 y10 y25 T3 n3 ρ its hS h12
  unfold g139_k2 at h12
  refine dn ?_
  refine CV.cond h12 rfl (fun e h13 => ?_) (fun e h13 => ?_)
  ·
   subst e
   cases h13
  subst e
  refine CV.skip (PV.thenN (CV.region ?_))
  refine mv ?_
  refine vy (V.bin0 h13 rfl rfl) fun x8 h14 => ?_
  refine mv ?_
  refine vy (V.conv h14 rfl) fun x9 h15 => ?_
  refine vy (V.bin0 h15 rfl rfl) fun x10 h16 => ?_
  refine as_ ?_
  refine LV.done (PV.blockN (PV.thenN (CV.region ?_)))
  refine vy (V.add h16 rfl rfl) fun x11 h17 => ?_
  refine mv ?_
  refine LV.done ?_
  exact pb5 hS h17 ⟨rfl, rfl, rfl, rfl, rfl, trivial⟩
 subst e
 refine CV.exit (PV.thenE (PV.thenE (PV.blockE (PV.thenN (sr ?_)))))
 refine mv ?_
 iterate 2 refine as_ ?_
 refine dn (CV.ret ?_)
 cases h7
 exact PV.ret (by simp) results139 hS (RS.tmp rfl (RS.tmp rfl RS.nil)) rfl
def g128_k2 (ro : List HT) (y0 y30 : AV) (T2 : HT) (n2 : Nat) : R :=
 condK 1280026 y30
 (
  .bad 1280027
 )
 (
  ixK 1280029 y0 (.lit (.int .i64 (.ofNat 0))) fun x8 =>
  neK prog 5 (.tmp 35) (.const (.int .u8 (.ofNat 120))) 1280030 x8 (.lit (.int .u8 (.ofNat 120))) fun x9 =>
  condK 1280032 x9
  (
   .bad 1280033
  )
  (
   sliceF 1280035 y0 (some (.lit (.int .i64 (.ofNat 1)))) none fun x10 =>
   callK (g139 ro x10 T2 n2) fun x11 T3 n3 =>
   exK 1280038 x11 0 fun x12 =>
   exK 1280039 x11 1 fun x13 =>
   notK 1280043 x13 fun x14 =>
   condK 1280044 x14
   (
    .bad 1280045
   )
   (
    .ok (.val (.tup [x12, (.lit (.int .i64 (.ofNat 3)))])) T3 n3
   )
  )
 )
def g128_k1 (ro : List HT) (y0 y25 : AV) (T1 : HT) (n1 : Nat) : R :=
 condK 1280049 y25
 (
  g128_k2 ro y0 (.lit (.bool true)) T1 n1
 )
 (
  ixK 1280052 y0 (.lit (.int .i64 (.ofNat 0))) fun x15 =>
  eqK prog 5 (.tmp 28) (.const (.int .u8 (.ofNat 39))) 1280053 x15 (.lit (.int .u8 (.ofNat 39))) fun x16 =>
  g128_k2 ro y0 x16 T1 n1
 )
def g128 (ro : List HT) (a0 : AV) (T : HT) (nx : Nat) : R :=
 eqSK prog 9 (.tmp 7) (.const (.string ⟨⟨[]⟩⟩)) 1280004 a0 (.lit (.string ⟨⟨[]⟩⟩)) fun x1 =>
 condK 1280006 x1
 (
  .bad 1280007
 )
 (
  ixK 1280009 a0 (.lit (.int .i64 (.ofNat 0))) fun x2 =>
  eqK prog 5 (.tmp 11) (.const (.int .u8 (.ofNat 110))) 1280010 x2 (.lit (.int .u8 (.ofNat 110))) fun x3 =>
  condK 1280012 x3
  (
   .bad 1280013
  )
  (
   ixK 1280015 a0 (.lit (.int .i64 (.ofNat 0))) fun x4 =>
   eqK prog 5 (.tmp 15) (.const (.int .u8 (.ofNat 116))) 1280016 x4 (.lit (.int .u8 (.ofNat 116))) fun x5 =>
   condK 1280018 x5
   (
    .bad 1280019
   )
   (
    ixK 1280021 a0 (.lit (.int .i64 (.ofNat 0))) fun x6 =>
    eqK prog 5 (.tmp 19) (.const (.int .u8 (.ofNat 92))) 1280022 x6 (.lit (.int .u8 (.ofNat 92))) fun x7 =>
    condK 1280055 x7
    (
     g128_k1 ro a0 (.lit (.bool true)) T nx
    )
    (
     ixK 1280058 a0 (.lit (.int .i64 (.ofNat 0))) fun x17 =>
     eqK prog 5 (.tmp 23) (.const (.int .u8 (.ofNat 34))) 1280059 x17 (.lit (.int .u8 (.ofNat 34))) fun x18 =>
     g128_k1 ro a0 x18 T nx
    )
   )
  )
 )
theorem g128_ok (ro : List HT) (a0 : AV) (T : HT) (nx : Nat) : GOk prog envE 128 [a0] ro T nx (g128 ro a0 T nx) := by
 refine GOk.of_body func128 rfl ntmps128 (by kernel_rfl) rfl fun r T' n' h1 w0 base ρ0 its hS hP => ?_
 have X : CtxW envE ρ0 ro r T' n' := trivial
 unfold g128 at h1
 refine sr ?_
 iterate 2 refine as_ ?_
 refine dn (CV.seq (CV.block (sr ?_)))
 refine mv ?_
 refine vy (V.eqS h1 rfl rfl) fun x1 h2 => ?_
 refine as_ ?_
 refine dn ?_
 refine CV.cond h2 rfl (fun e h3 => ?_) (fun e h3 => ?_)
 ·
  subst e
  cases h3
 subst e
 refine sr ?_
 refine mv ?_
 refine vy (V.ix h3 rfl rfl st9) fun x2 h4 => ?_
 refine vy (V.eq h4 rfl rfl) fun x3 h5 => ?_
 refine as_ ?_
 refine dn ?_
 refine CV.cond h5 rfl (fun e h6 => ?_) (fun e h6 => ?_)
 ·
  subst e
  cases h6
 subst e
 refine sr ?_
 refine mv ?_
 refine vy (V.ix h6 rfl rfl st9) fun x4 h7 => ?_
 refine vy (V.eq h7 rfl rfl) fun x5 h8 => ?_
 refine as_ ?_
 refine dn ?_
 refine CV.cond h8 rfl (fun e h9 => ?_) (fun e h9 => ?_)
 ·
  subst e
  cases h9
 subst e
 refine sr ?_
 refine mv ?_
 refine vy (V.ix h9 rfl rfl st9) fun x6 h10 => ?_
 refine vy (V.eq h10 rfl rfl) fun x7 h11 => ?_
 refine mv ?_
 refine ls2 X 0 25 [(2, (.lit (.int .u8 (.ofNat 0)))), (3, (.lit (.int .i64 (.ofNat 0))))] (g128_k1 ro) 4 ?_ ?_
 ·
  rcases condK_inv h11 with ⟨e, h27⟩ | ⟨e, h27⟩
  ·
   subst e
   iterate 3 refine sk ?_
   refine pu ?_
   exact la2 hS h27 ⟨rfl, rfl, rfl, rfl, trivial⟩
  subst e
  refine mv ?_
  refine vy (V.ix h27 rfl rfl st9) fun x17 h28 => ?_
  refine vy (V.eq h28 rfl rfl) fun x18 h29 => ?_
  refine pu ?_
  exact la2 hS h29 ⟨rfl, rfl, rfl, rfl, trivial⟩
 intro y0 y25 T1 n1 ρ its hS h12
 unfold g128_k1 at h12
 refine mv ?_
 refine ls2 X 0 30 [(2, (.lit (.int .u8 (.ofNat 0)))), (3, (.lit (.int .i64 (.ofNat 0))))] (g128_k2 ro) 4 ?_ ?_
 ·
  rcases condK_inv h12 with ⟨e, h24⟩ | ⟨e, h24⟩
  ·
   subst e
   iterate 3 refine sk ?_
   refine pu ?_
   exact la2 hS h24 ⟨rfl, rfl, rfl, rfl, trivial⟩
  subst e
  refine mv ?_
  refine vy (V.ix h24 rfl rfl st9) fun x15 h25 => ?_
  refine vy (V.eq h25 rfl rfl) fun x16 h26 => ?_
  refine pu ?_
  exact la2 hS h26 ⟨rfl, rfl, rfl, rfl, trivial⟩
 intro y0 y30 T2 n2 ρ its hS h13
 unfold g128_k2 at h13
 refine as_ ?_
 refine dn ?_
 refine CV.cond h13 rfl (fun e h14 => ?_) (fun e h14 => ?_)
 ·
  subst e
  cases h14
 subst e
 refine sr ?_
 refine mv ?_
 refine vy (V.ix h14 rfl rfl st9) fun x8 h15 => ?_
 refine vy (V.ne h15 rfl rfl) fun x9 h16 => ?_
 refine as_ ?_
 refine dn ?_
 refine CV.cond h16 rfl (fun e h17 => ?_) (fun e h17 => ?_)
 ·
  subst e
  cases h17
 subst e
 refine CV.skip (PV.blockN (PV.thenN (sr ?_)))
 refine mv ?_
 refine vy (V.slLo (sliceF_ok h17) rfl rfl st9) fun x10 h18 => ?_
 refine LV.call hS h18 (g139_ok _ _ _ _ ) hP rfl rfl rfl rfl fun x11 T3 n3 h19 ρ its hS => ?_
 refine mv ?_
 refine vy (V.ex h19 rfl) fun x12 h20 => ?_
 refine vy (V.ex h20 rfl) fun x13 h21 => ?_
 iterate 2 refine as_ ?_
 refine dn (CV.seq (sr ?_))
 refine mv ?_
 refine vy (V.not h21 rfl) fun x14 h22 => ?_
 refine dn ?_
 refine CV.cond h22 rfl (fun e h23 => ?_) (fun e h23 => ?_)
 ·
  subst e
  cases h23
 subst e
 refine CV.skip (PV.thenN (sr ?_))
 refine mv ?_
 iterate 2 refine as_ ?_
 refine dn (CV.ret ?_)
 cases h23
 exact PV.ret (by simp) results128 hS (RS.tmp rfl (RS.tmp rfl RS.nil)) rfl

end
end Go.Proofs.YtljaoofbklkglaaGreatDoor.Vo
