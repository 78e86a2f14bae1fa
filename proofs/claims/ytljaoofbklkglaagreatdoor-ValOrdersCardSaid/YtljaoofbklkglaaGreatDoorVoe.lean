/-
  Proved here: plain functions that do what the program's functions do, each with its proof.
-/
import Derived.Test.YtljaoofbklkglaaGreatDoorVod
namespace Go.Proofs.YtljaoofbklkglaaGreatDoor.Vo
open Go.EY Go.EX Go.SX Go.RowKit
open Tryz Vof
noncomputable section
def g58_k2 (ro : List HT) (y0 y3 y4 y30 : AV) (T4 : HT) (n4 : Nat) : R :=
 .ok (.val y30) T4 n4
def g58_k4 (ro : List HT) (y4 y44 : AV) (T8 : HT) (n8 : Nat) : R :=
 .ok (.val y44) T8 n8
def g58_k3 (ro : List HT) (y0 y3 y4 y31 : AV) (T6 : HT) (n6 : Nat) : R :=
 condK 580021 y31
 (
  ldAK 580023 T6 ro y3 5 fun x10 =>
  callK (g83 ro y0 x10 T6 n6) fun x11 T7 n7 =>
  .ok (.val x11) T7 n7
 )
 (
  faK 580026 y3 3 fun x12 =>
  ldK 580027 T6 ro x12 fun x13 =>
  eqSK prog 9 (.tmp 38) (.const (.string ⟨⟨[]⟩⟩)) 580028 x13 (.lit (.string ⟨⟨[]⟩⟩)) fun x14 =>
  condK 580031 x14
  (
   ldAK 580033 T6 ro y3 5 fun x15 =>
   callK (g83 ro y0 x15 T6 n6) fun x16 T9 n9 =>
   g58_k4 ro y4 x16 T9 n9
  )
  (
   g58_k4 ro y4 (.lit (.bool false)) T6 n6
  )
 )
def g58_k1 (ro : List HT) (y0 y3 y4 y6 y7 : AV) (T2 : HT) (n2 : Nat) : R :=
 condK 580005 y7
 (
  .bad 580006
 )
 (
  eqK prog 3 (.tmp 6) (.const (.int .i64 (.ofNat 4))) 580007 y6 (.lit (.int .i64 (.ofNat 4))) fun x4 =>
  condK 580009 x4
  (
   faK 580010 y3 3 fun x5 =>
   ldK 580011 T2 ro x5 fun x6 =>
   callK (g84 ro x6 T2 n2) fun x7 T3 n3 =>
   condK 580015 x7
   (
    ldAK 580017 T3 ro y3 5 fun x8 =>
    callK (g83 ro y0 x8 T3 n3) fun x9 T5 n5 =>
    g58_k2 ro y0 y3 y4 x9 T5 n5
   )
   (
    g58_k2 ro y0 y3 y4 (.lit (.bool false)) T3 n3
   )
  )
  (
   eqK prog 3 (.tmp 6) (.const (.int .i64 (.ofNat 5))) 580037 y6 (.lit (.int .i64 (.ofNat 5))) fun x17 =>
   condK 580039 x17
   (
    g58_k3 ro y0 y3 y4 (.lit (.bool true)) T2 n2
   )
   (
    eqK prog 3 (.tmp 6) (.const (.int .i64 (.ofNat 42))) 580040 y6 (.lit (.int .i64 (.ofNat 42))) fun x18 =>
    g58_k3 ro y0 y3 y4 x18 T2 n2
   )
  )
 )
def g58 (ro : List HT) (a0 a1 : AV) (T : HT) (nx : Nat) : R :=
 boxK 580001 T nx a1 105 fun x1 T1 n1 =>
 faK 580003 x1 0 fun x2 =>
 ldK 580004 T1 ro x2 fun x3 =>
 eqK prog 3 (.tmp 6) (.const (.int .i64 (.ofNat 6))) 580042 x3 (.lit (.int .i64 (.ofNat 6))) fun x19 =>
 condK 580044 x19
 (
  g58_k1 ro a0 x1 (.lit (.bool false)) x3 (.lit (.bool true)) T1 n1
 )
 (
  eqK prog 3 (.tmp 6) (.const (.int .i64 (.ofNat 11))) 580045 x3 (.lit (.int .i64 (.ofNat 11))) fun x20 =>
  condK 580047 x20
  (
   g58_k1 ro a0 x1 (.lit (.bool false)) x3 (.lit (.bool true)) T1 n1
  )
  (
   eqK prog 3 (.tmp 6) (.const (.int .i64 (.ofNat 12))) 580048 x3 (.lit (.int .i64 (.ofNat 12))) fun x21 =>
   condK 580050 x21
   (
    g58_k1 ro a0 x1 (.lit (.bool false)) x3 (.lit (.bool true)) T1 n1
   )
   (
    eqK prog 3 (.tmp 6) (.const (.int .i64 (.ofNat 45))) 580051 x3 (.lit (.int .i64 (.ofNat 45))) fun x22 =>
    condK 580053 x22
    (
     g58_k1 ro a0 x1 (.lit (.bool false)) x3 (.lit (.bool true)) T1 n1
    )
    (
     eqK prog 3 (.tmp 6) (.const (.int .i64 (.ofNat 46))) 580054 x3 (.lit (.int .i64 (.ofNat 46))) fun x23 =>
     g58_k1 ro a0 x1 (.lit (.bool false)) x3 x23 T1 n1
    )
   )
  )
 )
theorem g58_ok (ro : List HT) (a0 a1 : AV) (T : HT) (nx : Nat) : GOk prog envE 58 [a0, a1] ro T nx (g58 ro a0 a1 T nx) := by
 refine GOk.of_body func58 rfl ntmps58 (by kernel_rfl) rfl fun r T' n' h1 w0 base ρ0 its hS hP => ?_
 have X : CtxW envE ρ0 ro r T' n' := trivial
 unfold g58 at h1
 refine sr ?_
 refine LV.box hS h1 rfl rfl rfl rfl rfl fun x1 T1 n1 h2 ρ its hS hdr => ?_
 refine as_ ?_
 refine dn (CV.seq (sr ?_))
 refine vy (V.fa h2 rfl fo105_0) fun x2 h3 => ?_
 refine vy (V.ld hS h3 rfl one3) fun x3 h4 => ?_
 refine dn (CV.block ?_)
 refine cs5 X 0 3 4 6 7 [] (g58_k1 ro) ?_ ?_
 ·
  refine sr ?_
  refine vy (V.eq h4 rfl rfl) fun x19 h30 => ?_
  refine as_ ?_
  refine dn ?_
  refine CV.cond h30 rfl (fun e h31 => ?_) (fun e h31 => ?_)
  ·
   subst e
   refine CV.skip ?_
   exact pa5 hS h31 ⟨rfl, rfl, rfl, rfl, rfl, trivial⟩
  subst e
  refine sr ?_
  refine vy (V.eq h31 rfl rfl) fun x20 h32 => ?_
  refine as_ ?_
  refine dn ?_
  refine CV.cond h32 rfl (fun e h33 => ?_) (fun e h33 => ?_)
  ·
   subst e
   refine CV.skip ?_
   exact pa5 hS h33 ⟨rfl, rfl, rfl, rfl, rfl, trivial⟩
  subst e
  refine sr ?_
  refine vy (V.eq h33 rfl rfl) fun x21 h34 => ?_
  refine as_ ?_
  refine dn ?_
  refine CV.cond h34 rfl (fun e h35 => ?_) (fun e h35 => ?_)
  ·
   subst e
   refine CV.skip ?_
   exact pa5 hS h35 ⟨rfl, rfl, rfl, rfl, rfl, trivial⟩
  subst e
  refine sr ?_
  refine vy (V.eq h35 rfl rfl) fun x22 h36 => ?_
  refine as_ ?_
  refine dn ?_
  refine CV.cond h36 rfl (fun e h37 => ?_) (fun e h37 => ?_)
  ·
   subst e
   refine CV.skip ?_
   exact pa5 hS h37 ⟨rfl, rfl, rfl, rfl, rfl, trivial⟩
  subst e
  refine CV.region ?_
  refine vy (V.eq h37 rfl rfl) fun x23 h38 => ?_
  refine as_ ?_
  refine LV.done ?_
  exact pa5 hS h38 ⟨rfl, rfl, rfl, rfl, rfl, trivial⟩
 intro y0 y3 y4 y6 y7 T2 n2 ρ its hS h5
 unfold g58_k1 at h5
 refine CV.cond h5 rfl (fun e h6 => ?_) (fun e h6 => ?_)
 ·
  subst e
  cases h6
 subst e
 refine sr ?_
 refine vy (V.eq h6 rfl rfl) fun x4 h7 => ?_
 refine as_ ?_
 refine dn ?_
 refine CV.cond h7 rfl (fun e h8 => ?_) (fun e h8 => ?_)
 ·
  subst e
  refine sr ?_
  refine vy (V.fa h8 rfl fo105_3) fun x5 h9 => ?_
  refine vy (V.ld hS h9 rfl one9) fun x6 h10 => ?_
  refine LV.call hS h10 (g84_ok _ _ _ _ ) hP rfl rfl rfl rfl fun x7 T3 n3 h11 ρ its hS => ?_
  refine mv ?_
  refine ls4 X 0 3 4 30 [] (g58_k2 ro) 4 ?_ ?_
  ·
   rcases condK_inv h11 with ⟨e, h13⟩ | ⟨e, h13⟩
   ·
    subst e
    refine mv ?_
    refine vy (V.ldA hS h13 rfl agg105) fun x8 h14 => ?_
    refine LV.call hS h14 (g83_ok _ _ _ _ _ ) hP rfl rfl rfl rfl fun x9 T5 n5 h15 ρ its hS => ?_
    refine pu ?_
    exact la4 hS h15 ⟨rfl, rfl, rfl, rfl, trivial⟩
   subst e
   iterate 3 refine sk ?_
   refine pu ?_
   exact la4 hS h13 ⟨rfl, rfl, rfl, rfl, trivial⟩
  intro y0 y3 y4 y30 T4 n4 ρ its hS h12
  unfold g58_k2 at h12
  refine as_ ?_
  refine dn (CV.ret (PV.blockR (PV.thenR ?_)))
  cases h12
  exact PV.ret (by simp) results58 hS (RS.tmp rfl RS.nil) rfl
 subst e
 refine cs4 X 0 3 4 31 [] (g58_k3 ro) ?_ ?_
 ·
  refine sr ?_
  refine vy (V.eq h8 rfl rfl) fun x17 h27 => ?_
  refine as_ ?_
  refine dn ?_
  refine CV.cond h27 rfl (fun e h28 => ?_) (fun e h28 => ?_)
  ·
   subst e
   refine CV.skip ?_
   exact pa4 hS h28 ⟨rfl, rfl, rfl, rfl, trivial⟩
  subst e
  refine CV.region ?_
  refine vy (V.eq h28 rfl rfl) fun x18 h29 => ?_
  refine as_ ?_
  refine LV.done ?_
  exact pa4 hS h29 ⟨rfl, rfl, rfl, rfl, trivial⟩
 intro y0 y3 y4 y31 T6 n6 ρ its hS h16
 unfold g58_k3 at h16
 refine CV.cond h16 rfl (fun e h17 => ?_) (fun e h17 => ?_)
 ·
  subst e
  refine sr ?_
  refine mv ?_
  refine vy (V.ldA hS h17 rfl agg105) fun x10 h18 => ?_
  refine LV.call hS h18 (g83_ok _ _ _ _ _ ) hP rfl rfl rfl rfl fun x11 T7 n7 h19 ρ its hS => ?_
  refine as_ ?_
  refine dn (CV.ret (PV.blockR (PV.thenR ?_)))
  cases h19
  exact PV.ret (by simp) results58 hS (RS.tmp rfl RS.nil) rfl
 subst e
 refine CV.skip (PV.blockN (PV.thenN (sr ?_)))
 refine vy (V.fa h17 rfl fo105_3) fun x12 h20 => ?_
 refine vy (V.ld hS h20 rfl one9) fun x13 h21 => ?_
 refine vy (V.eqS h21 rfl rfl) fun x14 h22 => ?_
 refine mv ?_
 refine ls2 X 4 44 [] (g58_k4 ro) 4 ?_ ?_
 ·
  rcases condK_inv h22 with ⟨e, h24⟩ | ⟨e, h24⟩
  ·
   subst e
   refine mv ?_
   refine vy (V.ldA hS h24 rfl agg105) fun x15 h25 => ?_
   refine LV.call hS h25 (g83_ok _ _ _ _ _ ) hP rfl rfl rfl rfl fun x16 T9 n9 h26 ρ its hS => ?_
   refine pu ?_
   exact la2 hS h26 ⟨rfl, rfl, trivial⟩
  subst e
  iterate 3 refine sk ?_
  refine pu ?_
  exact la2 hS h24 ⟨rfl, rfl, trivial⟩
 intro y4 y44 T8 n8 ρ its hS h23
 unfold g58_k4 at h23
 refine as_ ?_
 refine dn (CV.ret ?_)
 cases h23
 exact PV.ret (by simp) results58 hS (RS.tmp rfl RS.nil) rfl
def g85_b1 (ro : List HT) (lp1 : AV → AV → AV → AV → AV → HT → Nat → R) (y0 y1 y4 y7 y8 : AV) (T1 : HT) (n1 : Nat) : R :=
 ltK prog 3 (.tmp 8) (.tmp 7) 850006 y8 y7 fun x2 =>
 condK 850007 x2
 (
  iaK 850013 y0 y8 1 fun x3 =>
  ldK 850014 T1 ro x3 fun x4 =>
  bin0 prog .eql 4 (.tmp 11) (.tmp 15) 850015 y1 x4 fun x5 =>
  condK 850016 x5
  (
   .ok (.val y8) T1 n1
  )
  (
   addK prog 3 (.tmp 8) (.const (.int .i64 (.ofNat 1))) 850019 y8 (.lit (.int .i64 (.ofNat 1))) fun x6 =>
   lp1 y0 y1 y4 y7 x6 T1 n1
  )
 )
 (
  .ok (.val (.lit (.int .i64 (.negSucc 0)))) T1 n1
 )
def g85 (ro : List HT) (a0 a1 : AV) (T : HT) (nx : Nat) : R :=
 lenSK 850003 a0 fun x1 =>
 lpf5 850005 (g85_b1 ro) 100000 a0 a1 (.lit (.int .i64 (.ofNat 0))) x1 (.lit (.int .i64 (.ofNat 0))) T nx
theorem g85_ok (ro : List HT) (a0 a1 : AV) (T : HT) (nx : Nat) : GOk prog envE 85 [a0, a1] ro T nx (g85 ro a0 a1 T nx) := by
 refine GOk.of_body func85 rfl ntmps85 (by kernel_rfl) rfl fun r T' n' h1 w0 base ρ0 its hS hP => ?_
 have X : CtxW envE ρ0 ro r T' n' := trivial
 unfold g85 at h1
 refine sr ?_
 refine as_ ?_
 refine dn (CV.seq (sr ?_))
 refine mv ?_
 refine vy (V.lenS h1 rfl ls146) fun x1 h2 => ?_
 refine mv ?_
 refine dn (CV.block ?_)
 refine cl5 X 0 1 4 7 8 [] hS h2 ⟨rfl, rfl, rfl, rfl, rfl, trivial⟩ ?_
 intro f1 y0 y1 y4 y7 y8 T1 n1 ρ its hS h3
 unfold g85_b1 at h3
 refine sr ?_
 refine vy (V.lt h3 rfl rfl) fun x2 h4 => ?_
 refine dn (CV.seq ?_)
 refine CV.cond h4 rfl (fun e h5 => ?_) (fun e h5 => ?_)
 ·
  subst e
  refine CV.skip (PV.thenN (CV.seq (CV.block (sr ?_))))
  refine mv ?_
  refine as_ ?_
  refine dn (sr ?_)
  iterate 3 refine mv ?_
  refine vy (V.ia h5 rfl rfl el146) fun x3 h6 => ?_
  refine vy (V.ld hS h6 rfl one4) fun x4 h7 => ?_
  refine vy (V.bin0 h7 rfl rfl) fun x5 h8 => ?_
  refine dn ?_
  refine CV.cond h8 rfl (fun e h9 => ?_) (fun e h9 => ?_)
  ·
   subst e
   refine sr ?_
   refine mv ?_
   refine as_ ?_
   refine dn (CV.ret (PV.blockR (PV.thenR (PV.thenR (PV.blockR (PV.thenR ?_))))))
   cases h9
   exact PV.ret (by simp) results85 hS (RS.tmp rfl RS.nil) rfl
  subst e
  refine CV.skip (PV.blockN (PV.thenN (CV.region ?_)))
  refine vy (V.add h9 rfl rfl) fun x6 h10 => ?_
  refine mv ?_
  refine LV.done ?_
  exact pb5 hS h10 ⟨rfl, rfl, rfl, rfl, rfl, trivial⟩
 subst e
 refine CV.exit (PV.thenE (PV.thenE (PV.blockE (PV.thenN (sr ?_)))))
 refine as_ ?_
 refine dn (CV.ret ?_)
 cases h5
 exact PV.ret (by simp) results85 hS (RS.tmp rfl RS.nil) rfl
def g59 (ro : List HT) (a0 a1 : AV) (T : HT) (nx : Nat) : R :=
 callK (g85 ro a0 a1 T nx) fun x1 T1 n1 =>
 geK prog 3 (.tmp 7) (.const (.int .i64 (.ofNat 0))) 590005 x1 (.lit (.int .i64 (.ofNat 0))) fun x2 =>
 .ok (.val x2) T1 n1
theorem g59_ok (ro : List HT) (a0 a1 : AV) (T : HT) (nx : Nat) : GOk prog envE 59 [a0, a1] ro T nx (g59 ro a0 a1 T nx) := by
 refine GOk.of_body func59 rfl ntmps59 (by kernel_rfl) rfl fun r T' n' h1 w0 base ρ0 its hS hP => ?_
 have X : CtxW envE ρ0 ro r T' n' := trivial
 unfold g59 at h1
 refine sr ?_
 refine as_ ?_
 refine dn (sr ?_)
 iterate 2 refine mv ?_
 refine LV.call hS h1 (g85_ok _ _ _ _ _ ) hP rfl rfl rfl rfl fun x1 T1 n1 h2 ρ its hS => ?_
 refine vy (V.ge h2 rfl rfl) fun x2 h3 => ?_
 refine as_ ?_
 refine dn (CV.ret ?_)
 cases h3
 exact PV.ret (by simp) results59 hS (RS.tmp rfl RS.nil) rfl
def g60_k1 (ih : FuncId → List HT → List AV → HT → Nat → R) (ro : List HT) (y10 : AV) (T3 : HT) (n3 : Nat) : R :=
 .ok (.val (.lit (.bool true))) T3 n3
def g60_k6 (ih : FuncId → List HT → List AV → HT → Nat → R) (ro : List HT) (lp4 : AV → AV → AV → AV → AV → AV → AV → AV → AV → AV → HT → Nat → R) (y0 y1 y2 y3 y4 y10 y11 y39 y40 y41 y56 y57 y58 y59 y65 : AV) (T8 : HT) (n8 : Nat) : R :=
 callK (ih 60 ro [y56, y57, y58, y59, y65] T8 n8) fun x15 T9 n9 =>
 notK 600043 x15 fun x16 =>
 condK 600044 x16
 (
  .bad 600045
 )
 (
  addK prog 3 (.tmp 41) (.const (.int .i64 (.ofNat 1))) 600046 y41 (.lit (.int .i64 (.ofNat 1))) fun x17 =>
  lp4 y0 y1 y2 y3 y4 y10 y11 y39 y40 x17 T9 n9
 )
def g60_k5 (ih : FuncId → List HT → List AV → HT → Nat → R) (ro : List HT) (lp4 : AV → AV → AV → AV → AV → AV → AV → AV → AV → AV → HT → Nat → R) (y0 y1 y2 y3 y4 y10 y11 y13 y39 y40 y41 y55 : AV) (T7 : HT) (n7 : Nat) : R :=
 condK 600048 y4
 (
  g60_k6 ih ro lp4 y0 y1 y2 y3 (.lit (.bool true)) y10 y11 y39 y40 y41 y0 y13 y55 y3 (.lit (.bool true)) T7 n7
 )
 (
  faK 600050 y11 0 fun x18 =>
  ldK 600051 T7 ro x18 fun x19 =>
  eqK prog 3 (.tmp 63) (.const (.int .i64 (.ofNat 44))) 600052 x19 (.lit (.int .i64 (.ofNat 44))) fun x20 =>
  g60_k6 ih ro lp4 y0 y1 y2 y3 (.lit (.bool false)) y10 y11 y39 y40 y41 y0 y13 y55 y3 x20 T7 n7
 )
def g60_b4 (ih : FuncId → List HT → List AV → HT → Nat → R) (ro : List HT) (lp4 : AV → AV → AV → AV → AV → AV → AV → AV → AV → AV → HT → Nat → R) (y0 y1 y2 y3 y4 y10 y11 y39 y40 y41 : AV) (T6 : HT) (n6 : Nat) : R :=
 ltK prog 3 (.tmp 41) (.tmp 40) 600028 y41 y40 fun x12 =>
 condK 600029 x12
 (
  iaK 600030 y39 y41 1 fun x13 =>
  ldK 600031 T6 ro x13 fun x14 =>
  condK 600054 y2
  (
   ncK 600057 y0 fun x21 =>
   faK 600058 x21 0 fun x22 =>
   ldK 600059 T6 ro x22 fun x23 =>
   lenSK 600060 x23 fun x24 =>
   subK prog 3 (.tmp 52) (.const (.int .i64 (.ofNat 1))) 600061 x24 (.lit (.int .i64 (.ofNat 1))) fun x25 =>
   eqK prog 3 (.tmp 47) (.tmp 53) 600062 y1 x25 fun x26 =>
   g60_k5 ih ro lp4 y0 y1 (.lit (.bool true)) y3 y4 y10 y11 x14 y39 y40 y41 x26 T6 n6
  )
  (
   g60_k5 ih ro lp4 y0 y1 (.lit (.bool false)) y3 y4 y10 y11 x14 y39 y40 y41 (.lit (.bool false)) T6 n6
  )
 )
 (
  g60_k1 ih ro y10 T6 n6
 )
def g60_k3 (ih : FuncId → List HT → List AV → HT → Nat → R) (ro : List HT) (y0 y1 y2 y3 y4 y10 y11 y23 y34 : AV) (T5 : HT) (n5 : Nat) : R :=
 condK 600022 y34
 (
  faK 600023 y11 4 fun x9 =>
  ldK 600024 T5 ro x9 fun x10 =>
  lenSK 600025 x10 fun x11 =>
  lpf10 600027 (g60_b4 ih ro) 100000 y0 y1 y2 y3 y4 y10 y11 x10 x11 (.lit (.int .i64 (.ofNat 0))) T5 n5
 )
 (
  eqK prog 3 (.tmp 23) (.const (.int .i64 (.ofNat 45))) 600065 y23 (.lit (.int .i64 (.ofNat 45))) fun x27 =>
  condK 600067 x27
  (
   .bad 600068
  )
  (
   g60_k1 ih ro y10 T5 n5
  )
 )
def g60_k2 (ih : FuncId → List HT → List AV → HT → Nat → R) (ro : List HT) (y0 y1 y2 y3 y4 y10 y11 y23 y24 : AV) (T4 : HT) (n4 : Nat) : R :=
 condK 600012 y24
 (
  .bad 600013
 )
 (
  eqK prog 3 (.tmp 23) (.const (.int .i64 (.ofNat 41))) 600014 y23 (.lit (.int .i64 (.ofNat 41))) fun x7 =>
  condK 600016 x7
  (
   .bad 600017
  )
  (
   eqK prog 3 (.tmp 23) (.const (.int .i64 (.ofNat 42))) 600018 y23 (.lit (.int .i64 (.ofNat 42))) fun x8 =>
   condK 600020 x8
   (
    .bad 600021
   )
   (
    eqK prog 3 (.tmp 23) (.const (.int .i64 (.ofNat 47))) 600069 y23 (.lit (.int .i64 (.ofNat 47))) fun x28 =>
    condK 600071 x28
    (
     g60_k3 ih ro y0 y1 y2 y3 y4 y10 y11 y23 (.lit (.bool true)) T4 n4
    )
    (
     eqK prog 3 (.tmp 23) (.const (.int .i64 (.ofNat 43))) 600072 y23 (.lit (.int .i64 (.ofNat 43))) fun x29 =>
     condK 600074 x29
     (
      g60_k3 ih ro y0 y1 y2 y3 y4 y10 y11 y23 (.lit (.bool true)) T4 n4
     )
     (
      eqK prog 3 (.tmp 23) (.const (.int .i64 (.ofNat 44))) 600075 y23 (.lit (.int .i64 (.ofNat 44))) fun x30 =>
      g60_k3 ih ro y0 y1 y2 y3 y4 y10 y11 y23 x30 T4 n4
     )
    )
   )
  )
 )
def g60 (ih : FuncId → List HT → List AV → HT → Nat → R) (ro : List HT) (a0 a1 a2 a3 a4 : AV) (T : HT) (nx : Nat) : R :=
 fldK 600003 T ro a0 0 fun x1 =>
 iaK 600005 x1 a1 5 fun x2 =>
 ldAK 600006 T ro x2 5 fun x3 =>
 newK T nx (.obj [.lit (.int .i64 0), .lit (.int .i64 0), .lit (.int .i64 0), .lit (.string ⟨#[]⟩), .lit (.slice none 0 0)] 105) fun x4 T1 n1 =>
 stAK 600008 T1 x4 x3 5 fun T2 =>
 faK 600010 x4 0 fun x5 =>
 ldK 600011 T2 ro x5 fun x6 =>
 eqK prog 3 (.tmp 23) (.const (.int .i64 (.ofNat 39))) 600077 x6 (.lit (.int .i64 (.ofNat 39))) fun x31 =>
 condK 600079 x31
 (
  g60_k2 ih ro a0 a1 a2 a3 a4 (.lit (.bool false)) x4 x6 (.lit (.bool true)) T2 n1
 )
 (
  eqK prog 3 (.tmp 23) (.const (.int .i64 (.ofNat 40))) 600080 x6 (.lit (.int .i64 (.ofNat 40))) fun x32 =>
  g60_k2 ih ro a0 a1 a2 a3 a4 (.lit (.bool false)) x4 x6 x32 T2 n1
 )
theorem g60_ok (ih : FuncId → List HT → List AV → HT → Nat → R) (hI : ∀ f ro args T nx, GOk prog envE f args ro T nx (ih f ro args T nx)) (ro : List HT) (a0 a1 a2 a3 a4 : AV) (T : HT) (nx : Nat) : GOk prog envE 60 [a0, a1, a2, a3, a4] ro T nx (g60 ih ro a0 a1 a2 a3 a4 T nx) := by
 refine GOk.of_body func60 rfl ntmps60 (by kernel_rfl) rfl fun r T' n' h1 w0 base ρ0 its hS hP => ?_
 have X : CtxW envE ρ0 ro r T' n' := trivial
 unfold g60 at h1
 refine sr ?_
 refine as_ ?_
 refine dn (sr ?_)
 refine mv ?_
 refine fl hS h1 fo148_0 one50 fun x1 h2 => ?_
 refine mv ?_
 refine vy (V.ia h2 rfl rfl el50) fun x2 h3 => ?_
 refine vy (V.ldA hS h3 rfl agg105) fun x3 h4 => ?_
 refine LV.alloc hS h4 rfl zr105 rfl rfl rfl fun x4 T1 n1 h5 ρ its hS hdr => ?_
 refine LV.stA hS h5 rfl rfl rfl agg105 rfl rfl rfl fun T2 its h6 hS => ?_
 refine dn ?_
 refine cs1 X 10 [] (g60_k1 ih ro) ?_ ?_
 ·
  refine sr ?_
  refine vy (V.fa h6 rfl fo105_0) fun x5 h8 => ?_
  refine vy (V.ld hS h8 rfl one3) fun x6 h9 => ?_
  refine dn (CV.block ?_)
  refine cs9 X 0 1 2 3 4 10 11 23 24 [] (g60_k2 ih ro) ?_ ?_
  ·
   refine sr ?_
   refine vy (V.eq h9 rfl rfl) fun x31 h50 => ?_
   refine as_ ?_
   refine dn ?_
   refine CV.cond h50 rfl (fun e h51 => ?_) (fun e h51 => ?_)
   ·
    subst e
    refine CV.skip ?_
    exact pa9 hS h51 ⟨rfl, rfl, rfl, rfl, rfl, rfl, rfl, rfl, rfl, trivial⟩
   subst e
   refine CV.region ?_
   refine vy (V.eq h51 rfl rfl) fun x32 h52 => ?_
   refine as_ ?_
   refine LV.done ?_
   exact pa9 hS h52 ⟨rfl, rfl, rfl, rfl, rfl, rfl, rfl, rfl, rfl, trivial⟩
  intro y0 y1 y2 y3 y4 y10 y11 y23 y24 T4 n4 ρ its hS h10
  unfold g60_k2 at h10
  refine CV.cond h10 rfl (fun e h11 => ?_) (fun e h11 => ?_)
  ·
   subst e
   cases h11
  subst e
  refine sr ?_
  refine vy (V.eq h11 rfl rfl) fun x7 h12 => ?_
  refine as_ ?_
  refine dn ?_
  refine CV.cond h12 rfl (fun e h13 => ?_) (fun e h13 => ?_)
  ·
   subst e
   cases h13
  subst e
  refine sr ?_
  refine vy (V.eq h13 rfl rfl) fun x8 h14 => ?_
  refine as_ ?_
  refine dn ?_
  refine CV.cond h14 rfl (fun e h15 => ?_) (fun e h15 => ?_)
  ·
   subst e
   cases h15
  subst e
  refine cs9 X 0 1 2 3 4 10 11 23 34 [] (g60_k3 ih ro) ?_ ?_
  ·
   refine sr ?_
   refine vy (V.eq h15 rfl rfl) fun x28 h45 => ?_
   refine as_ ?_
   refine dn ?_
   refine CV.cond h45 rfl (fun e h46 => ?_) (fun e h46 => ?_)
   ·
    subst e
    refine CV.skip ?_
    exact pa9 hS h46 ⟨rfl, rfl, rfl, rfl, rfl, rfl, rfl, rfl, rfl, trivial⟩
   subst e
   refine sr ?_
   refine vy (V.eq h46 rfl rfl) fun x29 h47 => ?_
   refine as_ ?_
   refine dn ?_
   refine CV.cond h47 rfl (fun e h48 => ?_) (fun e h48 => ?_)
   ·
    subst e
    refine CV.skip ?_
    exact pa9 hS h48 ⟨rfl, rfl, rfl, rfl, rfl, rfl, rfl, rfl, rfl, trivial⟩
   subst e
   refine CV.region ?_
   refine vy (V.eq h48 rfl rfl) fun x30 h49 => ?_
   refine as_ ?_
   refine LV.done ?_
   exact pa9 hS h49 ⟨rfl, rfl, rfl, rfl, rfl, rfl, rfl, rfl, rfl, trivial⟩
  intro y0 y1 y2 y3 y4 y10 y11 y23 y34 T5 n5 ρ its hS h16
  unfold g60_k3 at h16
  refine CV.cond h16 rfl (fun e h17 => ?_) (fun e h17 => ?_)
  ·
   subst e
   refine sr ?_
   refine vy (V.fa h17 rfl fo105_4) fun x9 h18 => ?_
   refine vy (V.ld hS h18 rfl one22) fun x10 h19 => ?_
   refine vy (V.lenS h19 rfl ls22) fun x11 h20 => ?_
   refine mv ?_
   refine dn (CV.block ?_)
   refine cl10 X 0 1 2 3 4 10 11 39 40 41 [] hS h20 ⟨rfl, rfl, rfl, rfl, rfl, rfl, rfl, rfl, rfl, rfl, trivial⟩ ?_
   intro f4 y0 y1 y2 y3 y4 y10 y11 y39 y40 y41 T6 n6 ρ its hS h21
   unfold g60_b4 at h21
   refine sr ?_
   refine vy (V.lt h21 rfl rfl) fun x12 h22 => ?_
   refine dn (CV.seq ?_)
   refine CV.cond h22 rfl (fun e h23 => ?_) (fun e h23 => ?_)
   ·
    subst e
    refine CV.skip (PV.thenN (CV.seq (CV.block (sr ?_))))
    refine vy (V.ia h23 rfl rfl el22) fun x13 h24 => ?_
    refine vy (V.ld hS h24 rfl one3) fun x14 h25 => ?_
    refine as_ ?_
    refine dn (sr ?_)
    iterate 2 refine mv ?_
    refine ls12 X 0 1 2 3 4 10 11 13 39 40 41 55 [] (g60_k5 ih ro (lpf10 600027 (g60_b4 ih ro) f4)) 9 ?_ ?_
    ·
     rcases condK_inv h25 with ⟨e, h36⟩ | ⟨e, h36⟩
     ·
      subst e
      iterate 2 refine mv ?_
      refine vy (V.nc h36 rfl) fun x21 h37 => ?_
      refine vy (V.fa h37 rfl fo148_0) fun x22 h38 => ?_
      refine vy (V.ld hS h38 rfl one50) fun x23 h39 => ?_
      refine vy (V.lenS h39 rfl ls50) fun x24 h40 => ?_
      refine vy (V.sub h40 rfl rfl) fun x25 h41 => ?_
      refine vy (V.eq h41 rfl rfl) fun x26 h42 => ?_
      refine pu ?_
      exact la12 hS h42 ⟨rfl, rfl, rfl, rfl, rfl, rfl, rfl, rfl, rfl, rfl, rfl, rfl, trivial⟩
     subst e
     iterate 8 refine sk ?_
     refine pu ?_
     exact la12 hS h36 ⟨rfl, rfl, rfl, rfl, rfl, rfl, rfl, rfl, rfl, rfl, rfl, rfl, trivial⟩
    intro y0 y1 y2 y3 y4 y10 y11 y13 y39 y40 y41 y55 T7 n7 ρ its hS h26
    unfold g60_k5 at h26
    refine as_ ?_
    refine dn (sr ?_)
    iterate 6 refine mv ?_
    refine ls15 X 0 1 2 3 4 10 11 39 40 41 56 57 58 59 65 [] (g60_k6 ih ro (lpf10 600027 (g60_b4 ih ro) f4)) 4 ?_ ?_
    ·
     rcases condK_inv h26 with ⟨e, h32⟩ | ⟨e, h32⟩
     ·
      subst e
      iterate 3 refine sk ?_
      refine pu ?_
      exact la15 hS h32 ⟨rfl, rfl, rfl, rfl, rfl, rfl, rfl, rfl, rfl, rfl, rfl, rfl, rfl, rfl, rfl, trivial⟩
     subst e
     refine vy (V.fa h32 rfl fo105_0) fun x18 h33 => ?_
     refine vy (V.ld hS h33 rfl one3) fun x19 h34 => ?_
     refine vy (V.eq h34 rfl rfl) fun x20 h35 => ?_
     refine pu ?_
     exact la15 hS h35 ⟨rfl, rfl, rfl, rfl, rfl, rfl, rfl, rfl, rfl, rfl, rfl, rfl, rfl, rfl, rfl, trivial⟩
    intro y0 y1 y2 y3 y4 y10 y11 y39 y40 y41 y56 y57 y58 y59 y65 T8 n8 ρ its hS h27
    unfold g60_k6 at h27
    refine LV.call hS h27 (hI _ _ _ _ _) hP rfl rfl rfl rfl fun x15 T9 n9 h28 ρ its hS => ?_
    refine vy (V.not h28 rfl) fun x16 h29 => ?_
    refine dn ?_
    refine CV.cond h29 rfl (fun e h30 => ?_) (fun e h30 => ?_)
    ·
     subst e
     cases h30
    subst e
    refine CV.skip (PV.blockN (PV.thenN (CV.region ?_)))
    refine vy (V.add h30 rfl rfl) fun x17 h31 => ?_
    refine mv ?_
    refine LV.done ?_
    exact pb10 hS h31 ⟨rfl, rfl, rfl, rfl, rfl, rfl, rfl, rfl, rfl, rfl, trivial⟩
   subst e
   refine CV.exit (PV.thenE (PV.thenE (PV.blockE (PV.blockN ?_))))
   exact pa1 hS h23 ⟨rfl, trivial⟩
  subst e
  refine sr ?_
  refine vy (V.eq h17 rfl rfl) fun x27 h43 => ?_
  refine as_ ?_
  refine dn ?_
  refine CV.cond h43 rfl (fun e h44 => ?_) (fun e h44 => ?_)
  ·
   subst e
   cases h44
  subst e
  refine CV.skip (PV.blockN ?_)
  exact pa1 hS h44 ⟨rfl, trivial⟩
 intro y10 T3 n3 ρ its hS h7
 unfold g60_k1 at h7
 refine sr ?_
 refine as_ ?_
 refine dn (CV.ret ?_)
 cases h7
 exact PV.ret (by simp) results60 hS (RS.tmp rfl RS.nil) rfl
def ap4 (ih : FuncId → List HT → List AV → HT → Nat → R) (f : FuncId) (ro : List HT) (args : List AV) (T : HT) (nx : Nat) : R :=
  Bool.rec (motive := fun _ => R) (.bad 2) (List.rec (motive := fun _ => R) (.bad 1) (fun a0 l0 _ => List.rec (motive := fun _ => R) (.bad 1) (fun a1 l1 _ => List.rec (motive := fun _ => R) (.bad 1) (fun a2 l2 _ => List.rec (motive := fun _ => R) (.bad 1) (fun a3 l3 _ => List.rec (motive := fun _ => R) (.bad 1) (fun a4 l4 _ => List.rec (motive := fun _ => R) (g60 ih ro a0 a1 a2 a3 a4 T nx) (fun _ _ _ => .bad 1) l4) l3) l2) l1) l0) args) (Nat.beq f 60)
def scc4 (fuel : Nat) : FuncId → List HT → List AV → HT → Nat → R :=
  Nat.rec (motive := fun _ => FuncId → List HT → List AV → HT → Nat → R) (fun _ _ _ _ _ => .bad 3) (fun _ ih => ap4 ih) fuel
theorem ap4_ok (ih : FuncId → List HT → List AV → HT → Nat → R) (hI : ∀ f ro args T nx, GOk prog envE f args ro T nx (ih f ro args T nx)) (f : FuncId) (ro : List HT) (args : List AV) (T : HT) (nx : Nat) : GOk prog envE f args ro T nx (ap4 ih f ro args T nx) := by
  unfold ap4
  refine recb_go (fun hb => ?_) (fun _ => ?_)
  · obtain rfl := beqT hb
    rcases args with _ | ⟨a0, l0⟩
    · exact GOk.bad
    rcases l0 with _ | ⟨a1, l1⟩
    · exact GOk.bad
    rcases l1 with _ | ⟨a2, l2⟩
    · exact GOk.bad
    rcases l2 with _ | ⟨a3, l3⟩
    · exact GOk.bad
    rcases l3 with _ | ⟨a4, l4⟩
    · exact GOk.bad
    rcases l4 with _ | ⟨_, _⟩
    · exact g60_ok _ hI _ _ _ _ _ _ _ _ 
    · exact GOk.bad
  · exact GOk.bad
theorem scc4_ok : ∀ (fuel : Nat) (f : FuncId) (ro : List HT) (args : List AV) (T : HT) (nx : Nat), GOk prog envE f args ro T nx (scc4 fuel f ro args T nx)
  | 0, _, _, _, _, _ => GOk.bad
  | fuel + 1, f, ro, args, T, nx => ap4_ok (scc4 fuel) (scc4_ok fuel) f ro args T nx
def g38_k2 (ro : List HT) (lp1 : AV → AV → AV → AV → AV → AV → HT → Nat → R) (y0 y2 y3 y17 y18 y19 y43 : AV) (T6 : HT) (n6 : Nat) : R :=
 condK 380026 y43
 (
  .bad 380027
 )
 (
  addK prog 3 (.tmp 19) (.const (.int .i64 (.ofNat 1))) 380028 y19 (.lit (.int .i64 (.ofNat 1))) fun x12 =>
  lp1 y0 y2 y3 y17 y18 x12 T6 n6
 )
def g38_k5 (ro : List HT) (y2 y77 : AV) (T11 : HT) (n11 : Nat) : R :=
 condK 380066 y77
 (
  .bad 380067
 )
 (
  .ok (.val (.lit (.nilIface))) T11 n11
 )
def g38_k4 (ro : List HT) (y2 y3 y6 y71 : AV) (T10 : HT) (n10 : Nat) : R :=
 condK 380069 y71
 (
  g38_k5 ro y2 (.lit (.bool true)) T10 n10
 )
 (
  callK (scc4 4000 60 ro [y3, y6, (.lit (.bool true)), (.lit (.bool false)), (.lit (.bool false))] T10 n10) fun x29 T12 n12 =>
  notK 380074 x29 fun x30 =>
  g38_k5 ro y2 x30 T12 n12
 )
def g38_k3 (ro : List HT) (y2 y3 y6 y62 : AV) (T9 : HT) (n9 : Nat) : R :=
 condK 380076 y62
 (
  g38_k4 ro y2 y3 y6 (.lit (.bool true)) T9 n9
 )
 (
  ncK 380079 y3 fun x31 =>
  faK 380080 x31 1 fun x32 =>
  ldK 380081 T9 ro x32 fun x33 =>
  cutHiK 380083 T9 ro x33 y6 fun x34 =>
  callK (g59 ro x34 (.lit (.bool false)) T9 n9) fun x35 T13 n13 =>
  g38_k4 ro y2 y3 y6 x35 T13 n13
 )
def g38_b1 (ro : List HT) (lp1 : AV → AV → AV → AV → AV → AV → HT → Nat → R) (y0 y2 y3 y17 y18 y19 : AV) (T3 : HT) (n3 : Nat) : R :=
 ltK prog 3 (.tmp 19) (.tmp 18) 380018 y19 y18 fun x8 =>
 condK 380019 x8
 (
  iaK 380021 y17 y19 5 fun x9 =>
  ldAK 380022 T3 ro x9 5 fun x10 =>
  newK T3 n3 (.obj [.lit (.int .i64 0), .lit (.int .i64 0), .lit (.int .i64 0), .lit (.string ⟨#[]⟩), .lit (.slice none 0 0)] 105) fun x11 T4 n4 =>
  stAK 380025 T4 x11 x10 5 fun T5 =>
  faK 380030 x11 4 fun x13 =>
  ldK 380031 T5 ro x13 fun x14 =>
  ncK 380034 y3 fun x15 =>
  faK 380035 x15 1 fun x16 =>
  ldK 380036 T5 ro x16 fun x17 =>
  callK (g57 ro x14 y19 x17 T5 n4) fun x18 T7 n7 =>
  notK 380038 x18 fun x19 =>
  condK 380040 x19
  (
   condK 380043 (.lit (.bool true))
   (
    g38_k2 ro lp1 y0 y2 y3 y17 y18 y19 (.lit (.bool true)) T7 n7
   )
   (
    .bad 0
   )
  )
  (
   faK 380045 x11 1 fun x20 =>
   ldK 380046 T7 ro x20 fun x21 =>
   neK prog 3 (.tmp 35) (.const (.int .i64 (.ofNat 0))) 380047 x21 (.lit (.int .i64 (.ofNat 0))) fun x22 =>
   condK 380050 x22
   (
    g38_k2 ro lp1 y0 y2 y3 y17 y18 y19 (.lit (.bool true)) T7 n7
   )
   (
    ldAK 380053 T7 ro x11 5 fun x23 =>
    callK (g58 ro y3 x23 T7 n7) fun x24 T8 n8 =>
    notK 380055 x24 fun x25 =>
    g38_k2 ro lp1 y0 y2 y3 y17 y18 y19 x25 T8 n8
   )
  )
 )
 (
  lenSK 380058 y0 fun x26 =>
  subK prog 3 (.tmp 51) (.const (.int .i64 (.ofNat 1))) 380059 x26 (.lit (.int .i64 (.ofNat 1))) fun x27 =>
  ltK prog 3 (.tmp 53) (.const (.int .i64 (.ofNat 0))) 380062 x27 (.lit (.int .i64 (.ofNat 0))) fun x28 =>
  condK 380086 x28
  (
   g38_k3 ro y2 y3 x27 (.lit (.bool true)) T3 n3
  )
  (
   iaK 380090 y0 x27 5 fun x36 =>
   faK 380091 x36 0 fun x37 =>
   ldK 380092 T3 ro x37 fun x38 =>
   neK prog 3 (.tmp 60) (.const (.int .i64 (.ofNat 47))) 380093 x38 (.lit (.int .i64 (.ofNat 47))) fun x39 =>
   g38_k3 ro y2 y3 x27 x39 T3 n3
  )
 )
def g38 (ro : List HT) (a0 : AV) (T : HT) (nx : Nat) : R :=
 lenSK 380003 a0 fun x1 =>
 gtK prog 3 (.tmp 8) (.const (.int .i64 (.ofNat 1048576))) 380004 x1 (.lit (.int .i64 (.ofNat 1048576))) fun x2 =>
 condK 380005 x2
 (
  .bad 380006
 )
 (
  lenSK 380009 a0 fun x3 =>
  mkK 380010 T nx 4 1 (.lit (.bool false)) x3 fun x4 T1 n1 =>
  optK 380011 (bld148 [(0, a0), (1, x4)]) fun x5 =>
  boxK 380012 T1 n1 x5 148 fun x6 T2 n2 =>
  lenSK 380015 a0 fun x7 =>
  lpf6 380017 (g38_b1 ro) 100000 a0 (.lit (.nilIface)) x6 a0 x7 (.lit (.int .i64 (.ofNat 0))) T2 n2
 )
theorem g38_ok (ro : List HT) (a0 : AV) (T : HT) (nx : Nat) : GOk prog envE 38 [a0] ro T nx (g38 ro a0 T nx) := by
 refine GOk.of_body func38 rfl ntmps38 (by kernel_rfl) rfl fun r T' n' h1 w0 base ρ0 its hS hP => ?_
 have X : CtxW envE ρ0 ro r T' n' := trivial
 unfold g38 at h1
 refine sr ?_
 refine as_ ?_
 refine dn (CV.seq (sr ?_))
 refine mv ?_
 refine vy (V.lenS h1 rfl ls50) fun x1 h2 => ?_
 refine vy (V.gt h2 rfl rfl) fun x2 h3 => ?_
 refine dn ?_
 refine CV.cond h3 rfl (fun e h4 => ?_) (fun e h4 => ?_)
 ·
  subst e
  cases h4
 subst e
 refine CV.skip (PV.thenN (sr ?_))
 iterate 2 refine mv ?_
 refine vy (V.lenS h4 rfl ls50) fun x3 h5 => ?_
 refine LV.mk hS h5 rfl rfl rfl el146 rfl rfl rfl rfl fun x4 T1 n1 h6 ρ its hS hdr => ?_
 refine vy (V.bld h6 rfl) fun x5 h7 => ?_
 refine LV.box hS h7 rfl rfl rfl rfl rfl fun x6 T2 n2 h8 ρ its hS hdr => ?_
 refine as_ ?_
 refine dn (CV.seq (sr ?_))
 refine mv ?_
 refine vy (V.lenS h8 rfl ls50) fun x7 h9 => ?_
 refine mv ?_
 refine dn (CV.block ?_)
 refine cl6 X 0 2 3 17 18 19 [] hS h9 ⟨rfl, rfl, rfl, rfl, rfl, rfl, trivial⟩ ?_
 intro f1 y0 y2 y3 y17 y18 y19 T3 n3 ρ its hS h10
 unfold g38_b1 at h10
 refine sr ?_
 refine vy (V.lt h10 rfl rfl) fun x8 h11 => ?_
 refine dn (CV.seq ?_)
 refine CV.cond h11 rfl (fun e h12 => ?_) (fun e h12 => ?_)
 ·
  subst e
  refine CV.skip (PV.thenN (CV.seq (CV.block (sr ?_))))
  refine mv ?_
  refine vy (V.ia h12 rfl rfl el50) fun x9 h13 => ?_
  refine vy (V.ldA hS h13 rfl agg105) fun x10 h14 => ?_
  refine LV.alloc hS h14 rfl zr105 rfl rfl rfl fun x11 T4 n4 h15 ρ its hS hdr => ?_
  refine as_ ?_
  refine LV.stA hS h15 rfl rfl rfl agg105 rfl rfl rfl fun T5 its h16 hS => ?_
  refine dn ?_
  refine cs7 X 0 2 3 17 18 19 43 [] (g38_k2 ro (lpf6 380017 (g38_b1 ro) f1)) ?_ ?_
  ·
   refine CV.regionM [(0, .anywhere), (1, .held), (2, .anywhere), (3, .anywhere), (4, .anywhere), (5, .anywhere), (6, .held), (7, .alone), (8, .alone), (9, .alone), (10, .alone), (11, .alone), (12, .alone), (13, .alone), (14, .alone), (15, .anywhere), (16, .alone), (17, .alone), (18, .alone), (19, .alone)] rfl (fun c a a' w hd hq => PanicOk.root (P := prog) (fn := f38) (w0 := w0) (base := base) (E := envE) (ro := ro) (r := r) (T' := T') (n' := n') (ρ0 := ρ0) c a a' w hd hq) (by kernel_rfl) ?_
   refine MV.lift0 (i := 0) rfl (V.fa h16 rfl fo105_4) rfl rfl rfl fun x13 h20 => ?_
   refine MV.lift1 (i := 1) rfl (fun _ z => z) (V.ld hS h20 rfl one22) rfl rfl rfl [] (by kernel_rfl) fun x14 h21 => ?_
   refine MV.step0 (i := 2) rfl (VAL.move rfl) rfl rfl rfl ?_
   refine MV.step0 (i := 3) rfl (VAL.move rfl) rfl rfl rfl ?_
   refine MV.lift0 (i := 4) rfl (V.nc h21 rfl) rfl rfl rfl fun x15 h22 => ?_
   refine MV.lift0 (i := 5) rfl (V.fa h22 rfl fo148_1) rfl rfl rfl fun x16 h23 => ?_
   refine MV.lift1 (i := 6) rfl (fun _ z => z) (V.ld hS h23 rfl one146) rfl rfl rfl [1] (by kernel_rfl) fun x17 h24 => ?_
   refine MV.force (i := 7) rfl ?_
   refine LV.call hS h24 (g57_ok _ _ _ _ _ _ ) hP rfl rfl rfl rfl fun x18 T7 n7 h25 ρ its hS => ?_
   refine LV.nextM [] (by kernel_rfl) (fun z => absurd rfl z) ?_
   refine MV.force (i := 8) rfl ?_
   refine vy (V.not h25 rfl) fun x19 h26 => ?_
   refine LV.nextM [] (by kernel_rfl) (fun z => absurd rfl z) ?_
   refine MV.force (i := 9) rfl ?_
   refine mv ?_
   refine LV.nextM [] (by kernel_rfl) (fun z => absurd rfl z) ?_
   rcases condK_inv h26 with ⟨e, h27⟩ | ⟨e, h27⟩
   ·
    subst e
    refine MV.force (i := 10) rfl ?_
    refine sk ?_
    refine LV.nextM [] (by kernel_rfl) (fun z => absurd rfl z) ?_
    refine MV.force (i := 11) rfl ?_
    refine sk ?_
    refine LV.nextM [] (by kernel_rfl) (fun z => absurd rfl z) ?_
    refine MV.force (i := 12) rfl ?_
    refine sk ?_
    refine LV.nextM [] (by kernel_rfl) (fun z => absurd rfl z) ?_
    refine MV.force (i := 13) rfl ?_
    refine pu ?_
    refine LV.nextM [] (by kernel_rfl) (fun z => absurd rfl z) ?_
    refine MV.force (i := 14) rfl ?_
    refine mv ?_
    refine LV.nextM [] (by kernel_rfl) (fun z => absurd rfl z) ?_
    rcases condK_inv h27 with ⟨e, h28⟩ | ⟨e, h28⟩
    ·
     refine MV.skip0 (i := 15) rfl rfl rfl rfl ?_
     refine MV.force (i := 16) rfl ?_
     refine sk ?_
     refine LV.nextM [] (by kernel_rfl) (fun z => absurd rfl z) ?_
     refine MV.force (i := 17) rfl ?_
     refine sk ?_
     refine LV.nextM [] (by kernel_rfl) (fun z => absurd rfl z) ?_
     refine MV.force (i := 18) rfl ?_
     refine sk ?_
     refine LV.nextM [] (by kernel_rfl) (fun z => absurd rfl z) ?_
     refine MV.force (i := 19) rfl ?_
     refine pu ?_
     refine LV.nextM [] (by kernel_rfl) (fun z => absurd rfl z) ?_
     refine MV.done ?_
     exact pa7 hS h28 ⟨rfl, rfl, rfl, rfl, rfl, rfl, rfl, trivial⟩
    cases e
   subst e
   refine MV.force (i := 10) rfl ?_
   refine vy (V.fa h27 rfl fo105_1) fun x20 h29 => ?_
   refine LV.nextM [] (by kernel_rfl) (fun z => absurd rfl z) ?_
   refine MV.force (i := 11) rfl ?_
   refine vy (V.ld hS h29 rfl one3) fun x21 h30 => ?_
   refine LV.nextM [] (by kernel_rfl) (fun z => absurd rfl z) ?_
   refine MV.force (i := 12) rfl ?_
   refine vy (V.ne h30 rfl rfl) fun x22 h31 => ?_
   refine LV.nextM [] (by kernel_rfl) (fun z => absurd rfl z) ?_
   refine MV.force (i := 13) rfl ?_
   refine pu ?_
   refine LV.nextM [] (by kernel_rfl) (fun z => absurd rfl z) ?_
   refine MV.force (i := 14) rfl ?_
   refine mv ?_
   refine LV.nextM [] (by kernel_rfl) (fun z => absurd rfl z) ?_
   rcases condK_inv h31 with ⟨e, h32⟩ | ⟨e, h32⟩
   ·
    subst e
    refine MV.skip0 (i := 15) rfl rfl rfl rfl ?_
    refine MV.force (i := 16) rfl ?_
    refine sk ?_
    refine LV.nextM [] (by kernel_rfl) (fun z => absurd rfl z) ?_
    refine MV.force (i := 17) rfl ?_
    refine sk ?_
    refine LV.nextM [] (by kernel_rfl) (fun z => absurd rfl z) ?_
    refine MV.force (i := 18) rfl ?_
    refine sk ?_
    refine LV.nextM [] (by kernel_rfl) (fun z => absurd rfl z) ?_
    refine MV.force (i := 19) rfl ?_
    refine pu ?_
    refine LV.nextM [] (by kernel_rfl) (fun z => absurd rfl z) ?_
    refine MV.done ?_
    exact pa7 hS h32 ⟨rfl, rfl, rfl, rfl, rfl, rfl, rfl, trivial⟩
   subst e
   refine MV.step0 (i := 15) rfl (VAL.move rfl) rfl rfl rfl ?_
   refine MV.force (i := 16) rfl ?_
   refine vy (V.ldA hS h32 rfl agg105) fun x23 h33 => ?_
   refine LV.nextM [] (by kernel_rfl) (fun z => absurd rfl z) ?_
   refine MV.force (i := 17) rfl ?_
   refine LV.call hS h33 (g58_ok _ _ _ _ _ ) hP rfl rfl rfl rfl fun x24 T8 n8 h34 ρ its hS => ?_
   refine LV.nextM [] (by kernel_rfl) (fun z => absurd rfl z) ?_
   refine MV.force (i := 18) rfl ?_
   refine vy (V.not h34 rfl) fun x25 h35 => ?_
   refine LV.nextM [] (by kernel_rfl) (fun z => absurd rfl z) ?_
   refine MV.force (i := 19) rfl ?_
   refine pu ?_
   refine LV.nextM [] (by kernel_rfl) (fun z => absurd rfl z) ?_
   refine MV.done ?_
   exact pa7 hS h35 ⟨rfl, rfl, rfl, rfl, rfl, rfl, rfl, trivial⟩
  intro y0 y2 y3 y17 y18 y19 y43 T6 n6 ρ its hS h17
  unfold g38_k2 at h17
  refine CV.cond h17 rfl (fun e h18 => ?_) (fun e h18 => ?_)
  ·
   subst e
   cases h18
  subst e
  refine CV.skip (PV.blockN (PV.thenN (CV.region ?_)))
  refine vy (V.add h18 rfl rfl) fun x12 h19 => ?_
  refine mv ?_
  refine LV.done ?_
  exact pb6 hS h19 ⟨rfl, rfl, rfl, rfl, rfl, rfl, trivial⟩
 subst e
 refine CV.exit (PV.thenE (PV.thenE (PV.blockE (PV.thenN (sr ?_)))))
 refine mv ?_
 refine vy (V.lenS h12 rfl ls50) fun x26 h36 => ?_
 refine vy (V.sub h36 rfl rfl) fun x27 h37 => ?_
 refine as_ ?_
 refine dn (CV.seq (sr ?_))
 refine mv ?_
 refine vy (V.lt h37 rfl rfl) fun x28 h38 => ?_
 refine mv ?_
 refine ls4 X 2 3 6 62 [] (g38_k3 ro) 7 ?_ ?_
 ·
  rcases condK_inv h38 with ⟨e, h52⟩ | ⟨e, h52⟩
  ·
   subst e
   iterate 6 refine sk ?_
   refine pu ?_
   exact la4 hS h52 ⟨rfl, rfl, rfl, rfl, trivial⟩
  subst e
  iterate 2 refine mv ?_
  refine vy (V.ia h52 rfl rfl el50) fun x36 h53 => ?_
  refine vy (V.fa h53 rfl fo105_0) fun x37 h54 => ?_
  refine vy (V.ld hS h54 rfl one3) fun x38 h55 => ?_
  refine vy (V.ne h55 rfl rfl) fun x39 h56 => ?_
  refine pu ?_
  exact la4 hS h56 ⟨rfl, rfl, rfl, rfl, trivial⟩
 intro y2 y3 y6 y62 T9 n9 ρ its hS h39
 unfold g38_k3 at h39
 refine mv ?_
 refine ls4 X 2 3 6 71 [] (g38_k4 ro) 8 ?_ ?_
 ·
  rcases condK_inv h39 with ⟨e, h46⟩ | ⟨e, h46⟩
  ·
   subst e
   iterate 7 refine sk ?_
   refine pu ?_
   exact la4 hS h46 ⟨rfl, rfl, rfl, rfl, trivial⟩
  subst e
  refine mv ?_
  refine vy (V.nc h46 rfl) fun x31 h47 => ?_
  refine vy (V.fa h47 rfl fo148_1) fun x32 h48 => ?_
  refine vy (V.ld hS h48 rfl one146) fun x33 h49 => ?_
  refine mv ?_
  refine vy (V.cutHi hS h49 rfl rfl el146) fun x34 h50 => ?_
  refine LV.call hS h50 (g59_ok _ _ _ _ _ ) hP rfl rfl rfl rfl fun x35 T13 n13 h51 ρ its hS => ?_
  refine pu ?_
  exact la4 hS h51 ⟨rfl, rfl, rfl, rfl, trivial⟩
 intro y2 y3 y6 y71 T10 n10 ρ its hS h40
 unfold g38_k4 at h40
 refine mv ?_
 refine ls2 X 2 77 [] (g38_k5 ro) 5 ?_ ?_
 ·
  rcases condK_inv h40 with ⟨e, h43⟩ | ⟨e, h43⟩
  ·
   subst e
   iterate 4 refine sk ?_
   refine pu ?_
   exact la2 hS h43 ⟨rfl, rfl, trivial⟩
  subst e
  iterate 2 refine mv ?_
  refine LV.call hS h43 (scc4_ok _ _ _ _ _ _) hP rfl rfl rfl rfl fun x29 T12 n12 h44 ρ its hS => ?_
  refine vy (V.not h44 rfl) fun x30 h45 => ?_
  refine pu ?_
  exact la2 hS h45 ⟨rfl, rfl, trivial⟩
 intro y2 y77 T11 n11 ρ its hS h41
 unfold g38_k5 at h41
 refine dn ?_
 refine CV.cond h41 rfl (fun e h42 => ?_) (fun e h42 => ?_)
 ·
  subst e
  cases h42
 subst e
 refine CV.skip (PV.thenN (sr ?_))
 refine as_ ?_
 refine dn (CV.ret ?_)
 cases h42
 exact PV.ret (by simp) results38 hS (RS.tmp rfl RS.nil) rfl
def g9 (ro : List HT) (a0 : AV) (T : HT) (nx : Nat) : R :=
 boxK 90001 T nx a0 37 fun x1 T1 n1 =>
 ldAK 90003 T1 ro x1 2 fun x2 =>
 optK 90004 (bld58 [(1, x2)]) fun x3 =>
 .ok (.val (.iface 58 x3)) T1 n1
theorem g9_ok (ro : List HT) (a0 : AV) (T : HT) (nx : Nat) : GOk prog envE 9 [a0] ro T nx (g9 ro a0 T nx) := by
 refine GOk.of_body func9 rfl ntmps9 (by kernel_rfl) rfl fun r T' n' h1 w0 base ρ0 its hS hP => ?_
 have X : CtxW envE ρ0 ro r T' n' := trivial
 unfold g9 at h1
 refine sr ?_
 refine LV.box hS h1 rfl rfl rfl rfl rfl fun x1 T1 n1 h2 ρ its hS hdr => ?_
 refine as_ ?_
 refine dn (sr ?_)
 refine vy (V.ldA hS h2 rfl agg37) fun x2 h3 => ?_
 refine vy (V.bld h3 rfl) fun x3 h4 => ?_
 refine sv (VAL.mkI rfl ni58) ?_
 refine as_ ?_
 refine dn (CV.ret ?_)
 cases h4
 exact PV.ret (by simp) results9 hS (RS.tmp rfl RS.nil) rfl
def g11 (ro : List HT) (a0 : AV) (T : HT) (nx : Nat) : R :=
 .ok (.val (.iface 62 a0)) T nx
theorem g11_ok (ro : List HT) (a0 : AV) (T : HT) (nx : Nat) : GOk prog envE 11 [a0] ro T nx (g11 ro a0 T nx) := by
 refine GOk.of_body func11 rfl ntmps11 (by kernel_rfl) rfl fun r T' n' h1 w0 base ρ0 its hS hP => ?_
 have X : CtxW envE ρ0 ro r T' n' := trivial
 unfold g11 at h1
 refine sr ?_
 refine as_ ?_
 refine dn (sr ?_)
 refine mv ?_
 refine sv (VAL.mkI rfl ni62) ?_
 refine as_ ?_
 refine dn (CV.ret ?_)
 cases h1
 exact PV.ret (by simp) results11 hS (RS.tmp rfl RS.nil) rfl
def g24 (ro : List HT) (a0 : AV) (T : HT) (nx : Nat) : R :=
 slEqK prog .eql false 42 (.tmp 3) (.const (.slice none 0 0)) 240003 a0 fun x1 =>
 condK 240004 x1
 (
  .bad 240005
 )
 (
  bs0K T nx 25 1 fun x2 T1 n1 =>
  shrK 240009 T1 x2 fun T2 =>
  appEK 240008 T2 ro n1 25 1 16 x2 a0 fun x3 T3 n3 =>
  .ok (.val x3) T3 n3
 )
theorem g24_ok (ro : List HT) (a0 : AV) (T : HT) (nx : Nat) : GOk prog envE 24 [a0] ro T nx (g24 ro a0 T nx) := by
 refine GOk.of_body func24 rfl ntmps24 (by kernel_rfl) rfl fun r T' n' h1 w0 base ρ0 its hS hP => ?_
 have X : CtxW envE ρ0 ro r T' n' := trivial
 unfold g24 at h1
 refine sr ?_
 refine as_ ?_
 refine dn (CV.seq (sr ?_))
 refine mv ?_
 refine vy (V.slEq h1 rfl slt42) fun x1 h2 => ?_
 refine dn ?_
 refine CV.cond h2 rfl (fun e h3 => ?_) (fun e h3 => ?_)
 ·
  subst e
  cases h3
 subst e
 refine CV.skip (PV.thenN (sr ?_))
 refine LV.bs0 hS h3 rfl el42 rfl rfl rfl fun x2 T1 n1 h4 ρ its hS hdr => ?_
 refine mv ?_
 obtain ⟨T2, its1, h5, hS, hW⟩ := shrK_inv hS h4
 refine LV.world hW ?_
 refine LV.appE hS h5 rfl rfl rfl rfl el42 rfl rfl rfl fun x3 T3 n3 h6 ρ its hS => ?_
 refine as_ ?_
 refine dn (CV.ret ?_)
 cases h6
 exact PV.ret (by simp) results24 hS (RS.tmp rfl RS.nil) rfl
def g15 (ro : List HT) (a0 : AV) (T : HT) (nx : Nat) : R :=
 callK (g24 ro a0 T nx) fun x1 T1 n1 =>
 optK 150004 (bld74 [(1, x1)]) fun x2 =>
 boxK 150005 T1 n1 x2 74 fun x3 T2 n2 =>
 .ok (.val x3) T2 n2
theorem g15_ok (ro : List HT) (a0 : AV) (T : HT) (nx : Nat) : GOk prog envE 15 [a0] ro T nx (g15 ro a0 T nx) := by
 refine GOk.of_body func15 rfl ntmps15 (by kernel_rfl) rfl fun r T' n' h1 w0 base ρ0 its hS hP => ?_
 have X : CtxW envE ρ0 ro r T' n' := trivial
 unfold g15 at h1
 refine sr ?_
 refine as_ ?_
 refine dn (sr ?_)
 refine mv ?_
 refine LV.call hS h1 (g24_ok _ _ _ _ ) hP rfl rfl rfl rfl fun x1 T1 n1 h2 ρ its hS => ?_
 refine vy (V.bld h2 rfl) fun x2 h3 => ?_
 refine LV.box hS h3 rfl rfl rfl rfl rfl fun x3 T2 n2 h4 ρ its hS hdr => ?_
 refine as_ ?_
 refine dn (CV.ret ?_)
 cases h4
 exact PV.ret (by simp) results15 hS (RS.tmp rfl RS.nil) rfl
def g61_k1 (ro : List HT) (y4 y6 y7 : AV) (T2 : HT) (n2 : Nat) : R :=
 condK 610005 y7
 (
  .ok (.val (.lit (.bool true))) T2 n2
 )
 (
  eqK prog 3 (.tmp 6) (.const (.int .i64 (.ofNat 16))) 610007 y6 (.lit (.int .i64 (.ofNat 16))) fun x4 =>
  condK 610009 x4
  (
   .bad 610010
  )
  (
   .ok (.val (.lit (.bool false))) T2 n2
  )
 )
def g61 (ro : List HT) (a0 a1 : AV) (T : HT) (nx : Nat) : R :=
 boxK 610001 T nx a1 105 fun x1 T1 n1 =>
 faK 610003 x1 0 fun x2 =>
 ldK 610004 T1 ro x2 fun x3 =>
 eqK prog 3 (.tmp 6) (.const (.int .i64 (.ofNat 1))) 610012 x3 (.lit (.int .i64 (.ofNat 1))) fun x5 =>
 condK 610014 x5
 (
  g61_k1 ro (.lit (.bool false)) x3 (.lit (.bool true)) T1 n1
 )
 (
  eqK prog 3 (.tmp 6) (.const (.int .i64 (.ofNat 2))) 610015 x3 (.lit (.int .i64 (.ofNat 2))) fun x6 =>
  condK 610017 x6
  (
   g61_k1 ro (.lit (.bool false)) x3 (.lit (.bool true)) T1 n1
  )
  (
   eqK prog 3 (.tmp 6) (.const (.int .i64 (.ofNat 3))) 610018 x3 (.lit (.int .i64 (.ofNat 3))) fun x7 =>
   condK 610020 x7
   (
    g61_k1 ro (.lit (.bool false)) x3 (.lit (.bool true)) T1 n1
   )
   (
    eqK prog 3 (.tmp 6) (.const (.int .i64 (.ofNat 4))) 610021 x3 (.lit (.int .i64 (.ofNat 4))) fun x8 =>
    condK 610023 x8
    (
     g61_k1 ro (.lit (.bool false)) x3 (.lit (.bool true)) T1 n1
    )
    (
     eqK prog 3 (.tmp 6) (.const (.int .i64 (.ofNat 5))) 610024 x3 (.lit (.int .i64 (.ofNat 5))) fun x9 =>
     condK 610026 x9
     (
      g61_k1 ro (.lit (.bool false)) x3 (.lit (.bool true)) T1 n1
     )
     (
      eqK prog 3 (.tmp 6) (.const (.int .i64 (.ofNat 7))) 610027 x3 (.lit (.int .i64 (.ofNat 7))) fun x10 =>
      condK 610029 x10
      (
       g61_k1 ro (.lit (.bool false)) x3 (.lit (.bool true)) T1 n1
      )
      (
       eqK prog 3 (.tmp 6) (.const (.int .i64 (.ofNat 8))) 610030 x3 (.lit (.int .i64 (.ofNat 8))) fun x11 =>
       condK 610032 x11
       (
        g61_k1 ro (.lit (.bool false)) x3 (.lit (.bool true)) T1 n1
       )
       (
        eqK prog 3 (.tmp 6) (.const (.int .i64 (.ofNat 9))) 610033 x3 (.lit (.int .i64 (.ofNat 9))) fun x12 =>
        g61_k1 ro (.lit (.bool false)) x3 x12 T1 n1
       )
      )
     )
    )
   )
  )
 )
theorem g61_ok (ro : List HT) (a0 a1 : AV) (T : HT) (nx : Nat) : GOk prog envE 61 [a0, a1] ro T nx (g61 ro a0 a1 T nx) := by
 refine GOk.of_body func61 rfl ntmps61 (by kernel_rfl) rfl fun r T' n' h1 w0 base ρ0 its hS hP => ?_
 have X : CtxW envE ρ0 ro r T' n' := trivial
 unfold g61 at h1
 refine sr ?_
 refine LV.box hS h1 rfl rfl rfl rfl rfl fun x1 T1 n1 h2 ρ its hS hdr => ?_
 refine as_ ?_
 refine dn (CV.seq (sr ?_))
 refine vy (V.fa h2 rfl fo105_0) fun x2 h3 => ?_
 refine vy (V.ld hS h3 rfl one3) fun x3 h4 => ?_
 refine dn (CV.block ?_)
 refine cs3 X 4 6 7 [] (g61_k1 ro) ?_ ?_
 ·
  refine sr ?_
  refine vy (V.eq h4 rfl rfl) fun x5 h9 => ?_
  refine as_ ?_
  refine dn ?_
  refine CV.cond h9 rfl (fun e h10 => ?_) (fun e h10 => ?_)
  ·
   subst e
   refine CV.skip ?_
   exact pa3 hS h10 ⟨rfl, rfl, rfl, trivial⟩
  subst e
  refine sr ?_
  refine vy (V.eq h10 rfl rfl) fun x6 h11 => ?_
  refine as_ ?_
  refine dn ?_
  refine CV.cond h11 rfl (fun e h12 => ?_) (fun e h12 => ?_)
  ·
   subst e
   refine CV.skip ?_
   exact pa3 hS h12 ⟨rfl, rfl, rfl, trivial⟩
  subst e
  refine sr ?_
  refine vy (V.eq h12 rfl rfl) fun x7 h13 => ?_
  refine as_ ?_
  refine dn ?_
  refine CV.cond h13 rfl (fun e h14 => ?_) (fun e h14 => ?_)
  ·
   subst e
   refine CV.skip ?_
   exact pa3 hS h14 ⟨rfl, rfl, rfl, trivial⟩
  subst e
  refine sr ?_
  refine vy (V.eq h14 rfl rfl) fun x8 h15 => ?_
  refine as_ ?_
  refine dn ?_
  refine CV.cond h15 rfl (fun e h16 => ?_) (fun e h16 => ?_)
  ·
   subst e
   refine CV.skip ?_
   exact pa3 hS h16 ⟨rfl, rfl, rfl, trivial⟩
  subst e
  refine sr ?_
  refine vy (V.eq h16 rfl rfl) fun x9 h17 => ?_
  refine as_ ?_
  refine dn ?_
  refine CV.cond h17 rfl (fun e h18 => ?_) (fun e h18 => ?_)
  ·
   subst e
   refine CV.skip ?_
   exact pa3 hS h18 ⟨rfl, rfl, rfl, trivial⟩
  subst e
  refine sr ?_
  refine vy (V.eq h18 rfl rfl) fun x10 h19 => ?_
  refine as_ ?_
  refine dn ?_
  refine CV.cond h19 rfl (fun e h20 => ?_) (fun e h20 => ?_)
  ·
   subst e
   refine CV.skip ?_
   exact pa3 hS h20 ⟨rfl, rfl, rfl, trivial⟩
  subst e
  refine sr ?_
  refine vy (V.eq h20 rfl rfl) fun x11 h21 => ?_
  refine as_ ?_
  refine dn ?_
  refine CV.cond h21 rfl (fun e h22 => ?_) (fun e h22 => ?_)
  ·
   subst e
   refine CV.skip ?_
   exact pa3 hS h22 ⟨rfl, rfl, rfl, trivial⟩
  subst e
  refine CV.region ?_
  refine vy (V.eq h22 rfl rfl) fun x12 h23 => ?_
  refine as_ ?_
  refine LV.done ?_
  exact pa3 hS h23 ⟨rfl, rfl, rfl, trivial⟩
 intro y4 y6 y7 T2 n2 ρ its hS h5
 unfold g61_k1 at h5
 refine CV.cond h5 rfl (fun e h6 => ?_) (fun e h6 => ?_)
 ·
  subst e
  refine sr ?_
  refine as_ ?_
  refine dn (CV.ret (PV.blockR (PV.thenR ?_)))
  cases h6
  exact PV.ret (by simp) results61 hS (RS.tmp rfl RS.nil) rfl
 subst e
 refine sr ?_
 refine vy (V.eq h6 rfl rfl) fun x4 h7 => ?_
 refine as_ ?_
 refine dn ?_
 refine CV.cond h7 rfl (fun e h8 => ?_) (fun e h8 => ?_)
 ·
  subst e
  cases h8
 subst e
 refine CV.skip (PV.blockN (PV.thenN (sr ?_)))
 refine as_ ?_
 refine dn (CV.ret ?_)
 cases h8
 exact PV.ret (by simp) results61 hS (RS.tmp rfl RS.nil) rfl
def g20_k3 (ro : List HT) (y1 y4 y27 : AV) (T4 : HT) (n4 : Nat) : R :=
 optK 200017 (bld37 [(0, y27), (1, y1)]) fun x7 =>
 stAK 200018 T4 y4 x7 2 fun T5 =>
 ldAK 200019 T5 ro y4 2 fun x8 =>
 .ok (.val x8) T5 n4
def g20_k2 (ro : List HT) (lp1 : AV → AV → AV → HT → Nat → R) (y0 y1 y4 y16 : AV) (T3 : HT) (n3 : Nat) : R :=
 condK 200007 y16
 (
  lenSK 200010 y1 fun x4 =>
  subK prog 3 (.tmp 19) (.const (.int .i64 (.ofNat 1))) 200011 x4 (.lit (.int .i64 (.ofNat 1))) fun x5 =>
  cutHiK 200012 T3 ro y1 x5 fun x6 =>
  lp1 y0 x6 y4 T3 n3
 )
 (
  condK 200020 y0
  (
   lenSK 200022 y1 fun x9 =>
   gtK prog 3 (.tmp 25) (.const (.int .i64 (.ofNat 0))) 200023 x9 (.lit (.int .i64 (.ofNat 0))) fun x10 =>
   g20_k3 ro y1 y4 x10 T3 n3
  )
  (
   g20_k3 ro y1 y4 (.lit (.bool false)) T3 n3
  )
 )
def g20_b1 (ro : List HT) (lp1 : AV → AV → AV → HT → Nat → R) (y0 y1 y4 : AV) (T2 : HT) (n2 : Nat) : R :=
 lenSK 200004 y1 fun x2 =>
 gtK prog 3 (.tmp 6) (.const (.int .i64 (.ofNat 0))) 200005 x2 (.lit (.int .i64 (.ofNat 0))) fun x3 =>
 condK 200026 x3
 (
  lenSK 200029 y1 fun x11 =>
  subK prog 3 (.tmp 11) (.const (.int .i64 (.ofNat 1))) 200030 x11 (.lit (.int .i64 (.ofNat 1))) fun x12 =>
  iaK 200031 y1 x12 1 fun x13 =>
  ldK 200032 T2 ro x13 fun x14 =>
  eqK prog 60 (.tmp 14) (.const (.int .u32 (.ofNat 0))) 200033 x14 (.lit (.int .u32 (.ofNat 0))) fun x15 =>
  g20_k2 ro lp1 y0 y1 y4 x15 T2 n2
 )
 (
  g20_k2 ro lp1 y0 y1 y4 (.lit (.bool false)) T2 n2
 )
def g20 (ro : List HT) (a0 a1 : AV) (T : HT) (nx : Nat) : R :=
 newK T nx (.obj [.lit (.bool false), .lit (.slice none 0 0)] 37) fun x1 T1 n1 =>
 lpf3 200002 (g20_b1 ro) 100000 a0 a1 x1 T1 n1
theorem g20_ok (ro : List HT) (a0 a1 : AV) (T : HT) (nx : Nat) : GOk prog envE 20 [a0, a1] ro T nx (g20 ro a0 a1 T nx) := by
 refine GOk.of_body func20 rfl ntmps20 (by kernel_rfl) rfl fun r T' n' h1 w0 base ρ0 its hS hP => ?_
 have X : CtxW envE ρ0 ro r T' n' := trivial
 unfold g20 at h1
 refine sr ?_
 refine LV.alloc hS h1 rfl zr37 rfl rfl rfl fun x1 T1 n1 h2 ρ its hS hdr => ?_
 refine dn (CV.seq (CV.block ?_))
 refine cl3 X 0 1 4 [] hS h2 ⟨rfl, rfl, rfl, trivial⟩ ?_
 intro f1 y0 y1 y4 T2 n2 ρ its hS h3
 unfold g20_b1 at h3
 refine CV.seq (sr ?_)
 refine mv ?_
 refine vy (V.lenS h3 rfl ls35) fun x2 h4 => ?_
 refine vy (V.gt h4 rfl rfl) fun x3 h5 => ?_
 refine mv ?_
 refine ls4 X 0 1 4 16 [] (g20_k2 ro (lpf3 200002 (g20_b1 ro) f1)) 8 ?_ ?_
 ·
  rcases condK_inv h5 with ⟨e, h18⟩ | ⟨e, h18⟩
  ·
   subst e
   iterate 2 refine mv ?_
   refine vy (V.lenS h18 rfl ls35) fun x11 h19 => ?_
   refine vy (V.sub h19 rfl rfl) fun x12 h20 => ?_
   refine vy (V.ia h20 rfl rfl el35) fun x13 h21 => ?_
   refine vy (V.ld hS h21 rfl one60) fun x14 h22 => ?_
   refine vy (V.eq h22 rfl rfl) fun x15 h23 => ?_
   refine pu ?_
   exact la4 hS h23 ⟨rfl, rfl, rfl, rfl, trivial⟩
  subst e
  iterate 7 refine sk ?_
  refine pu ?_
  exact la4 hS h18 ⟨rfl, rfl, rfl, rfl, trivial⟩
 intro y0 y1 y4 y16 T3 n3 ρ its hS h6
 unfold g20_k2 at h6
 refine dn ?_
 refine CV.cond h6 rfl (fun e h7 => ?_) (fun e h7 => ?_)
 ·
  subst e
  refine CV.skip (PV.thenN (CV.block (CV.region ?_)))
  iterate 2 refine mv ?_
  refine vy (V.lenS h7 rfl ls35) fun x4 h8 => ?_
  refine vy (V.sub h8 rfl rfl) fun x5 h9 => ?_
  refine vy (V.cutHi hS h9 rfl rfl el35) fun x6 h10 => ?_
  refine as_ ?_
  refine LV.done (PV.blockN ?_)
  exact pb3 hS h10 ⟨rfl, rfl, rfl, trivial⟩
 subst e
 refine CV.exit (PV.thenE (PV.thenE (PV.blockE (PV.thenN (sr ?_)))))
 iterate 2 refine mv ?_
 refine ls3 X 1 4 27 [] (g20_k3 ro) 4 ?_ ?_
 ·
  rcases condK_inv h7 with ⟨e, h15⟩ | ⟨e, h15⟩
  ·
   subst e
   refine mv ?_
   refine vy (V.lenS h15 rfl ls35) fun x9 h16 => ?_
   refine vy (V.gt h16 rfl rfl) fun x10 h17 => ?_
   refine pu ?_
   exact la3 hS h17 ⟨rfl, rfl, rfl, trivial⟩
  subst e
  iterate 3 refine sk ?_
  refine pu ?_
  exact la3 hS h15 ⟨rfl, rfl, rfl, trivial⟩
 intro y1 y4 y27 T4 n4 ρ its hS h11
 unfold g20_k3 at h11
 refine mv ?_
 refine vy (V.bld h11 rfl) fun x7 h12 => ?_
 refine LV.stA hS h12 rfl rfl rfl agg37 rfl rfl rfl fun T5 its h13 hS => ?_
 refine dn (CV.ret ?_)
 refine PV.ldA (x := .tmp 4) (t := 37) hS h13 rfl agg37 fun x8 h14 hVx4_8 => ?_
 cases h14
 exact PV.ret (by simp) results20 hS (RS.cell hVx4_8 RS.nil) rfl
def g120 (ro : List HT) (a0 a1 : AV) (T : HT) (nx : Nat) : R :=
 callK (g136 ro a0 a1 T nx) fun x1 T1 n1 =>
 notK 1200006 x1 fun x2 =>
 condK 1200007 x2
 (
  .ok (.val (.tup [a0, (.lit (.bool false))])) T1 n1
 )
 (
  lenTK 1200013 a1 fun x3 =>
  sliceF 1200014 a0 (some x3) none fun x4 =>
  .ok (.val (.tup [x4, (.lit (.bool true))])) T1 n1
 )
theorem g120_ok (ro : List HT) (a0 a1 : AV) (T : HT) (nx : Nat) : GOk prog envE 120 [a0, a1] ro T nx (g120 ro a0 a1 T nx) := by
 refine GOk.of_body func120 rfl ntmps120 (by kernel_rfl) rfl fun r T' n' h1 w0 base ρ0 its hS hP => ?_
 have X : CtxW envE ρ0 ro r T' n' := trivial
 unfold g120 at h1
 refine sr ?_
 iterate 2 refine as_ ?_
 refine dn (CV.seq (sr ?_))
 iterate 2 refine mv ?_
 refine LV.call hS h1 (g136_ok _ _ _ _ _ ) hP rfl rfl rfl rfl fun x1 T1 n1 h2 ρ its hS => ?_
 refine vy (V.not h2 rfl) fun x2 h3 => ?_
 refine dn ?_
 refine CV.cond h3 rfl (fun e h4 => ?_) (fun e h4 => ?_)
 ·
  subst e
  refine sr ?_
  refine mv ?_
  iterate 2 refine as_ ?_
  refine dn (CV.ret (PV.thenR ?_))
  cases h4
  exact PV.ret (by simp) results120 hS (RS.tmp rfl (RS.tmp rfl RS.nil)) rfl
 subst e
 refine CV.skip (PV.thenN (sr ?_))
 iterate 2 refine mv ?_
 refine vy (V.lenT h4 rfl ls9) fun x3 h5 => ?_
 refine vy (V.slLo (sliceF_ok h5) rfl rfl st9) fun x4 h6 => ?_
 iterate 2 refine as_ ?_
 refine dn (CV.ret ?_)
 cases h6
 exact PV.ret (by simp) results120 hS (RS.tmp rfl (RS.tmp rfl RS.nil)) rfl
def g87 (ro : List HT) (a0 a1 : AV) (T : HT) (nx : Nat) : R :=
 callK (g120 ro a0 a1 T nx) fun x1 T1 n1 =>
 exK 870006 x1 0 fun x2 =>
 exK 870007 x1 1 fun x3 =>
 .ok (.val (.tup [x2, x3])) T1 n1
theorem g87_ok (ro : List HT) (a0 a1 : AV) (T : HT) (nx : Nat) : GOk prog envE 87 [a0, a1] ro T nx (g87 ro a0 a1 T nx) := by
 refine GOk.of_body func87 rfl ntmps87 (by kernel_rfl) rfl fun r T' n' h1 w0 base ρ0 its hS hP => ?_
 have X : CtxW envE ρ0 ro r T' n' := trivial
 unfold g87 at h1
 refine sr ?_
 iterate 2 refine as_ ?_
 refine dn (sr ?_)
 iterate 2 refine mv ?_
 refine LV.call hS h1 (g120_ok _ _ _ _ _ ) hP rfl rfl rfl rfl fun x1 T1 n1 h2 ρ its hS => ?_
 refine vy (V.ex h2 rfl) fun x2 h3 => ?_
 refine vy (V.ex h3 rfl) fun x3 h4 => ?_
 iterate 2 refine as_ ?_
 refine dn (CV.ret ?_)
 cases h4
 exact PV.ret (by simp) results87 hS (RS.tmp rfl (RS.tmp rfl RS.nil)) rfl
def g63_k3 (ro : List HT) (lp2 : AV → AV → AV → AV → AV → AV → HT → Nat → R) (y2 y3 y4 y5 y34 y35 y47 : AV) (T5 : HT) (n5 : Nat) : R :=
 condK 630028 y47
 (
  .bad 630029
 )
 (
  addK prog 3 (.tmp 35) (.const (.int .i64 (.ofNat 1))) 630030 y35 (.lit (.int .i64 (.ofNat 1))) fun x10 =>
  lp2 y2 y3 y4 y5 y34 x10 T5 n5
 )
def g63_b5 (ro : List HT) (lp4 : AV → AV → AV → AV → AV → AV → HT → Nat → R) (lp5 : AV → AV → AV → AV → AV → AV → AV → AV → HT → Nat → R) (y2 y3 y4 y5 y7 y8 y9 y10 : AV) (T7 : HT) (n7 : Nat) : R :=
 ltK prog 3 (.tmp 65) (.tmp 66) 630060 y10 y8 fun x19 =>
 condK 630061 x19
 (
  bin0 prog .mul 60 (.tmp 70) (.const (.int .u32 (.ofNat 10))) 630063 y9 (.lit (.int .u32 (.ofNat 10))) fun x20 =>
  ixK 630066 y4 y10 fun x21 =>
  bin0 prog .sub 5 (.tmp 74) (.const (.int .u8 (.ofNat 48))) 630067 x21 (.lit (.int .u8 (.ofNat 48))) fun x22 =>
  optK 630068 (convV prog 5 60 x22) fun x23 =>
  bin0 prog .add 60 (.tmp 71) (.tmp 76) 630069 x20 x23 fun x24 =>
  addK prog 3 (.tmp 68) (.const (.int .i64 (.ofNat 1))) 630072 y10 (.lit (.int .i64 (.ofNat 1))) fun x25 =>
  lp5 y2 y3 y4 y5 y7 y8 x24 x25 T7 n7
 )
 (
  bsK 630076 T7 n7 1 60 1 [(0, y9)] fun x26 T8 n8 =>
  shrK 630078 T8 y7 fun T9 =>
  appEK 630077 T9 ro n8 60 1 4 y7 x26 fun x27 T10 n10 =>
  subK prog 3 (.tmp 60) (.const (.int .i64 (.ofNat 9))) 630081 y8 (.lit (.int .i64 (.ofNat 9))) fun x28 =>
  lp4 y2 y3 y4 y5 x27 x28 T10 n10
 )
def g63_b4 (ro : List HT) (lp4 : AV → AV → AV → AV → AV → AV → HT → Nat → R) (y2 y3 y4 y5 y7 y8 : AV) (T6 : HT) (n6 : Nat) : R :=
 gtK prog 3 (.tmp 58) (.const (.int .i64 (.ofNat 0))) 630050 y8 (.lit (.int .i64 (.ofNat 0))) fun x16 =>
 condK 630051 x16
 (
  subK prog 3 (.tmp 62) (.const (.int .i64 (.ofNat 9))) 630054 y8 (.lit (.int .i64 (.ofNat 9))) fun x17 =>
  optK 630055 (mmV (.lit (.int .i64 (.ofNat 0))) x17 true) fun x18 =>
  lpf8 630057 (g63_b5 ro lp4) 100000 y2 y3 y4 y5 y7 y8 (.lit (.int .u32 (.ofNat 0))) x18 T6 n6
 )
 (
  callK (g20 ro y5 y7 T6 n6) fun x29 T11 n11 =>
  stAK 630086 T11 y2 x29 2 fun T12 =>
  ldAK 630088 T12 ro y2 2 fun x30 =>
  .ok (.val (.tup [x30, (.lit (.nilIface))])) T12 n11
 )
def g63_b2 (ro : List HT) (lp2 : AV → AV → AV → AV → AV → AV → HT → Nat → R) (y2 y3 y4 y5 y34 y35 : AV) (T4 : HT) (n4 : Nat) : R :=
 ltK prog 3 (.tmp 35) (.tmp 34) 630019 y35 y34 fun x7 =>
 condK 630020 x7
 (
  ixK 630025 y4 y35 fun x8 =>
  ltK prog 5 (.tmp 40) (.const (.int .u8 (.ofNat 48))) 630026 x8 (.lit (.int .u8 (.ofNat 48))) fun x9 =>
  condK 630032 x9
  (
   g63_k3 ro lp2 y2 y3 y4 y5 y34 y35 (.lit (.bool true)) T4 n4
  )
  (
   ixK 630036 y4 y35 fun x11 =>
   gtK prog 5 (.tmp 45) (.const (.int .u8 (.ofNat 57))) 630037 x11 (.lit (.int .u8 (.ofNat 57))) fun x12 =>
   g63_k3 ro lp2 y2 y3 y4 y5 y34 y35 x12 T4 n4
  )
 )
 (
  lenTK 630040 y4 fun x13 =>
  gtK prog 3 (.tmp 52) (.const (.int .i64 (.ofNat 2400))) 630041 x13 (.lit (.int .i64 (.ofNat 2400))) fun x14 =>
  condK 630042 x14
  (
   .bad 630043
  )
  (
   lenTK 630046 y4 fun x15 =>
   lpf6 630048 (g63_b4 ro) 100000 y2 y3 y4 y5 (.lit (.slice none 0 0)) x15 T4 n4
  )
 )
def g63_k1 (ro : List HT) (y2 y4 y5 y30 : AV) (T3 : HT) (n3 : Nat) : R :=
 condK 630013 y30
 (
  .bad 630014
 )
 (
  lenTK 630016 y4 fun x6 =>
  lpf6 630018 (g63_b2 ro) 100000 y2 (.lit (.nilIface)) y4 y5 x6 (.lit (.int .i64 (.ofNat 0))) T3 n3
 )
def g63_k6 (ro : List HT) (y2 y4 y5 y29 : AV) (T13 : HT) (n13 : Nat) : R :=
 g63_k1 ro y2 y4 y5 y29 T13 n13
def g63_k7 (ro : List HT) (y2 y4 y5 y28 : AV) (T14 : HT) (n14 : Nat) : R :=
 g63_k6 ro y2 y4 y5 y28 T14 n14
def g63 (ro : List HT) (a0 : AV) (T : HT) (nx : Nat) : R :=
 newK T nx (.obj [.lit (.bool false), .lit (.slice none 0 0)] 37) fun x1 T1 n1 =>
 callK (g87 ro a0 (.lit (.string ⟨⟨[45]⟩⟩)) T1 n1) fun x2 T2 n2 =>
 exK 630006 x2 0 fun x3 =>
 exK 630007 x2 1 fun x4 =>
 eqSK prog 9 (.tmp 16) (.const (.string ⟨⟨[]⟩⟩)) 630011 x3 (.lit (.string ⟨⟨[]⟩⟩)) fun x5 =>
 condK 630089 x5
 (
  g63_k1 ro x1 x3 x4 (.lit (.bool true)) T2 n2
 )
 (
  ixK 630092 x3 (.lit (.int .i64 (.ofNat 0))) fun x31 =>
  eqK prog 5 (.tmp 20) (.const (.int .u8 (.ofNat 48))) 630093 x31 (.lit (.int .u8 (.ofNat 48))) fun x32 =>
  condK 630096 x32
  (
   lenTK 630098 x3 fun x33 =>
   gtK prog 3 (.tmp 24) (.const (.int .i64 (.ofNat 1))) 630099 x33 (.lit (.int .i64 (.ofNat 1))) fun x34 =>
   condK 630102 x34
   (
    g63_k7 ro x1 x3 x4 (.lit (.bool true)) T2 n2
   )
   (
    g63_k7 ro x1 x3 x4 x4 T2 n2
   )
  )
  (
   g63_k6 ro x1 x3 x4 (.lit (.bool false)) T2 n2
  )
 )
theorem g63_ok (ro : List HT) (a0 : AV) (T : HT) (nx : Nat) : GOk prog envE 63 [a0] ro T nx (g63 ro a0 T nx) := by
 refine GOk.of_body func63 rfl ntmps63 (by kernel_rfl) rfl fun r T' n' h1 w0 base ρ0 its hS hP => ?_
 have X : CtxW envE ρ0 ro r T' n' := trivial
 unfold g63 at h1
 refine sr ?_
 refine LV.alloc hS h1 rfl zr37 rfl rfl rfl fun x1 T1 n1 h2 ρ its hS hdr => ?_
 refine as_ ?_
 refine dn (sr ?_)
 refine mv ?_
 refine LV.call hS h2 (g87_ok _ _ _ _ _ ) hP rfl rfl rfl rfl fun x2 T2 n2 h3 ρ its hS => ?_
 refine mv ?_
 refine vy (V.ex h3 rfl) fun x3 h4 => ?_
 refine vy (V.ex h4 rfl) fun x4 h5 => ?_
 iterate 2 refine as_ ?_
 refine dn (CV.seq (sr ?_))
 refine mv ?_
 refine vy (V.eqS h5 rfl rfl) fun x5 h6 => ?_
 refine mv ?_
 refine ls4 X 2 4 5 30 [(3, (.lit (.nilIface)))] (g63_k1 ro) 12 ?_ ?_
 ·
  rcases condK_inv h6 with ⟨e, h46⟩ | ⟨e, h46⟩
  ·
   subst e
   iterate 11 refine sk ?_
   refine pu ?_
   exact la4 hS h46 ⟨rfl, rfl, rfl, rfl, rfl, trivial⟩
  subst e
  refine mv ?_
  refine vy (V.ix h46 rfl rfl st9) fun x31 h47 => ?_
  refine vy (V.eq h47 rfl rfl) fun x32 h48 => ?_
  refine mv ?_
  refine ls4 X 2 4 5 29 [(3, (.lit (.nilIface))), (18, (.lit (.bool false)))] (g63_k6 ro) 7 ?_ ?_
  ·
   rcases condK_inv h48 with ⟨e, h50⟩ | ⟨e, h50⟩
   ·
    subst e
    refine mv ?_
    refine vy (V.lenT h50 rfl ls9) fun x33 h51 => ?_
    refine vy (V.gt h51 rfl rfl) fun x34 h52 => ?_
    refine mv ?_
    refine ls4 X 2 4 5 28 [(3, (.lit (.nilIface))), (18, (.lit (.bool false))), (22, (.lit (.bool true)))] (g63_k7 ro) 2 ?_ ?_
    ·
     rcases condK_inv h52 with ⟨e, h54⟩ | ⟨e, h54⟩
     ·
      subst e
      refine sk ?_
      refine pu ?_
      exact la4 hS h54 ⟨rfl, rfl, rfl, rfl, rfl, rfl, rfl, trivial⟩
     subst e
     refine mv ?_
     refine pu ?_
     exact la4 hS h54 ⟨rfl, rfl, rfl, rfl, rfl, rfl, rfl, trivial⟩
    intro y2 y4 y5 y28 T14 n14 ρ its hS h53
    unfold g63_k7 at h53
    refine pu ?_
    exact la4 hS h53 ⟨rfl, rfl, rfl, rfl, rfl, rfl, trivial⟩
   subst e
   iterate 6 refine sk ?_
   refine pu ?_
   exact la4 hS h50 ⟨rfl, rfl, rfl, rfl, rfl, rfl, trivial⟩
  intro y2 y4 y5 y29 T13 n13 ρ its hS h49
  unfold g63_k6 at h49
  refine pu ?_
  exact la4 hS h49 ⟨rfl, rfl, rfl, rfl, rfl, trivial⟩
 intro y2 y4 y5 y30 T3 n3 ρ its hS h7
 unfold g63_k1 at h7
 refine dn ?_
 refine CV.cond h7 rfl (fun e h8 => ?_) (fun e h8 => ?_)
 ·
  subst e
  cases h8
 subst e
 refine CV.skip (PV.thenN (CV.seq (sr ?_)))
 refine mv ?_
 refine vy (V.lenT h8 rfl ls9) fun x6 h9 => ?_
 refine mv ?_
 refine dn (CV.block ?_)
 refine cl6 X 2 3 4 5 34 35 [] hS h9 ⟨rfl, rfl, rfl, rfl, rfl, rfl, trivial⟩ ?_
 intro f2 y2 y3 y4 y5 y34 y35 T4 n4 ρ its hS h10
 unfold g63_b2 at h10
 refine sr ?_
 refine vy (V.lt h10 rfl rfl) fun x7 h11 => ?_
 refine dn (CV.seq ?_)
 refine CV.cond h11 rfl (fun e h12 => ?_) (fun e h12 => ?_)
 ·
  subst e
  refine CV.skip (PV.thenN (CV.seq (CV.block (sr ?_))))
  refine mv ?_
  refine as_ ?_
  refine dn (sr ?_)
  iterate 2 refine mv ?_
  refine vy (V.ix h12 rfl rfl st9) fun x8 h13 => ?_
  refine vy (V.lt h13 rfl rfl) fun x9 h14 => ?_
  refine mv ?_
  refine ls7 X 2 3 4 5 34 35 47 [] (g63_k3 ro (lpf6 630018 (g63_b2 ro) f2)) 5 ?_ ?_
  ·
   rcases condK_inv h14 with ⟨e, h18⟩ | ⟨e, h18⟩
   ·
    subst e
    iterate 4 refine sk ?_
    refine pu ?_
    exact la7 hS h18 ⟨rfl, rfl, rfl, rfl, rfl, rfl, rfl, trivial⟩
   subst e
   iterate 2 refine mv ?_
   refine vy (V.ix h18 rfl rfl st9) fun x11 h19 => ?_
   refine vy (V.gt h19 rfl rfl) fun x12 h20 => ?_
   refine pu ?_
   exact la7 hS h20 ⟨rfl, rfl, rfl, rfl, rfl, rfl, rfl, trivial⟩
  intro y2 y3 y4 y5 y34 y35 y47 T5 n5 ρ its hS h15
  unfold g63_k3 at h15
  refine dn ?_
  refine CV.cond h15 rfl (fun e h16 => ?_) (fun e h16 => ?_)
  ·
   subst e
   cases h16
  subst e
  refine CV.skip (PV.blockN (PV.thenN (CV.region ?_)))
  refine vy (V.add h16 rfl rfl) fun x10 h17 => ?_
  refine mv ?_
  refine LV.done ?_
  exact pb6 hS h17 ⟨rfl, rfl, rfl, rfl, rfl, rfl, trivial⟩
 subst e
 refine CV.exit (PV.thenE (PV.thenE (PV.blockE (PV.thenN (CV.seq (sr ?_))))))
 refine mv ?_
 refine vy (V.lenT h12 rfl ls9) fun x13 h21 => ?_
 refine vy (V.gt h21 rfl rfl) fun x14 h22 => ?_
 refine dn ?_
 refine CV.cond h22 rfl (fun e h23 => ?_) (fun e h23 => ?_)
 ·
  subst e
  cases h23
 subst e
 refine CV.skip (PV.thenN (sr ?_))
 refine as_ ?_
 refine dn (CV.seq (sr ?_))
 refine mv ?_
 refine vy (V.lenT h23 rfl ls9) fun x15 h24 => ?_
 refine as_ ?_
 refine dn (CV.block ?_)
 refine cl6 X 2 3 4 5 7 8 [] hS h24 ⟨rfl, rfl, rfl, rfl, rfl, rfl, trivial⟩ ?_
 intro f4 y2 y3 y4 y5 y7 y8 T6 n6 ρ its hS h25
 unfold g63_b4 at h25
 refine CV.seq (sr ?_)
 refine mv ?_
 refine vy (V.gt h25 rfl rfl) fun x16 h26 => ?_
 refine dn ?_
 refine CV.cond h26 rfl (fun e h27 => ?_) (fun e h27 => ?_)
 ·
  subst e
  refine CV.skip (PV.thenN (CV.seq (CV.block (sr ?_))))
  refine as_ ?_
  refine dn (CV.seq (sr ?_))
  refine mv ?_
  refine vy (V.sub h27 rfl rfl) fun x17 h28 => ?_
  refine vy (V.max h28 rfl rfl) fun x18 h29 => ?_
  refine as_ ?_
  refine dn (CV.block ?_)
  refine cl8 X 2 3 4 5 7 8 9 10 [] hS h29 ⟨rfl, rfl, rfl, rfl, rfl, rfl, rfl, rfl, trivial⟩ ?_
  intro f5 y2 y3 y4 y5 y7 y8 y9 y10 T7 n7 ρ its hS h30
  unfold g63_b5 at h30
  refine CV.seq (sr ?_)
  iterate 2 refine mv ?_
  refine vy (V.lt h30 rfl rfl) fun x19 h31 => ?_
  refine dn ?_
  refine CV.cond h31 rfl (fun e h32 => ?_) (fun e h32 => ?_)
  ·
   subst e
   refine CV.skip (PV.thenN (CV.seq (CV.block (CV.region ?_))))
   refine mv ?_
   refine vy (V.bin0 h32 rfl rfl) fun x20 h33 => ?_
   iterate 2 refine mv ?_
   refine vy (V.ix h33 rfl rfl st9) fun x21 h34 => ?_
   refine vy (V.bin0 h34 rfl rfl) fun x22 h35 => ?_
   refine vy (V.conv h35 rfl) fun x23 h36 => ?_
   refine vy (V.bin0 h36 rfl rfl) fun x24 h37 => ?_
   refine as_ ?_
   refine LV.done (PV.blockN (PV.thenN (CV.region ?_)))
   refine mv ?_
   refine vy (V.add h37 rfl rfl) fun x25 h38 => ?_
   refine as_ ?_
   refine LV.done ?_
   exact pb8 hS h38 ⟨rfl, rfl, rfl, rfl, rfl, rfl, rfl, rfl, trivial⟩
  subst e
  refine CV.exit (PV.thenE (PV.thenE (PV.blockE (PV.thenN (CV.region ?_)))))
  iterate 2 refine mv ?_
  refine LV.bslice hS h32 rfl rfl el35 rfl rfl rfl rfl fun x26 T8 n8 h39 ρ its hS hdr => ?_
  obtain ⟨T9, its1, h40, hS, hW⟩ := shrK_inv hS h39
  refine LV.world hW ?_
  refine LV.appE hS h40 rfl rfl rfl rfl el35 rfl rfl rfl fun x27 T10 n10 h41 ρ its hS => ?_
  refine as_ ?_
  refine LV.done (PV.blockN (PV.thenN (CV.region ?_)))
  refine mv ?_
  refine vy (V.sub h41 rfl rfl) fun x28 h42 => ?_
  refine as_ ?_
  refine LV.done ?_
  exact pb6 hS h42 ⟨rfl, rfl, rfl, rfl, rfl, rfl, trivial⟩
 subst e
 refine CV.exit (PV.thenE (PV.thenE (PV.blockE (PV.thenN (sr ?_)))))
 iterate 2 refine mv ?_
 refine LV.call hS h27 (g20_ok _ _ _ _ _ ) hP rfl rfl rfl rfl fun x29 T11 n11 h43 ρ its hS => ?_
 refine LV.stA hS h43 rfl rfl rfl agg37 rfl rfl rfl fun T12 its h44 hS => ?_
 refine as_ ?_
 refine dn (CV.ret ?_)
 refine PV.ldA (x := .tmp 2) (t := 37) hS h44 rfl agg37 fun x30 h45 hVx2_30 => ?_
 cases h45
 exact PV.ret (by simp) results63 hS (RS.cell hVx2_30 (RS.tmp rfl RS.nil)) rfl
def g66 (ro : List HT) (a0 : AV) (T : HT) (nx : Nat) : R :=
 callK (g24 ro a0 T nx) fun x1 T1 n1 =>
 optK 660004 (bld82 [(1, x1)]) fun x2 =>
 boxK 660005 T1 n1 x2 82 fun x3 T2 n2 =>
 .ok (.val (.iface 80 x3)) T2 n2
theorem g66_ok (ro : List HT) (a0 : AV) (T : HT) (nx : Nat) : GOk prog envE 66 [a0] ro T nx (g66 ro a0 T nx) := by
 refine GOk.of_body func66 rfl ntmps66 (by kernel_rfl) rfl fun r T' n' h1 w0 base ρ0 its hS hP => ?_
 have X : CtxW envE ρ0 ro r T' n' := trivial
 unfold g66 at h1
 refine sr ?_
 refine as_ ?_
 refine dn (sr ?_)
 refine mv ?_
 refine LV.call hS h1 (g24_ok _ _ _ _ ) hP rfl rfl rfl rfl fun x1 T1 n1 h2 ρ its hS => ?_
 refine vy (V.bld h2 rfl) fun x2 h3 => ?_
 refine LV.box hS h3 rfl rfl rfl rfl rfl fun x3 T2 n2 h4 ρ its hS hdr => ?_
 refine sv (VAL.mkI rfl ni80) ?_
 refine as_ ?_
 refine dn (CV.ret ?_)
 cases h4
 exact PV.ret (by simp) results66 hS (RS.tmp rfl RS.nil) rfl
def g89 (ro : List HT) (T : HT) (nx : Nat) : R :=
 mkmK T nx fun x1 T1 n1 =>
 optK 890003 (bld128 [(2, x1)]) fun x2 =>
 boxK 890004 T1 n1 x2 128 fun x3 T2 n2 =>
 .ok (.val x3) T2 n2
theorem g89_ok (ro : List HT) (T : HT) (nx : Nat) : GOk prog envE 89 [] ro T nx (g89 ro T nx) := by
 refine GOk.of_body func89 rfl ntmps89 (by kernel_rfl) rfl fun r T' n' h1 w0 base ρ0 its hS hP => ?_
 have X : CtxW envE ρ0 ro r T' n' := trivial
 unfold g89 at h1
 refine sr ?_
 refine as_ ?_
 refine dn (sr ?_)
 refine LV.mkm hS h1 rfl rfl rfl rfl fun x1 T1 n1 h2 ρ its hS hdr => ?_
 refine vy (V.bld h2 rfl) fun x2 h3 => ?_
 refine LV.box hS h3 rfl rfl rfl rfl rfl fun x3 T2 n2 h4 ρ its hS hdr => ?_
 refine as_ ?_
 refine dn (CV.ret ?_)
 cases h4
 exact PV.ret (by simp) results89 hS (RS.tmp rfl RS.nil) rfl
def g69_b1 (ro : List HT) (lp1 : AV → AV → AV → HT → Nat → R) (y0 y2 y3 : AV) (T1 : HT) (n1 : Nat) : R :=
 ltK prog 3 (.tmp 7) (.tmp 8) 690009 y2 y3 fun x3 =>
 condK 690010 x3
 (
  iaK 690017 y0 y3 1 fun x4 =>
  ldK 690018 T1 ro x4 fun x5 =>
  iaK 690021 y0 y2 1 fun x6 =>
  ldK 690022 T1 ro x6 fun x7 =>
  iaK 690023 y0 y2 1 fun x8 =>
  stK 690024 T1 x8 x5 fun T2 =>
  iaK 690025 y0 y3 1 fun x9 =>
  stK 690026 T2 x9 x7 fun T3 =>
  addK prog 3 (.tmp 10) (.const (.int .i64 (.ofNat 1))) 690028 y2 (.lit (.int .i64 (.ofNat 1))) fun x10 =>
  subK prog 3 (.tmp 12) (.const (.int .i64 (.ofNat 1))) 690030 y3 (.lit (.int .i64 (.ofNat 1))) fun x11 =>
  lp1 y0 x10 x11 T3 n1
 )
 (
  .ok (.val (.tup [])) T1 n1
 )
def g69 (ro : List HT) (a0 : AV) (T : HT) (nx : Nat) : R :=
 lenSK 690002 a0 fun x1 =>
 subK prog 3 (.tmp 5) (.const (.int .i64 (.ofNat 1))) 690003 x1 (.lit (.int .i64 (.ofNat 1))) fun x2 =>
 lpf3 690006 (g69_b1 ro) 100000 a0 (.lit (.int .i64 (.ofNat 0))) x2 T nx
theorem g69_ok (ro : List HT) (a0 : AV) (T : HT) (nx : Nat) : GOk prog envE 69 [a0] ro T nx (g69 ro a0 T nx) := by
 refine GOk.of_body func69 rfl ntmps69 (by kernel_rfl) rfl fun r T' n' h1 w0 base ρ0 its hS hP => ?_
 have X : CtxW envE ρ0 ro r T' n' := trivial
 unfold g69 at h1
 refine sr ?_
 refine mv ?_
 refine vy (V.lenS h1 rfl ls64) fun x1 h2 => ?_
 refine vy (V.sub h2 rfl rfl) fun x2 h3 => ?_
 iterate 2 refine as_ ?_
 refine dn (CV.block ?_)
 refine cl3 X 0 2 3 [] hS h3 ⟨rfl, rfl, rfl, trivial⟩ ?_
 intro f1 y0 y2 y3 T1 n1 ρ its hS h4
 unfold g69_b1 at h4
 refine CV.seq (sr ?_)
 iterate 2 refine mv ?_
 refine vy (V.lt h4 rfl rfl) fun x3 h5 => ?_
 refine dn ?_
 refine CV.cond h5 rfl (fun e h6 => ?_) (fun e h6 => ?_)
 ·
  subst e
  refine CV.skip (PV.thenN (CV.seq (CV.block ?_)))
  refine CV.regionM [(0, .anywhere), (1, .anywhere), (2, .anywhere), (3, .anywhere), (4, .anywhere), (5, .anywhere), (6, .anywhere), (7, .held), (8, .anywhere), (9, .anywhere), (10, .anywhere), (11, .held), (12, .held), (13, .alone), (14, .alone), (15, .alone)] rfl (fun c a a' w hd hq => PanicOk.root (P := prog) (fn := f69) (w0 := w0) (base := base) (E := envE) (ro := ro) (r := r) (T' := T') (n' := n') (ρ0 := ρ0) c a a' w hd hq) (by kernel_rfl) ?_
  refine MV.step0 (i := 0) rfl (VAL.move rfl) rfl rfl rfl ?_
  refine MV.step0 (i := 1) rfl (VAL.move rfl) rfl rfl rfl ?_
  refine MV.step0 (i := 2) rfl (VAL.move rfl) rfl rfl rfl ?_
  refine MV.step0 (i := 3) rfl (VAL.move rfl) rfl rfl rfl ?_
  refine MV.step0 (i := 4) rfl (VAL.move rfl) rfl rfl rfl ?_
  refine MV.step0 (i := 5) rfl (VAL.move rfl) rfl rfl rfl ?_
  refine MV.lift0 (i := 6) rfl (V.ia h6 rfl rfl el64) rfl rfl rfl fun x4 h7 => ?_
  refine MV.lift1 (i := 7) rfl (fun _ z => z) (V.ld hS h7 rfl one5) rfl rfl rfl [] (by kernel_rfl) fun x5 h8 => ?_
  refine MV.step0 (i := 8) rfl (VAL.move rfl) rfl rfl rfl ?_
  refine MV.step0 (i := 9) rfl (VAL.move rfl) rfl rfl rfl ?_
  refine MV.lift0 (i := 10) rfl (V.ia h8 rfl rfl el64) rfl rfl rfl fun x6 h9 => ?_
  refine MV.lift1 (i := 11) rfl (fun _ z => z) (V.ld hS h9 rfl one5) rfl rfl rfl [7] (by kernel_rfl) fun x7 h10 => ?_
  refine MV.lift1 (i := 12) rfl (fun _ z => z) (V.ia h10 rfl rfl el64) rfl rfl rfl [] (by kernel_rfl) fun x8 h11 => ?_
  refine MV.force (i := 13) rfl ?_
  refine LV.st hS h11 rfl rfl rfl siz5 rfl rfl fun T2 its h12 hS => ?_
  refine LV.nextM [] (by kernel_rfl) (fun z => absurd rfl z) ?_
  refine MV.force (i := 14) rfl ?_
  refine vy (V.ia h12 rfl rfl el64) fun x9 h13 => ?_
  refine LV.nextM [] (by kernel_rfl) (fun z => absurd rfl z) ?_
  refine MV.force (i := 15) rfl ?_
  refine LV.st hS h13 rfl rfl rfl siz5 rfl rfl fun T3 its h14 hS => ?_
  refine LV.nextM [] (by kernel_rfl) (fun z => absurd rfl z) ?_
  refine MV.done (PV.blockN (PV.thenN (CV.region ?_)))
  refine mv ?_
  refine vy (V.add h14 rfl rfl) fun x10 h15 => ?_
  refine mv ?_
  refine vy (V.sub h15 rfl rfl) fun x11 h16 => ?_
  iterate 2 refine as_ ?_
  refine LV.done ?_
  exact pb3 hS h16 ⟨rfl, rfl, rfl, trivial⟩
 subst e
 refine CV.exit (PV.thenE (PV.thenE (PV.blockE ?_)))
 cases h6
 exact PV.ret (by simp) results69 hS RS.nil rfl
def g43_k3 (ro : List HT) (lp1 : AV → AV → AV → AV → AV → AV → HT → Nat → R) (lp2 : AV → AV → AV → AV → AV → AV → AV → AV → AV → HT → Nat → R) (y1 y2 y3 y4 y5 y6 y12 y13 y14 y32 : AV) (T4 : HT) (n4 : Nat) : R :=
 condK 430027 y32
 (
  bin0 prog .rem 60 (.tmp 36) (.const (.int .u32 (.ofNat 10))) 430030 y5 (.lit (.int .u32 (.ofNat 10))) fun x13 =>
  bin0 prog .add 60 (.const (.int .u32 (.ofNat 48))) (.tmp 37) 430031 (.lit (.int .u32 (.ofNat 48))) x13 fun x14 =>
  optK 430032 (convV prog 60 5 x14) fun x15 =>
  bsK 430033 T4 n4 1 5 1 [(0, x15)] fun x16 T5 n5 =>
  shrK 430035 T5 y3 fun T6 =>
  appEK 430034 T6 ro n5 5 1 1 y3 x16 fun x17 T7 n7 =>
  bin0 prog .quo 60 (.tmp 42) (.const (.int .u32 (.ofNat 10))) 430038 y5 (.lit (.int .u32 (.ofNat 10))) fun x18 =>
  addK prog 3 (.tmp 33) (.const (.int .i64 (.ofNat 1))) 430041 y6 (.lit (.int .i64 (.ofNat 1))) fun x19 =>
  lp2 y1 y2 x17 y4 x18 x19 y12 y13 y14 T7 n7
 )
 (
  addK prog 3 (.tmp 14) (.const (.int .i64 (.ofNat 1))) 430043 y14 (.lit (.int .i64 (.ofNat 1))) fun x20 =>
  lp1 y1 y2 y3 y12 y13 x20 T4 n4
 )
def g43_k4 (ro : List HT) (lp1 : AV → AV → AV → AV → AV → AV → HT → Nat → R) (lp2 : AV → AV → AV → AV → AV → AV → AV → AV → AV → HT → Nat → R) (y1 y2 y3 y4 y5 y6 y12 y13 y14 y31 : AV) (T8 : HT) (n8 : Nat) : R :=
 g43_k3 ro lp1 lp2 y1 y2 y3 y4 y5 y6 y12 y13 y14 y31 T8 n8
def g43_b2 (ro : List HT) (lp1 : AV → AV → AV → AV → AV → AV → HT → Nat → R) (lp2 : AV → AV → AV → AV → AV → AV → AV → AV → AV → HT → Nat → R) (y1 y2 y3 y4 y5 y6 y12 y13 y14 : AV) (T3 : HT) (n3 : Nat) : R :=
 ltK prog 3 (.tmp 19) (.const (.int .i64 (.ofNat 9))) 430025 y6 (.lit (.int .i64 (.ofNat 9))) fun x12 =>
 condK 430045 x12
 (
  faK 430047 y1 1 fun x21 =>
  ldK 430048 T3 ro x21 fun x22 =>
  lenSK 430049 x22 fun x23 =>
  subK prog 3 (.tmp 25) (.const (.int .i64 (.ofNat 1))) 430050 x23 (.lit (.int .i64 (.ofNat 1))) fun x24 =>
  ltK prog 3 (.tmp 22) (.tmp 26) 430051 y4 x24 fun x25 =>
  condK 430054 x25
  (
   g43_k4 ro lp1 lp2 y1 y2 y3 y4 y5 y6 y12 y13 y14 (.lit (.bool true)) T3 n3
  )
  (
   gtK prog 60 (.tmp 29) (.const (.int .u32 (.ofNat 0))) 430057 y5 (.lit (.int .u32 (.ofNat 0))) fun x26 =>
   g43_k4 ro lp1 lp2 y1 y2 y3 y4 y5 y6 y12 y13 y14 x26 T3 n3
  )
 )
 (
  g43_k3 ro lp1 lp2 y1 y2 y3 y4 y5 y6 y12 y13 y14 (.lit (.bool false)) T3 n3
 )
def g43_b1 (ro : List HT) (lp1 : AV → AV → AV → AV → AV → AV → HT → Nat → R) (y1 y2 y3 y12 y13 y14 : AV) (T2 : HT) (n2 : Nat) : R :=
 ltK prog 3 (.tmp 14) (.tmp 13) 430015 y14 y13 fun x9 =>
 condK 430016 x9
 (
  iaK 430018 y12 y14 1 fun x10 =>
  ldK 430019 T2 ro x10 fun x11 =>
  lpf9 430023 (g43_b2 ro lp1) 100000 y1 y2 y3 y14 x11 (.lit (.int .i64 (.ofNat 0))) y12 y13 y14 T2 n2
 )
 (
  faK 430060 y1 0 fun x27 =>
  ldK 430061 T2 ro x27 fun x28 =>
  condK 430062 x28
  (
   .bad 430063
  )
  (
   callK (g69 ro y3 T2 n2) fun x29 T9 n9 =>
   strBK 430067 T9 5 y3 fun x30 =>
   .ok (.val x30) T9 n9
  )
 )
def g43 (ro : List HT) (a0 : AV) (T : HT) (nx : Nat) : R :=
 boxK 430001 T nx a0 37 fun x1 T1 n1 =>
 faK 430003 x1 1 fun x2 =>
 ldK 430004 T1 ro x2 fun x3 =>
 lenSK 430005 x3 fun x4 =>
 eqK prog 3 (.tmp 9) (.const (.int .i64 (.ofNat 0))) 430006 x4 (.lit (.int .i64 (.ofNat 0))) fun x5 =>
 condK 430007 x5
 (
  .bad 430008
 )
 (
  faK 430010 x1 1 fun x6 =>
  ldK 430011 T1 ro x6 fun x7 =>
  lenSK 430012 x7 fun x8 =>
  lpf6 430014 (g43_b1 ro) 100000 x1 (.lit (.string ⟨⟨[]⟩⟩)) (.lit (.slice none 0 0)) x7 x8 (.lit (.int .i64 (.ofNat 0))) T1 n1
 )
theorem g43_ok (ro : List HT) (a0 : AV) (T : HT) (nx : Nat) : GOk prog envE 43 [a0] ro T nx (g43 ro a0 T nx) := by
 refine GOk.of_body func43 rfl ntmps43 (by kernel_rfl) rfl fun r T' n' h1 w0 base ρ0 its hS hP => ?_
 have X : CtxW envE ρ0 ro r T' n' := trivial
 unfold g43 at h1
 refine sr ?_
 refine LV.box hS h1 rfl rfl rfl rfl rfl fun x1 T1 n1 h2 ρ its hS hdr => ?_
 refine as_ ?_
 refine dn (CV.seq (sr ?_))
 refine vy (V.fa h2 rfl fo37_1) fun x2 h3 => ?_
 refine vy (V.ld hS h3 rfl one35) fun x3 h4 => ?_
 refine vy (V.lenS h4 rfl ls35) fun x4 h5 => ?_
 refine vy (V.eq h5 rfl rfl) fun x5 h6 => ?_
 refine dn ?_
 refine CV.cond h6 rfl (fun e h7 => ?_) (fun e h7 => ?_)
 ·
  subst e
  cases h7
 subst e
 refine CV.skip (PV.thenN (sr ?_))
 refine as_ ?_
 refine dn (CV.seq (sr ?_))
 refine vy (V.fa h7 rfl fo37_1) fun x6 h8 => ?_
 refine vy (V.ld hS h8 rfl one35) fun x7 h9 => ?_
 refine vy (V.lenS h9 rfl ls35) fun x8 h10 => ?_
 refine mv ?_
 refine dn (CV.block ?_)
 refine cl6 X 1 2 3 12 13 14 [] hS h10 ⟨rfl, rfl, rfl, rfl, rfl, rfl, trivial⟩ ?_
 intro f1 y1 y2 y3 y12 y13 y14 T2 n2 ρ its hS h11
 unfold g43_b1 at h11
 refine sr ?_
 refine vy (V.lt h11 rfl rfl) fun x9 h12 => ?_
 refine dn (CV.seq ?_)
 refine CV.cond h12 rfl (fun e h13 => ?_) (fun e h13 => ?_)
 ·
  subst e
  refine CV.skip (PV.thenN (CV.seq (CV.block (sr ?_))))
  refine mv ?_
  refine vy (V.ia h13 rfl rfl el35) fun x10 h14 => ?_
  refine vy (V.ld hS h14 rfl one60) fun x11 h15 => ?_
  iterate 2 refine as_ ?_
  refine dn (sr ?_)
  refine as_ ?_
  refine dn (CV.block ?_)
  refine cl9 X 1 2 3 4 5 6 12 13 14 [] hS h15 ⟨rfl, rfl, rfl, rfl, rfl, rfl, rfl, rfl, rfl, trivial⟩ ?_
  intro f2 y1 y2 y3 y4 y5 y6 y12 y13 y14 T3 n3 ρ its hS h16
  unfold g43_b2 at h16
  refine CV.seq (sr ?_)
  refine mv ?_
  refine vy (V.lt h16 rfl rfl) fun x12 h17 => ?_
  refine mv ?_
  refine ls10 X 1 2 3 4 5 6 12 13 14 32 [] (g43_k3 ro (lpf6 430014 (g43_b1 ro) f1) (lpf9 430023 (g43_b2 ro (lpf6 430014 (g43_b1 ro) f1)) f2)) 11 ?_ ?_
  ·
   rcases condK_inv h17 with ⟨e, h29⟩ | ⟨e, h29⟩
   ·
    subst e
    refine mv ?_
    refine vy (V.fa h29 rfl fo37_1) fun x21 h30 => ?_
    refine vy (V.ld hS h30 rfl one35) fun x22 h31 => ?_
    refine vy (V.lenS h31 rfl ls35) fun x23 h32 => ?_
    refine vy (V.sub h32 rfl rfl) fun x24 h33 => ?_
    refine vy (V.lt h33 rfl rfl) fun x25 h34 => ?_
    refine mv ?_
    refine ls10 X 1 2 3 4 5 6 12 13 14 31 [(21, (.lit (.bool true)))] (g43_k4 ro (lpf6 430014 (g43_b1 ro) f1) (lpf9 430023 (g43_b2 ro (lpf6 430014 (g43_b1 ro) f1)) f2)) 3 ?_ ?_
    ·
     rcases condK_inv h34 with ⟨e, h36⟩ | ⟨e, h36⟩
     ·
      subst e
      iterate 2 refine sk ?_
      refine pu ?_
      exact la10 hS h36 ⟨rfl, rfl, rfl, rfl, rfl, rfl, rfl, rfl, rfl, rfl, rfl, trivial⟩
     subst e
     refine mv ?_
     refine vy (V.gt h36 rfl rfl) fun x26 h37 => ?_
     refine pu ?_
     exact la10 hS h37 ⟨rfl, rfl, rfl, rfl, rfl, rfl, rfl, rfl, rfl, rfl, rfl, trivial⟩
    intro y1 y2 y3 y4 y5 y6 y12 y13 y14 y31 T8 n8 ρ its hS h35
    unfold g43_k4 at h35
    refine pu ?_
    exact la10 hS h35 ⟨rfl, rfl, rfl, rfl, rfl, rfl, rfl, rfl, rfl, rfl, trivial⟩
   subst e
   iterate 10 refine sk ?_
   refine pu ?_
   exact la10 hS h29 ⟨rfl, rfl, rfl, rfl, rfl, rfl, rfl, rfl, rfl, rfl, trivial⟩
  intro y1 y2 y3 y4 y5 y6 y12 y13 y14 y32 T4 n4 ρ its hS h18
  unfold g43_k3 at h18
  refine dn ?_
  refine CV.cond h18 rfl (fun e h19 => ?_) (fun e h19 => ?_)
  ·
   subst e
   refine CV.skip (PV.thenN (CV.seq (CV.block (sr ?_))))
   iterate 2 refine mv ?_
   refine vy (V.bin0 h19 rfl rfl) fun x13 h20 => ?_
   refine vy (V.bin0 h20 rfl rfl) fun x14 h21 => ?_
   refine vy (V.conv h21 rfl) fun x15 h22 => ?_
   refine LV.bslice hS h22 rfl rfl el64 rfl rfl rfl rfl fun x16 T5 n5 h23 ρ its hS hdr => ?_
   obtain ⟨T6, its1, h24, hS, hW⟩ := shrK_inv hS h23
   refine LV.world hW ?_
   refine LV.appE hS h24 rfl rfl rfl rfl el64 rfl rfl rfl fun x17 T7 n7 h25 ρ its hS => ?_
   refine as_ ?_
   refine dn (CV.region ?_)
   refine mv ?_
   refine vy (V.bin0 h25 rfl rfl) fun x18 h26 => ?_
   refine as_ ?_
   refine LV.done (PV.blockN (PV.thenN (CV.region ?_)))
   refine mv ?_
   refine vy (V.add h26 rfl rfl) fun x19 h27 => ?_
   refine as_ ?_
   refine LV.done ?_
   exact pb9 hS h27 ⟨rfl, rfl, rfl, rfl, rfl, rfl, rfl, rfl, rfl, trivial⟩
  subst e
  refine CV.exit (PV.thenE (PV.thenE (PV.blockE (PV.blockN (PV.thenN (CV.region ?_))))))
  refine vy (V.add h19 rfl rfl) fun x20 h28 => ?_
  refine mv ?_
  refine LV.done ?_
  exact pb6 hS h28 ⟨rfl, rfl, rfl, rfl, rfl, rfl, trivial⟩
 subst e
 refine CV.exit (PV.thenE (PV.thenE (PV.blockE (PV.thenN (CV.seq (sr ?_))))))
 refine vy (V.fa h13 rfl fo37_0) fun x27 h38 => ?_
 refine vy (V.ld hS h38 rfl one4) fun x28 h39 => ?_
 refine dn ?_
 refine CV.cond h39 rfl (fun e h40 => ?_) (fun e h40 => ?_)
 ·
  subst e
  cases h40
 subst e
 refine CV.skip (PV.thenN (sr ?_))
 refine mv ?_
 refine LV.call hS h40 (g69_ok _ _ _ _ ) hP rfl rfl rfl rfl fun x29 T9 n9 h41 ρ its hS => ?_
 refine dn (sr ?_)
 refine mv ?_
 refine vy (V.strB hS h41 rfl slt64 u8t5 st9) fun x30 h42 => ?_
 refine as_ ?_
 refine dn (CV.ret ?_)
 cases h42
 exact PV.ret (by simp) results43 hS (RS.tmp rfl RS.nil) rfl
def g150 (ro : List HT) (a0 a1 : AV) (T : HT) (nx : Nat) : R :=
 condK 1500003 a1
 (
  shrK 1500006 T a0 fun T1 =>
  appTK 1500005 T1 nx 5 a0 (.lit (.string ⟨⟨[116, 114, 117, 101]⟩⟩)) fun x1 T2 n2 =>
  .ok (.val x1) T2 n2
 )
 (
  shrK 1500010 T a0 fun T3 =>
  appTK 1500009 T3 nx 5 a0 (.lit (.string ⟨⟨[102, 97, 108, 115, 101]⟩⟩)) fun x2 T4 n4 =>
  .ok (.val x2) T4 n4
 )
theorem g150_ok (ro : List HT) (a0 a1 : AV) (T : HT) (nx : Nat) : GOk prog envE 150 [a0, a1] ro T nx (g150 ro a0 a1 T nx) := by
 refine GOk.of_body func150 rfl ntmps150 (by kernel_rfl) rfl fun r T' n' h1 w0 base ρ0 its hS hP => ?_
 have X : CtxW envE ρ0 ro r T' n' := trivial
 unfold g150 at h1
 refine sr ?_
 refine as_ ?_
 refine dn (CV.seq (sr ?_))
 refine mv ?_
 refine dn ?_
 refine CV.cond h1 rfl (fun e h2 => ?_) (fun e h2 => ?_)
 ·
  subst e
  refine sr ?_
  refine mv ?_
  obtain ⟨T1, its1, h3, hS, hW⟩ := shrK_inv hS h2
  refine LV.world hW ?_
  refine LV.appT hS h3 rfl rfl rfl rfl el64 st9 rfl rfl rfl fun x1 T2 n2 h4 ρ its hS => ?_
  refine as_ ?_
  refine dn (CV.ret (PV.thenR ?_))
  cases h4
  exact PV.ret (by simp) results150 hS (RS.tmp rfl RS.nil) rfl
 subst e
 refine CV.skip (PV.thenN (sr ?_))
 refine mv ?_
 obtain ⟨T3, its1, h5, hS, hW⟩ := shrK_inv hS h2
 refine LV.world hW ?_
 refine LV.appT hS h5 rfl rfl rfl rfl el64 st9 rfl rfl rfl fun x2 T4 n4 h6 ρ its hS => ?_
 refine as_ ?_
 refine dn (CV.ret ?_)
 cases h6
 exact PV.ret (by simp) results150 hS (RS.tmp rfl RS.nil) rfl
def g145 (ro : List HT) (a0 a1 : AV) (T : HT) (nx : Nat) : R :=
 callK (g150 ro a0 a1 T nx) fun x1 T1 n1 =>
 .ok (.val x1) T1 n1
theorem g145_ok (ro : List HT) (a0 a1 : AV) (T : HT) (nx : Nat) : GOk prog envE 145 [a0, a1] ro T nx (g145 ro a0 a1 T nx) := by
 refine GOk.of_body func145 rfl ntmps145 (by kernel_rfl) rfl fun r T' n' h1 w0 base ρ0 its hS hP => ?_
 have X : CtxW envE ρ0 ro r T' n' := trivial
 unfold g145 at h1
 refine sr ?_
 refine as_ ?_
 refine dn (sr ?_)
 iterate 2 refine mv ?_
 refine LV.call hS h1 (g150_ok _ _ _ _ _ ) hP rfl rfl rfl rfl fun x1 T1 n1 h2 ρ its hS => ?_
 refine as_ ?_
 refine dn (CV.ret ?_)
 cases h2
 exact PV.ret (by simp) results145 hS (RS.tmp rfl RS.nil) rfl
def g155 (ro : List HT) (a0 : AV) (T : HT) (nx : Nat) : R :=
 ltK prog 3 (.tmp 3) (.const (.int .i64 (.ofNat 10))) 1550003 a0 (.lit (.int .i64 (.ofNat 10))) fun x1 =>
 condK 1550004 x1
 (
  addK prog 3 (.tmp 6) (.const (.int .i64 (.ofNat 1))) 1550007 a0 (.lit (.int .i64 (.ofNat 1))) fun x2 =>
  sliceF 1550008 (.lit (.string ⟨⟨[48, 49, 50, 51, 52, 53, 54, 55, 56, 57, 97, 98, 99, 100, 101, 102, 103, 104, 105, 106, 107, 108, 109, 110, 111, 112, 113, 114, 115, 116, 117, 118, 119, 120, 121, 122]⟩⟩)) (some a0) (some x2) fun x3 =>
  .ok (.val x3) T nx
 )
 (
  bin0 prog .mul 3 (.tmp 9) (.const (.int .i64 (.ofNat 2))) 1550011 a0 (.lit (.int .i64 (.ofNat 2))) fun x4 =>
  bin0 prog .mul 3 (.tmp 11) (.const (.int .i64 (.ofNat 2))) 1550013 a0 (.lit (.int .i64 (.ofNat 2))) fun x5 =>
  addK prog 3 (.tmp 12) (.const (.int .i64 (.ofNat 2))) 1550014 x5 (.lit (.int .i64 (.ofNat 2))) fun x6 =>
  sliceF 1550015 (.lit (.string ⟨⟨[48, 48, 48, 49, 48, 50, 48, 51, 48, 52, 48, 53, 48, 54, 48, 55, 48, 56, 48, 57, 49, 48, 49, 49, 49, 50, 49, 51, 49, 52, 49, 53, 49, 54, 49, 55, 49, 56, 49, 57, 50, 48, 50, 49, 50, 50, 50, 51, 50, 52, 50, 53, 50, 54, 50, 55, 50, 56, 50, 57, 51, 48, 51, 49, 51, 50, 51, 51, 51, 52, 51, 53, 51, 54, 51, 55, 51, 56, 51, 57, 52, 48, 52, 49, 52, 50, 52, 51, 52, 52, 52, 53, 52, 54, 52, 55, 52, 56, 52, 57, 53, 48, 53, 49, 53, 50, 53, 51, 53, 52, 53, 53, 53, 54, 53, 55, 53, 56, 53, 57, 54, 48, 54, 49, 54, 50, 54, 51, 54, 52, 54, 53, 54, 54, 54, 55, 54, 56, 54, 57, 55, 48, 55, 49, 55, 50, 55, 51, 55, 52, 55, 53, 55, 54, 55, 55, 55, 56, 55, 57, 56, 48, 56, 49, 56, 50, 56, 51, 56, 52, 56, 53, 56, 54, 56, 55, 56, 56, 56, 57, 57, 48, 57, 49, 57, 50, 57, 51, 57, 52, 57, 53, 57, 54, 57, 55, 57, 56, 57, 57]⟩⟩)) (some x4) (some x6) fun x7 =>
  .ok (.val x7) T nx
 )
theorem g155_ok (ro : List HT) (a0 : AV) (T : HT) (nx : Nat) : GOk prog envE 155 [a0] ro T nx (g155 ro a0 T nx) := by
 refine GOk.of_body func155 rfl ntmps155 (by kernel_rfl) rfl fun r T' n' h1 w0 base ρ0 its hS hP => ?_
 have X : CtxW envE ρ0 ro r T' n' := trivial
 unfold g155 at h1
 refine sr ?_
 refine as_ ?_
 refine dn (CV.seq (sr ?_))
 refine mv ?_
 refine vy (V.lt h1 rfl rfl) fun x1 h2 => ?_
 refine dn ?_
 refine CV.cond h2 rfl (fun e h3 => ?_) (fun e h3 => ?_)
 ·
  subst e
  refine sr ?_
  iterate 2 refine mv ?_
  refine vy (V.add h3 rfl rfl) fun x2 h4 => ?_
  refine vy (V.slBo (sliceF_ok h4) rfl rfl rfl st9) fun x3 h5 => ?_
  refine as_ ?_
  refine dn (CV.ret (PV.thenR ?_))
  cases h5
  exact PV.ret (by simp) results155 hS (RS.tmp rfl RS.nil) rfl
 subst e
 refine CV.skip (PV.thenN (sr ?_))
 refine mv ?_
 refine vy (V.bin0 h3 rfl rfl) fun x4 h6 => ?_
 refine mv ?_
 refine vy (V.bin0 h6 rfl rfl) fun x5 h7 => ?_
 refine vy (V.add h7 rfl rfl) fun x6 h8 => ?_
 refine vy (V.slBo (sliceF_ok h8) rfl rfl rfl st9) fun x7 h9 => ?_
 refine as_ ?_
 refine dn (CV.ret ?_)
 cases h9
 exact PV.ret (by simp) results155 hS (RS.tmp rfl RS.nil) rfl
def g160 (ro : List HT) (a0 : AV) (T : HT) (nx : Nat) : R :=
 bin0 prog .mul 3 (.tmp 3) (.const (.int .i64 (.ofNat 78913))) 1600003 a0 (.lit (.int .i64 (.ofNat 78913))) fun x1 =>
 bin0 prog .shr 3 (.tmp 4) (.const (.int .u64 (.ofNat 18))) 1600004 x1 (.lit (.int .u64 (.ofNat 18))) fun x2 =>
 .ok (.val x2) T nx
theorem g160_ok (ro : List HT) (a0 : AV) (T : HT) (nx : Nat) : GOk prog envE 160 [a0] ro T nx (g160 ro a0 T nx) := by
 refine GOk.of_body func160 rfl ntmps160 (by kernel_rfl) rfl fun r T' n' h1 w0 base ρ0 its hS hP => ?_
 have X : CtxW envE ρ0 ro r T' n' := trivial
 unfold g160 at h1
 refine sr ?_
 refine as_ ?_
 refine dn (sr ?_)
 refine mv ?_
 refine vy (V.bin0 h1 rfl rfl) fun x1 h2 => ?_
 refine vy (V.bin0 h2 rfl rfl) fun x2 h3 => ?_
 refine as_ ?_
 refine dn (CV.ret ?_)
 cases h3
 exact PV.ret (by simp) results160 hS (RS.tmp rfl RS.nil) rfl
def g161_k3 (ro : List HT) (y0 y2 : AV) (T3 : HT) (n3 : Nat) : R :=
 optK 1610004 (convV prog 59 5 y0) fun x1 =>
 ixK 1610005 (.lit (.string ⟨⟨[0, 1, 2, 2, 3, 3, 3, 3, 4, 4, 4, 4, 4, 4, 4, 4, 5, 5, 5, 5, 5, 5, 5, 5, 5, 5, 5, 5, 5, 5, 5, 5, 6, 6, 6, 6, 6, 6, 6, 6, 6, 6, 6, 6, 6, 6, 6, 6, 6, 6, 6, 6, 6, 6, 6, 6, 6, 6, 6, 6, 6, 6, 6, 6, 7, 7, 7, 7, 7, 7, 7, 7, 7, 7, 7, 7, 7, 7, 7, 7, 7, 7, 7, 7, 7, 7, 7, 7, 7, 7, 7, 7, 7, 7, 7, 7, 7, 7, 7, 7, 7, 7, 7, 7, 7, 7, 7, 7, 7, 7, 7, 7, 7, 7, 7, 7, 7, 7, 7, 7, 7, 7, 7, 7, 7, 7, 7, 7, 8, 8, 8, 8, 8, 8, 8, 8, 8, 8, 8, 8, 8, 8, 8, 8, 8, 8, 8, 8, 8, 8, 8, 8, 8, 8, 8, 8, 8, 8, 8, 8, 8, 8, 8, 8, 8, 8, 8, 8, 8, 8, 8, 8, 8, 8, 8, 8, 8, 8, 8, 8, 8, 8, 8, 8, 8, 8, 8, 8, 8, 8, 8, 8, 8, 8, 8, 8, 8, 8, 8, 8, 8, 8, 8, 8, 8, 8, 8, 8, 8, 8, 8, 8, 8, 8, 8, 8, 8, 8, 8, 8, 8, 8, 8, 8, 8, 8, 8, 8, 8, 8, 8, 8, 8, 8, 8, 8, 8, 8, 8, 8, 8, 8, 8, 8, 8, 8, 8, 8, 8, 8, 8, 8, 8, 8, 8, 8]⟩⟩)) x1 fun x2 =>
 optK 1610006 (convV prog 5 3 x2) fun x3 =>
 addK prog 3 (.tmp 19) (.tmp 23) 1610007 y2 x3 fun x4 =>
 .ok (.val x4) T3 n3
def g161_k2 (ro : List HT) (y0 y2 : AV) (T2 : HT) (n2 : Nat) : R :=
 geK prog 59 (.tmp 13) (.const (.int .u64 (.ofNat 256))) 1610010 y0 (.lit (.int .u64 (.ofNat 256))) fun x5 =>
 condK 1610011 x5
 (
  bin0 prog .shr 59 (.tmp 15) (.const (.int .u64 (.ofNat 8))) 1610013 y0 (.lit (.int .u64 (.ofNat 8))) fun x6 =>
  addK prog 3 (.tmp 17) (.const (.int .i64 (.ofNat 8))) 1610016 y2 (.lit (.int .i64 (.ofNat 8))) fun x7 =>
  g161_k3 ro x6 x7 T2 n2
 )
 (
  g161_k3 ro y0 y2 T2 n2
 )
def g161_k1 (ro : List HT) (y0 y2 : AV) (T1 : HT) (n1 : Nat) : R :=
 geK prog 59 (.tmp 7) (.const (.int .u64 (.ofNat 65536))) 1610019 y0 (.lit (.int .u64 (.ofNat 65536))) fun x8 =>
 condK 1610020 x8
 (
  bin0 prog .shr 59 (.tmp 9) (.const (.int .u64 (.ofNat 16))) 1610022 y0 (.lit (.int .u64 (.ofNat 16))) fun x9 =>
  addK prog 3 (.tmp 11) (.const (.int .i64 (.ofNat 16))) 1610025 y2 (.lit (.int .i64 (.ofNat 16))) fun x10 =>
  g161_k2 ro x9 x10 T1 n1
 )
 (
  g161_k2 ro y0 y2 T1 n1
 )
def g161 (ro : List HT) (a0 : AV) (T : HT) (nx : Nat) : R :=
 geK prog 59 (.tmp 3) (.const (.int .u64 (.ofNat 4294967296))) 1610028 a0 (.lit (.int .u64 (.ofNat 4294967296))) fun x11 =>
 condK 1610029 x11
 (
  bin0 prog .shr 59 (.tmp 5) (.const (.int .u64 (.ofNat 32))) 1610031 a0 (.lit (.int .u64 (.ofNat 32))) fun x12 =>
  g161_k1 ro x12 (.lit (.int .i64 (.ofNat 32))) T nx
 )
 (
  g161_k1 ro a0 (.lit (.int .i64 (.ofNat 0))) T nx
 )
theorem g161_ok (ro : List HT) (a0 : AV) (T : HT) (nx : Nat) : GOk prog envE 161 [a0] ro T nx (g161 ro a0 T nx) := by
 refine GOk.of_body func161 rfl ntmps161 (by kernel_rfl) rfl fun r T' n' h1 w0 base ρ0 its hS hP => ?_
 have X : CtxW envE ρ0 ro r T' n' := trivial
 unfold g161 at h1
 refine sr ?_
 refine as_ ?_
 refine dn ?_
 refine cs2 X 0 2 [] (g161_k1 ro) ?_ ?_
 ·
  refine sr ?_
  refine mv ?_
  refine vy (V.ge h1 rfl rfl) fun x11 h17 => ?_
  refine dn ?_
  refine CV.cond h17 rfl (fun e h18 => ?_) (fun e h18 => ?_)
  ·
   subst e
   refine sr ?_
   refine mv ?_
   refine vy (V.bin0 h18 rfl rfl) fun x12 h19 => ?_
   refine as_ ?_
   refine dn (CV.region ?_)
   refine as_ ?_
   refine LV.done ?_
   exact pa2 hS h19 ⟨rfl, rfl, trivial⟩
  subst e
  refine CV.skip ?_
  exact pa2 hS h18 ⟨rfl, rfl, trivial⟩
 intro y0 y2 T1 n1 ρ its hS h2
 unfold g161_k1 at h2
 refine cs2 X 0 2 [] (g161_k2 ro) ?_ ?_
 ·
  refine sr ?_
  refine mv ?_
  refine vy (V.ge h2 rfl rfl) fun x8 h13 => ?_
  refine dn ?_
  refine CV.cond h13 rfl (fun e h14 => ?_) (fun e h14 => ?_)
  ·
   subst e
   refine sr ?_
   refine mv ?_
   refine vy (V.bin0 h14 rfl rfl) fun x9 h15 => ?_
   refine as_ ?_
   refine dn (CV.region ?_)
   refine mv ?_
   refine vy (V.add h15 rfl rfl) fun x10 h16 => ?_
   refine as_ ?_
   refine LV.done ?_
   exact pa2 hS h16 ⟨rfl, rfl, trivial⟩
  subst e
  refine CV.skip ?_
  exact pa2 hS h14 ⟨rfl, rfl, trivial⟩
 intro y0 y2 T2 n2 ρ its hS h3
 unfold g161_k2 at h3
 refine cs2 X 0 2 [] (g161_k3 ro) ?_ ?_
 ·
  refine sr ?_
  refine mv ?_
  refine vy (V.ge h3 rfl rfl) fun x5 h9 => ?_
  refine dn ?_
  refine CV.cond h9 rfl (fun e h10 => ?_) (fun e h10 => ?_)
  ·
   subst e
   refine sr ?_
   refine mv ?_
   refine vy (V.bin0 h10 rfl rfl) fun x6 h11 => ?_
   refine as_ ?_
   refine dn (CV.region ?_)
   refine mv ?_
   refine vy (V.add h11 rfl rfl) fun x7 h12 => ?_
   refine as_ ?_
   refine LV.done ?_
   exact pa2 hS h12 ⟨rfl, rfl, trivial⟩
  subst e
  refine CV.skip ?_
  exact pa2 hS h10 ⟨rfl, rfl, trivial⟩
 intro y0 y2 T3 n3 ρ its hS h4
 unfold g161_k3 at h4
 refine sr ?_
 iterate 2 refine mv ?_
 refine vy (V.conv h4 rfl) fun x1 h5 => ?_
 refine vy (V.ix h5 rfl rfl st9) fun x2 h6 => ?_
 refine vy (V.conv h6 rfl) fun x3 h7 => ?_
 refine vy (V.add h7 rfl rfl) fun x4 h8 => ?_
 refine as_ ?_
 refine dn (CV.ret ?_)
 cases h8
 exact PV.ret (by simp) results161 hS (RS.tmp rfl RS.nil) rfl
def g162 (ro : List HT) (a0 : AV) (T : HT) (nx : Nat) : R :=
 condK 1620003 a0
 (
  .ok (.val (.lit (.int .i64 (.ofNat 1)))) T nx
 )
 (
  .ok (.val (.lit (.int .i64 (.ofNat 0)))) T nx
 )
theorem g162_ok (ro : List HT) (a0 : AV) (T : HT) (nx : Nat) : GOk prog envE 162 [a0] ro T nx (g162 ro a0 T nx) := by
 refine GOk.of_body func162 rfl ntmps162 (by kernel_rfl) rfl fun r T' n' h1 w0 base ρ0 its hS hP => ?_
 have X : CtxW envE ρ0 ro r T' n' := trivial
 unfold g162 at h1
 refine sr ?_
 refine as_ ?_
 refine dn (CV.seq (sr ?_))
 refine mv ?_
 refine dn ?_
 refine CV.cond h1 rfl (fun e h2 => ?_) (fun e h2 => ?_)
 ·
  subst e
  refine sr ?_
  refine as_ ?_
  refine dn (CV.ret (PV.thenR ?_))
  cases h2
  exact PV.ret (by simp) results162 hS (RS.tmp rfl RS.nil) rfl
 subst e
 refine CV.skip (PV.thenN (sr ?_))
 refine as_ ?_
 refine dn (CV.ret ?_)
 cases h2
 exact PV.ret (by simp) results162 hS (RS.tmp rfl RS.nil) rfl
def g156 (ro : List HT) (a0 : AV) (T : HT) (nx : Nat) : R :=
 callK (g161 ro a0 T nx) fun x1 T1 n1 =>
 callK (g160 ro x1 T1 n1) fun x2 T2 n2 =>
 .bad 1560010
theorem g156_ok (ro : List HT) (a0 : AV) (T : HT) (nx : Nat) : GOk prog envE 156 [a0] ro T nx (g156 ro a0 T nx) := by
 refine GOk.of_body func156 rfl ntmps156 (by kernel_rfl) rfl fun r T' n' h1 w0 base ρ0 its hS hP => ?_
 have X : CtxW envE ρ0 ro r T' n' := trivial
 unfold g156 at h1
 refine sr ?_
 refine as_ ?_
 refine dn (sr ?_)
 refine mv ?_
 refine LV.call hS h1 (g161_ok _ _ _ _ ) hP rfl rfl rfl rfl fun x1 T1 n1 h2 ρ its hS => ?_
 refine LV.call hS h2 (g160_ok _ _ _ _ ) hP rfl rfl rfl rfl fun x2 T2 n2 h3 ρ its hS => ?_
 refine as_ ?_
 refine dn (sr ?_)
 iterate 3 refine mv ?_
 cases h3

end
end Go.Proofs.YtljaoofbklkglaaGreatDoor.Vo
