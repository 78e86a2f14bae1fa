/-
  Proved here: plain functions that do what the program's functions do, each with its proof.
-/
import Derived.Test.YtljaoofbklkglaaGreatDoorVof
namespace Go.Proofs.YtljaoofbklkglaaGreatDoor.Vo
open Go.EY Go.EX Go.SX Go.RowKit
open Tryz Vof
noncomputable section
def envE : List (Nat × AV) := [(5, (.iface 241 (.opq 0))), (4, (.iface 241 (.opq 1))), (6, (.iface 241 (.opq 2))), (0, (.iface 241 (.opq 3))), (7, (.iface 241 (.opq 4))), (8, (.iface 241 (.opq 5))), (9, (.iface 241 (.opq 6))), (2, (.iface 241 (.opq 7))), (10, (.iface 241 (.opq 8))), (3, (.iface 241 (.opq 9))), (11, (.iface 241 (.opq 10))), (12, (.iface 241 (.opq 11))), (1, (.iface 241 (.opq 12))), (13, (.iface 241 (.opq 13))), (14, (.iface 241 (.opq 14))), (15, (.iface 241 (.opq 15))), (16, (.iface 241 (.opq 16)))]
def bld37 (ps : List (Nat × AV)) : Option AV := (placesA prog 37).bind fun q => (fillA q.2 (q.1.map .lit) ps).map .agg
def bld48 (ps : List (Nat × AV)) : Option AV := (placesA prog 48).bind fun q => (fillA q.2 (q.1.map .lit) ps).map .agg
def bld58 (ps : List (Nat × AV)) : Option AV := (placesA prog 58).bind fun q => (fillA q.2 (q.1.map .lit) ps).map .agg
def bld66 (ps : List (Nat × AV)) : Option AV := (placesA prog 66).bind fun q => (fillA q.2 (q.1.map .lit) ps).map .agg
def bld70 (ps : List (Nat × AV)) : Option AV := (placesA prog 70).bind fun q => (fillA q.2 (q.1.map .lit) ps).map .agg
def bld74 (ps : List (Nat × AV)) : Option AV := (placesA prog 74).bind fun q => (fillA q.2 (q.1.map .lit) ps).map .agg
def bld82 (ps : List (Nat × AV)) : Option AV := (placesA prog 82).bind fun q => (fillA q.2 (q.1.map .lit) ps).map .agg
def bld84 (ps : List (Nat × AV)) : Option AV := (placesA prog 84).bind fun q => (fillA q.2 (q.1.map .lit) ps).map .agg
def bld99 (ps : List (Nat × AV)) : Option AV := (placesA prog 99).bind fun q => (fillA q.2 (q.1.map .lit) ps).map .agg
def bld105 (ps : List (Nat × AV)) : Option AV := (placesA prog 105).bind fun q => (fillA q.2 (q.1.map .lit) ps).map .agg
def bld128 (ps : List (Nat × AV)) : Option AV := (placesA prog 128).bind fun q => (fillA q.2 (q.1.map .lit) ps).map .agg
def bld131 (ps : List (Nat × AV)) : Option AV := (placesA prog 131).bind fun q => (fillA q.2 (q.1.map .lit) ps).map .agg
def bld139 (ps : List (Nat × AV)) : Option AV := (placesA prog 139).bind fun q => (fillA q.2 (q.1.map .lit) ps).map .agg
def bld144 (ps : List (Nat × AV)) : Option AV := (placesA prog 144).bind fun q => (fillA q.2 (q.1.map .lit) ps).map .agg
def bld148 (ps : List (Nat × AV)) : Option AV := (placesA prog 148).bind fun q => (fillA q.2 (q.1.map .lit) ps).map .agg
def bld152 (ps : List (Nat × AV)) : Option AV := (placesA prog 152).bind fun q => (fillA q.2 (q.1.map .lit) ps).map .agg
def bld174 (ps : List (Nat × AV)) : Option AV := (placesA prog 174).bind fun q => (fillA q.2 (q.1.map .lit) ps).map .agg
def bld218 (ps : List (Nat × AV)) : Option AV := (placesA prog 218).bind fun q => (fillA q.2 (q.1.map .lit) ps).map .agg
def g25_k1 (ro : List HT) (y20 : AV) (T2 : HT) (n2 : Nat) : R :=
 condK 250011 y20
 (
  .bad 250012
 )
 (
  .ok (.val (.lit (.nilIface))) T2 n2
 )
def g25 (ro : List HT) (a0 a1 : AV) (T : HT) (nx : Nat) : R :=
 fldK 250003 T ro a0 0 fun x1 =>
 subK prog 3 (.tmp 8) (.const (.int .i64 (.ofNat 1))) 250004 x1 (.lit (.int .i64 (.ofNat 1))) fun x2 =>
 faK 250005 a0 0 fun x3 =>
 stK 250006 T x3 x2 fun T1 =>
 fldK 250008 T1 ro a0 0 fun x4 =>
 ltK prog 3 (.tmp 15) (.const (.int .i64 (.ofNat 0))) 250009 x4 (.lit (.int .i64 (.ofNat 0))) fun x5 =>
 condK 250014 x5
 (
  g25_k1 ro (.lit (.bool true)) T1 nx
 )
 (
  gtK prog 3 (.tmp 18) (.const (.int .i64 (.ofNat 60))) 250017 a1 (.lit (.int .i64 (.ofNat 60))) fun x6 =>
  g25_k1 ro x6 T1 nx
 )
theorem g25_ok (ro : List HT) (a0 a1 : AV) (T : HT) (nx : Nat) : GOk prog envE 25 [a0, a1] ro T nx (g25 ro a0 a1 T nx) := by
 refine GOk.of_body func25 rfl ntmps25 (by kernel_rfl) rfl fun r T' n' h1 w0 base ρ0 its hS hP => ?_
 have X : CtxW envE ρ0 ro r T' n' := trivial
 unfold g25 at h1
 refine sr ?_
 refine as_ ?_
 refine dn (CV.seq (sr ?_))
 refine mv ?_
 refine fl hS h1 fo48_0 one3 fun x1 h2 => ?_
 refine vy (V.sub h2 rfl rfl) fun x2 h3 => ?_
 refine fa2 h3 fo48_0 fun x3 h4 => ?_
 refine LV.st hS h4 rfl rfl rfl siz3 rfl rfl fun T1 its h5 hS => ?_
 refine dn (sr ?_)
 refine mv ?_
 refine fl hS h5 fo48_0 one3 fun x4 h6 => ?_
 refine vy (V.lt h6 rfl rfl) fun x5 h7 => ?_
 refine mv ?_
 refine ls1 X 20 [(4, (.lit (.nilIface)))] (g25_k1 ro) 3 ?_ ?_
 ·
  rcases condK_inv h7 with ⟨e, h10⟩ | ⟨e, h10⟩
  ·
   subst e
   iterate 2 refine sk ?_
   refine pu ?_
   exact la1 hS h10 ⟨rfl, rfl, trivial⟩
  subst e
  refine mv ?_
  refine vy (V.gt h10 rfl rfl) fun x6 h11 => ?_
  refine pu ?_
  exact la1 hS h11 ⟨rfl, rfl, trivial⟩
 intro y20 T2 n2 ρ its hS h8
 unfold g25_k1 at h8
 refine dn ?_
 refine CV.cond h8 rfl (fun e h9 => ?_) (fun e h9 => ?_)
 ·
  subst e
  cases h9
 subst e
 refine CV.skip (PV.thenN (sr ?_))
 refine as_ ?_
 refine dn (CV.ret ?_)
 cases h9
 exact PV.ret (by simp) results25 hS (RS.tmp rfl RS.nil) rfl
def g50 (ro : List HT) (a0 : AV) (T : HT) (nx : Nat) : R :=
 ltK prog 3 (.tmp 4) (.const (.int .i64 (.ofNat 0))) 500003 a0 (.lit (.int .i64 (.ofNat 0))) fun x1 =>
 condK 500005 x1
 (
  .ok (.val (.lit (.int .i64 (.negSucc 0)))) T nx
 )
 (
  gtK prog 3 (.tmp 7) (.const (.int .i64 (.ofNat 0))) 500008 a0 (.lit (.int .i64 (.ofNat 0))) fun x2 =>
  condK 500010 x2
  (
   .bad 500011
  )
  (
   .ok (.val (.lit (.int .i64 (.ofNat 0)))) T nx
  )
 )
theorem g50_ok (ro : List HT) (a0 : AV) (T : HT) (nx : Nat) : GOk prog envE 50 [a0] ro T nx (g50 ro a0 T nx) := by
 refine GOk.of_body func50 rfl ntmps50 (by kernel_rfl) rfl fun r T' n' h1 w0 base ρ0 its hS hP => ?_
 have X : CtxW envE ρ0 ro r T' n' := trivial
 unfold g50 at h1
 refine sr ?_
 refine as_ ?_
 refine dn (CV.seq (CV.block (sr ?_)))
 refine mv ?_
 refine vy (V.lt h1 rfl rfl) fun x1 h2 => ?_
 refine as_ ?_
 refine dn ?_
 refine CV.cond h2 rfl (fun e h3 => ?_) (fun e h3 => ?_)
 ·
  subst e
  refine sr ?_
  refine as_ ?_
  refine dn (CV.ret (PV.blockR (PV.thenR ?_)))
  cases h3
  exact PV.ret (by simp) results50 hS (RS.tmp rfl RS.nil) rfl
 subst e
 refine sr ?_
 refine mv ?_
 refine vy (V.gt h3 rfl rfl) fun x2 h4 => ?_
 refine as_ ?_
 refine dn ?_
 refine CV.cond h4 rfl (fun e h5 => ?_) (fun e h5 => ?_)
 ·
  subst e
  cases h5
 subst e
 refine CV.skip (PV.blockN (PV.thenN (sr ?_)))
 refine as_ ?_
 refine dn (CV.ret ?_)
 cases h5
 exact PV.ret (by simp) results50 hS (RS.tmp rfl RS.nil) rfl
def g51_b1 (ro : List HT) (lp1 : AV → AV → AV → AV → HT → Nat → R) (y0 y1 y4 y5 : AV) (T1 : HT) (n1 : Nat) : R :=
 geK prog 3 (.tmp 19) (.const (.int .i64 (.ofNat 0))) 510015 y5 (.lit (.int .i64 (.ofNat 0))) fun x6 =>
 condK 510016 x6
 (
  iaK 510019 y0 y5 1 fun x7 =>
  ldK 510020 T1 ro x7 fun x8 =>
  iaK 510023 y1 y5 1 fun x9 =>
  ldK 510024 T1 ro x9 fun x10 =>
  neK prog 60 (.tmp 26) (.tmp 30) 510025 x8 x10 fun x11 =>
  condK 510026 x11
  (
   iaK 510029 y0 y5 1 fun x12 =>
   ldK 510030 T1 ro x12 fun x13 =>
   optK 510031 (convV prog 60 3 x13) fun x14 =>
   iaK 510034 y1 y5 1 fun x15 =>
   ldK 510035 T1 ro x15 fun x16 =>
   optK 510036 (convV prog 60 3 x16) fun x17 =>
   subK prog 3 (.tmp 36) (.tmp 41) 510037 x14 x17 fun x18 =>
   .ok (.val x18) T1 n1
  )
  (
   subK prog 3 (.tmp 21) (.const (.int .i64 (.ofNat 1))) 510040 y5 (.lit (.int .i64 (.ofNat 1))) fun x19 =>
   lp1 y0 y1 y4 x19 T1 n1
  )
 )
 (
  .ok (.val (.lit (.int .i64 (.ofNat 0)))) T1 n1
 )
def g51 (ro : List HT) (a0 a1 : AV) (T : HT) (nx : Nat) : R :=
 lenSK 510003 a0 fun x1 =>
 lenSK 510005 a1 fun x2 =>
 neK prog 3 (.tmp 7) (.tmp 9) 510006 x1 x2 fun x3 =>
 condK 510007 x3
 (
  .bad 510008
 )
 (
  lenSK 510010 a0 fun x4 =>
  subK prog 3 (.tmp 17) (.const (.int .i64 (.ofNat 1))) 510011 x4 (.lit (.int .i64 (.ofNat 1))) fun x5 =>
  lpf4 510013 (g51_b1 ro) 100000 a0 a1 (.lit (.int .i64 (.ofNat 0))) x5 T nx
 )
theorem g51_ok (ro : List HT) (a0 a1 : AV) (T : HT) (nx : Nat) : GOk prog envE 51 [a0, a1] ro T nx (g51 ro a0 a1 T nx) := by
 refine GOk.of_body func51 rfl ntmps51 (by kernel_rfl) rfl fun r T' n' h1 w0 base ρ0 its hS hP => ?_
 have X : CtxW envE ρ0 ro r T' n' := trivial
 unfold g51 at h1
 refine sr ?_
 refine as_ ?_
 refine dn (CV.seq (sr ?_))
 refine mv ?_
 refine vy (V.lenS h1 rfl ls35) fun x1 h2 => ?_
 refine mv ?_
 refine vy (V.lenS h2 rfl ls35) fun x2 h3 => ?_
 refine vy (V.ne h3 rfl rfl) fun x3 h4 => ?_
 refine dn ?_
 refine CV.cond h4 rfl (fun e h5 => ?_) (fun e h5 => ?_)
 ·
  subst e
  cases h5
 subst e
 refine CV.skip (PV.thenN (CV.seq (sr ?_)))
 refine mv ?_
 refine vy (V.lenS h5 rfl ls35) fun x4 h6 => ?_
 refine vy (V.sub h6 rfl rfl) fun x5 h7 => ?_
 refine as_ ?_
 refine dn (CV.block ?_)
 refine cl4 X 0 1 4 5 [] hS h7 ⟨rfl, rfl, rfl, rfl, trivial⟩ ?_
 intro f1 y0 y1 y4 y5 T1 n1 ρ its hS h8
 unfold g51_b1 at h8
 refine CV.seq (sr ?_)
 refine mv ?_
 refine vy (V.ge h8 rfl rfl) fun x6 h9 => ?_
 refine dn ?_
 refine CV.cond h9 rfl (fun e h10 => ?_) (fun e h10 => ?_)
 ·
  subst e
  refine CV.skip (PV.thenN (CV.seq (CV.block (CV.seq ?_))))
  refine CV.regionM [(0, .anywhere), (1, .anywhere), (2, .anywhere), (3, .held), (4, .anywhere), (5, .anywhere), (6, .anywhere), (7, .held), (8, .held)] rfl (fun c a a' w hd hq => PanicOk.root (P := prog) (fn := f51) (w0 := w0) (base := base) (E := envE) (ro := ro) (r := r) (T' := T') (n' := n') (ρ0 := ρ0) c a a' w hd hq) (by kernel_rfl) ?_
  refine MV.step0 (i := 0) rfl (VAL.move rfl) rfl rfl rfl ?_
  refine MV.step0 (i := 1) rfl (VAL.move rfl) rfl rfl rfl ?_
  refine MV.lift0 (i := 2) rfl (V.ia h10 rfl rfl el35) rfl rfl rfl fun x7 h11 => ?_
  refine MV.lift1 (i := 3) rfl (fun _ z => z) (V.ld hS h11 rfl one60) rfl rfl rfl [] (by kernel_rfl) fun x8 h12 => ?_
  refine MV.step0 (i := 4) rfl (VAL.move rfl) rfl rfl rfl ?_
  refine MV.step0 (i := 5) rfl (VAL.move rfl) rfl rfl rfl ?_
  refine MV.lift0 (i := 6) rfl (V.ia h12 rfl rfl el35) rfl rfl rfl fun x9 h13 => ?_
  refine MV.lift1 (i := 7) rfl (fun _ z => z) (V.ld hS h13 rfl one60) rfl rfl rfl [3] (by kernel_rfl) fun x10 h14 => ?_
  refine MV.lift1 (i := 8) rfl (fun _ z => z) (V.ne h14 rfl rfl) rfl rfl rfl [] (by kernel_rfl) fun x11 h15 => ?_
  refine mdn ?_
  refine CV.cond h15 rfl (fun e h16 => ?_) (fun e h16 => ?_)
  ·
   subst e
   refine CV.seq ?_
   refine CV.regionM [(0, .anywhere), (1, .anywhere), (2, .anywhere), (3, .held), (4, .held), (5, .anywhere), (6, .anywhere), (7, .anywhere), (8, .held), (9, .held), (10, .held), (11, .held)] rfl (fun c a a' w hd hq => PanicOk.root (P := prog) (fn := f51) (w0 := w0) (base := base) (E := envE) (ro := ro) (r := r) (T' := T') (n' := n') (ρ0 := ρ0) c a a' w hd hq) (by kernel_rfl) ?_
   refine MV.step0 (i := 0) rfl (VAL.move rfl) rfl rfl rfl ?_
   refine MV.step0 (i := 1) rfl (VAL.move rfl) rfl rfl rfl ?_
   refine MV.lift0 (i := 2) rfl (V.ia h16 rfl rfl el35) rfl rfl rfl fun x12 h17 => ?_
   refine MV.lift1 (i := 3) rfl (fun _ z => z) (V.ld hS h17 rfl one60) rfl rfl rfl [] (by kernel_rfl) fun x13 h18 => ?_
   refine MV.lift1 (i := 4) rfl (fun _ z => z) (V.conv h18 rfl) rfl rfl rfl [] (by kernel_rfl) fun x14 h19 => ?_
   refine MV.step0 (i := 5) rfl (VAL.move rfl) rfl rfl rfl ?_
   refine MV.step0 (i := 6) rfl (VAL.move rfl) rfl rfl rfl ?_
   refine MV.lift0 (i := 7) rfl (V.ia h19 rfl rfl el35) rfl rfl rfl fun x15 h20 => ?_
   refine MV.lift1 (i := 8) rfl (fun _ z => z) (V.ld hS h20 rfl one60) rfl rfl rfl [4] (by kernel_rfl) fun x16 h21 => ?_
   refine MV.lift1 (i := 9) rfl (fun _ z => z) (V.conv h21 rfl) rfl rfl rfl [4] (by kernel_rfl) fun x17 h22 => ?_
   refine MV.lift1 (i := 10) rfl (fun _ z => z) (V.sub h22 rfl rfl) rfl rfl rfl [] (by kernel_rfl) fun x18 h23 => ?_
   refine MV.step1 (i := 11) rfl (fun _ z => z) (VAL.assign rfl) rfl rfl rfl [] (by kernel_rfl) ?_
   refine mdn (CV.ret (PV.blockR (PV.thenR (PV.thenR (PV.blockR (PV.thenR ?_))))))
   cases h23
   exact PV.ret (by simp) results51 hS (RS.tmp rfl RS.nil) rfl
  subst e
  refine CV.skip (PV.blockN (PV.thenN (CV.region ?_)))
  refine mv ?_
  refine vy (V.sub h16 rfl rfl) fun x19 h24 => ?_
  refine as_ ?_
  refine LV.done ?_
  exact pb4 hS h24 ⟨rfl, rfl, rfl, rfl, trivial⟩
 subst e
 refine CV.exit (PV.thenE (PV.thenE (PV.blockE (PV.thenN (sr ?_)))))
 refine as_ ?_
 refine dn (CV.ret ?_)
 cases h10
 exact PV.ret (by simp) results51 hS (RS.tmp rfl RS.nil) rfl
def g26_k1 (ro : List HT) (y2 y3 y14 : AV) (T3 : HT) (n3 : Nat) : R :=
 condK 260011 y14
 (
  .bad 260012
 )
 (
  faK 260013 y2 0 fun x8 =>
  ldK 260014 T3 ro x8 fun x9 =>
  faK 260015 y3 0 fun x10 =>
  ldK 260016 T3 ro x10 fun x11 =>
  bin0 prog .neq 4 (.tmp 17) (.tmp 19) 260017 x9 x11 fun x12 =>
  condK 260019 x12
  (
   .bad 260020
  )
  (
   faK 260021 y2 0 fun x13 =>
   ldK 260022 T3 ro x13 fun x14 =>
   condK 260024 x14
   (
    .bad 260025
   )
   (
    faK 260026 y2 1 fun x15 =>
    ldK 260027 T3 ro x15 fun x16 =>
    faK 260028 y3 1 fun x17 =>
    ldK 260029 T3 ro x17 fun x18 =>
    callK (g51 ro x16 x18 T3 n3) fun x19 T4 n4 =>
    callK (g50 ro x19 T4 n4) fun x20 T5 n5 =>
    .ok (.val x20) T5 n5
   )
  )
 )
def g26 (ro : List HT) (a0 a1 : AV) (T : HT) (nx : Nat) : R :=
 boxK 260001 T nx a0 37 fun x1 T1 n1 =>
 boxK 260002 T1 n1 a1 37 fun x2 T2 n2 =>
 faK 260004 x1 0 fun x3 =>
 ldK 260005 T2 ro x3 fun x4 =>
 faK 260006 x2 0 fun x5 =>
 ldK 260007 T2 ro x5 fun x6 =>
 bin0 prog .neq 4 (.tmp 7) (.tmp 9) 260008 x4 x6 fun x7 =>
 condK 260033 x7
 (
  faK 260034 x1 0 fun x21 =>
  ldK 260035 T2 ro x21 fun x22 =>
  g26_k1 ro x1 x2 x22 T2 n2
 )
 (
  g26_k1 ro x1 x2 (.lit (.bool false)) T2 n2
 )
theorem g26_ok (ro : List HT) (a0 a1 : AV) (T : HT) (nx : Nat) : GOk prog envE 26 [a0, a1] ro T nx (g26 ro a0 a1 T nx) := by
 refine GOk.of_body func26 rfl ntmps26 (by kernel_rfl) rfl fun r T' n' h1 w0 base ρ0 its hS hP => ?_
 have X : CtxW envE ρ0 ro r T' n' := trivial
 unfold g26 at h1
 refine sr ?_
 refine LV.box hS h1 rfl rfl rfl rfl rfl fun x1 T1 n1 h2 ρ its hS hdr => ?_
 refine LV.box hS h2 rfl rfl rfl rfl rfl fun x2 T2 n2 h3 ρ its hS hdr => ?_
 refine as_ ?_
 refine dn (CV.seq (CV.block (sr ?_)))
 refine vy (V.fa h3 rfl fo37_0) fun x3 h4 => ?_
 refine vy (V.ld hS h4 rfl one4) fun x4 h5 => ?_
 refine vy (V.fa h5 rfl fo37_0) fun x5 h6 => ?_
 refine vy (V.ld hS h6 rfl one4) fun x6 h7 => ?_
 refine vy (V.bin0 h7 rfl rfl) fun x7 h8 => ?_
 refine mv ?_
 refine ls3 X 2 3 14 [(4, (.lit (.int .i64 (.ofNat 0))))] (g26_k1 ro) 3 ?_ ?_
 ·
  rcases condK_inv h8 with ⟨e, h26⟩ | ⟨e, h26⟩
  ·
   subst e
   refine vy (V.fa h26 rfl fo37_0) fun x21 h27 => ?_
   refine vy (V.ld hS h27 rfl one4) fun x22 h28 => ?_
   refine pu ?_
   exact la3 hS h28 ⟨rfl, rfl, rfl, rfl, trivial⟩
  subst e
  iterate 2 refine sk ?_
  refine pu ?_
  exact la3 hS h26 ⟨rfl, rfl, rfl, rfl, trivial⟩
 intro y2 y3 y14 T3 n3 ρ its hS h9
 unfold g26_k1 at h9
 refine as_ ?_
 refine dn ?_
 refine CV.cond h9 rfl (fun e h10 => ?_) (fun e h10 => ?_)
 ·
  subst e
  cases h10
 subst e
 refine sr ?_
 refine vy (V.fa h10 rfl fo37_0) fun x8 h11 => ?_
 refine vy (V.ld hS h11 rfl one4) fun x9 h12 => ?_
 refine vy (V.fa h12 rfl fo37_0) fun x10 h13 => ?_
 refine vy (V.ld hS h13 rfl one4) fun x11 h14 => ?_
 refine vy (V.bin0 h14 rfl rfl) fun x12 h15 => ?_
 refine as_ ?_
 refine dn ?_
 refine CV.cond h15 rfl (fun e h16 => ?_) (fun e h16 => ?_)
 ·
  subst e
  cases h16
 subst e
 refine sr ?_
 refine vy (V.fa h16 rfl fo37_0) fun x13 h17 => ?_
 refine vy (V.ld hS h17 rfl one4) fun x14 h18 => ?_
 refine as_ ?_
 refine dn ?_
 refine CV.cond h18 rfl (fun e h19 => ?_) (fun e h19 => ?_)
 ·
  subst e
  cases h19
 subst e
 refine CV.skip (PV.blockN (PV.thenN (sr ?_)))
 refine vy (V.fa h19 rfl fo37_1) fun x15 h20 => ?_
 refine vy (V.ld hS h20 rfl one35) fun x16 h21 => ?_
 refine vy (V.fa h21 rfl fo37_1) fun x17 h22 => ?_
 refine vy (V.ld hS h22 rfl one35) fun x18 h23 => ?_
 refine LV.call hS h23 (g51_ok _ _ _ _ _ ) hP rfl rfl rfl rfl fun x19 T4 n4 h24 ρ its hS => ?_
 refine LV.call hS h24 (g50_ok _ _ _ _ ) hP rfl rfl rfl rfl fun x20 T5 n5 h25 ρ its hS => ?_
 refine as_ ?_
 refine dn (CV.ret ?_)
 cases h25
 exact PV.ret (by simp) results26 hS (RS.tmp rfl RS.nil) rfl
def g52_k1 (ro : List HT) (y10 : AV) (T1 : HT) (n1 : Nat) : R :=
 condK 520005 y10
 (
  .bad 520006
 )
 (
  .ok (.val (.lit (.nilIface))) T1 n1
 )
def g52 (ro : List HT) (a0 a1 : AV) (T : HT) (nx : Nat) : R :=
 eqK prog 3 (.tmp 5) (.const (.int .i64 (.ofNat 0))) 520003 a0 (.lit (.int .i64 (.ofNat 0))) fun x1 =>
 condK 520008 x1
 (
  geK prog 3 (.tmp 8) (.const (.int .i64 (.ofNat 60))) 520010 a1 (.lit (.int .i64 (.ofNat 60))) fun x2 =>
  g52_k1 ro x2 T nx
 )
 (
  g52_k1 ro (.lit (.bool false)) T nx
 )
theorem g52_ok (ro : List HT) (a0 a1 : AV) (T : HT) (nx : Nat) : GOk prog envE 52 [a0, a1] ro T nx (g52 ro a0 a1 T nx) := by
 refine GOk.of_body func52 rfl ntmps52 (by kernel_rfl) rfl fun r T' n' h1 w0 base ρ0 its hS hP => ?_
 have X : CtxW envE ρ0 ro r T' n' := trivial
 unfold g52 at h1
 refine sr ?_
 refine as_ ?_
 refine dn (CV.seq (sr ?_))
 refine mv ?_
 refine vy (V.eq h1 rfl rfl) fun x1 h2 => ?_
 refine mv ?_
 refine ls1 X 10 [(4, (.lit (.nilIface)))] (g52_k1 ro) 3 ?_ ?_
 ·
  rcases condK_inv h2 with ⟨e, h5⟩ | ⟨e, h5⟩
  ·
   subst e
   refine mv ?_
   refine vy (V.ge h5 rfl rfl) fun x2 h6 => ?_
   refine pu ?_
   exact la1 hS h6 ⟨rfl, rfl, trivial⟩
  subst e
  iterate 2 refine sk ?_
  refine pu ?_
  exact la1 hS h5 ⟨rfl, rfl, trivial⟩
 intro y10 T1 n1 ρ its hS h3
 unfold g52_k1 at h3
 refine dn ?_
 refine CV.cond h3 rfl (fun e h4 => ?_) (fun e h4 => ?_)
 ·
  subst e
  cases h4
 subst e
 refine CV.skip (PV.thenN (sr ?_))
 refine as_ ?_
 refine dn (CV.ret ?_)
 cases h4
 exact PV.ret (by simp) results52 hS (RS.tmp rfl RS.nil) rfl
def g30_b1 (ro : List HT) (lp1 : AV → AV → AV → AV → AV → HT → Nat → R) (y0 y1 y4 y12 y13 : AV) (T1 : HT) (n1 : Nat) : R :=
 ltK prog 3 (.tmp 13) (.tmp 12) 300013 y13 y12 fun x5 =>
 condK 300014 x5
 (
  iaK 300019 y0 y13 1 fun x6 =>
  ldK 300020 T1 ro x6 fun x7 =>
  iaK 300023 y1 y13 1 fun x8 =>
  ldK 300024 T1 ro x8 fun x9 =>
  neSK prog 9 (.tmp 19) (.tmp 23) 300025 x7 x9 fun x10 =>
  condK 300026 x10
  (
   .bad 300027
  )
  (
   addK prog 3 (.tmp 13) (.const (.int .i64 (.ofNat 1))) 300028 y13 (.lit (.int .i64 (.ofNat 1))) fun x11 =>
   lp1 y0 y1 y4 y12 x11 T1 n1
  )
 )
 (
  .ok (.val (.lit (.bool true))) T1 n1
 )
def g30 (ro : List HT) (a0 a1 : AV) (T : HT) (nx : Nat) : R :=
 lenSK 300003 a0 fun x1 =>
 lenSK 300005 a1 fun x2 =>
 neK prog 3 (.tmp 7) (.tmp 9) 300006 x1 x2 fun x3 =>
 condK 300007 x3
 (
  .bad 300008
 )
 (
  lenSK 300010 a0 fun x4 =>
  lpf5 300012 (g30_b1 ro) 100000 a0 a1 (.lit (.bool false)) x4 (.lit (.int .i64 (.ofNat 0))) T nx
 )
theorem g30_ok (ro : List HT) (a0 a1 : AV) (T : HT) (nx : Nat) : GOk prog envE 30 [a0, a1] ro T nx (g30 ro a0 a1 T nx) := by
 refine GOk.of_body func30 rfl ntmps30 (by kernel_rfl) rfl fun r T' n' h1 w0 base ρ0 its hS hP => ?_
 have X : CtxW envE ρ0 ro r T' n' := trivial
 unfold g30 at h1
 refine sr ?_
 refine as_ ?_
 refine dn (CV.seq (sr ?_))
 refine mv ?_
 refine vy (V.lenS h1 rfl ls89) fun x1 h2 => ?_
 refine mv ?_
 refine vy (V.lenS h2 rfl ls89) fun x2 h3 => ?_
 refine vy (V.ne h3 rfl rfl) fun x3 h4 => ?_
 refine dn ?_
 refine CV.cond h4 rfl (fun e h5 => ?_) (fun e h5 => ?_)
 ·
  subst e
  cases h5
 subst e
 refine CV.skip (PV.thenN (CV.seq (sr ?_)))
 refine mv ?_
 refine vy (V.lenS h5 rfl ls89) fun x4 h6 => ?_
 refine mv ?_
 refine dn (CV.block ?_)
 refine cl5 X 0 1 4 12 13 [] hS h6 ⟨rfl, rfl, rfl, rfl, rfl, trivial⟩ ?_
 intro f1 y0 y1 y4 y12 y13 T1 n1 ρ its hS h7
 unfold g30_b1 at h7
 refine sr ?_
 refine vy (V.lt h7 rfl rfl) fun x5 h8 => ?_
 refine dn (CV.seq ?_)
 refine CV.cond h8 rfl (fun e h9 => ?_) (fun e h9 => ?_)
 ·
  subst e
  refine CV.skip (PV.thenN (CV.seq (CV.block (sr ?_))))
  refine mv ?_
  refine as_ ?_
  refine dn (CV.seq ?_)
  refine CV.regionM [(0, .anywhere), (1, .anywhere), (2, .anywhere), (3, .held), (4, .anywhere), (5, .anywhere), (6, .anywhere), (7, .held), (8, .held)] rfl (fun c a a' w hd hq => PanicOk.root (P := prog) (fn := f30) (w0 := w0) (base := base) (E := envE) (ro := ro) (r := r) (T' := T') (n' := n') (ρ0 := ρ0) c a a' w hd hq) (by kernel_rfl) ?_
  refine MV.step0 (i := 0) rfl (VAL.move rfl) rfl rfl rfl ?_
  refine MV.step0 (i := 1) rfl (VAL.move rfl) rfl rfl rfl ?_
  refine MV.lift0 (i := 2) rfl (V.ia h9 rfl rfl el89) rfl rfl rfl fun x6 h10 => ?_
  refine MV.lift1 (i := 3) rfl (fun _ z => z) (V.ld hS h10 rfl one9) rfl rfl rfl [] (by kernel_rfl) fun x7 h11 => ?_
  refine MV.step0 (i := 4) rfl (VAL.move rfl) rfl rfl rfl ?_
  refine MV.step0 (i := 5) rfl (VAL.move rfl) rfl rfl rfl ?_
  refine MV.lift0 (i := 6) rfl (V.ia h11 rfl rfl el89) rfl rfl rfl fun x8 h12 => ?_
  refine MV.lift1 (i := 7) rfl (fun _ z => z) (V.ld hS h12 rfl one9) rfl rfl rfl [3] (by kernel_rfl) fun x9 h13 => ?_
  refine MV.lift1 (i := 8) rfl (fun _ z => z) (V.neS h13 rfl rfl) rfl rfl rfl [] (by kernel_rfl) fun x10 h14 => ?_
  refine mdn ?_
  refine CV.cond h14 rfl (fun e h15 => ?_) (fun e h15 => ?_)
  ·
   subst e
   cases h15
  subst e
  refine CV.skip (PV.blockN (PV.thenN (CV.region ?_)))
  refine vy (V.add h15 rfl rfl) fun x11 h16 => ?_
  refine mv ?_
  refine LV.done ?_
  exact pb5 hS h16 ⟨rfl, rfl, rfl, rfl, rfl, trivial⟩
 subst e
 refine CV.exit (PV.thenE (PV.thenE (PV.blockE (PV.thenN (sr ?_)))))
 refine as_ ?_
 refine dn (CV.ret ?_)
 cases h9
 exact PV.ret (by simp) results30 hS (RS.tmp rfl RS.nil) rfl
def g31_k1 (ro : List HT) (y47 : AV) (T17 : HT) (n17 : Nat) : R :=
 .ok (.val y47) T17 n17
def g31_k2 (ro : List HT) (y46 : AV) (T19 : HT) (n19 : Nat) : R :=
 g31_k1 ro y46 T19 n19
def g31_k3 (ro : List HT) (y45 : AV) (T20 : HT) (n20 : Nat) : R :=
 g31_k2 ro y45 T20 n20
def g31 (ro : List HT) (a0 a1 : AV) (T : HT) (nx : Nat) : R :=
 callK (ifcK 310003 a0 fun tr xr => .bad 310003) fun x1 T1 n1 =>
 callK (ifcK 310007 a1 fun tr xr => .bad 310007) fun x2 T2 n2 =>
 neK prog 2 (.tmp 14) (.tmp 16) 310008 x1 x2 fun x3 =>
 condK 310009 x3
 (
  .bad 310010
 )
 (
  callK (ifcK 310012 a0 fun tr xr => .bad 310012) fun x4 T3 n3 =>
  exK 310014 x4 0 fun x5 =>
  exK 310015 x4 1 fun x6 =>
  exK 310016 x4 2 fun x7 =>
  newK T3 n3 (.obj [.lit (.bool false), .lit (.slice none 0 0)] 37) fun x8 T4 n4 =>
  newK T4 n4 (.obj [.lit (.bool false), .lit (.slice none 0 0)] 37) fun x9 T5 n5 =>
  newK T5 n5 (.obj [.lit (.bool false), .lit (.slice none 0 0)] 37) fun x10 T6 n6 =>
  stAK 310020 T6 x8 x5 2 fun T7 =>
  stAK 310021 T7 x9 x6 2 fun T8 =>
  stAK 310022 T8 x10 x7 2 fun T9 =>
  callK (ifcK 310024 a1 fun tr xr => .bad 310024) fun x11 T10 n10 =>
  exK 310026 x11 0 fun x12 =>
  exK 310027 x11 1 fun x13 =>
  exK 310028 x11 2 fun x14 =>
  newK T10 n10 (.obj [.lit (.bool false), .lit (.slice none 0 0)] 37) fun x15 T11 n11 =>
  newK T11 n11 (.obj [.lit (.bool false), .lit (.slice none 0 0)] 37) fun x16 T12 n12 =>
  newK T12 n12 (.obj [.lit (.bool false), .lit (.slice none 0 0)] 37) fun x17 T13 n13 =>
  stAK 310032 T13 x15 x12 2 fun T14 =>
  stAK 310033 T14 x16 x13 2 fun T15 =>
  stAK 310034 T15 x17 x14 2 fun T16 =>
  eqK prog 2 (.tmp 30) (.const (.int .i64 (.ofNat 0))) 310036 x1 (.lit (.int .i64 (.ofNat 0))) fun x18 =>
  condK 310039 x18
  (
   g31_k1 ro (.lit (.bool true)) T16 n13
  )
  (
   ldAK 310041 T16 ro x8 2 fun x19 =>
   ldAK 310042 T16 ro x15 2 fun x20 =>
   callK (g26 ro x19 x20 T16 n13) fun x21 T18 n18 =>
   eqK prog 3 (.tmp 35) (.const (.int .i64 (.ofNat 0))) 310044 x21 (.lit (.int .i64 (.ofNat 0))) fun x22 =>
   condK 310047 x22
   (
    eqK prog 2 (.tmp 38) (.const (.int .i64 (.ofNat 1))) 310049 x1 (.lit (.int .i64 (.ofNat 1))) fun x23 =>
    condK 310052 x23
    (
     g31_k3 ro (.lit (.bool true)) T18 n18
    )
    (
     ldAK 310054 T18 ro x10 2 fun x24 =>
     ldAK 310055 T18 ro x17 2 fun x25 =>
     callK (g26 ro x24 x25 T18 n18) fun x26 T21 n21 =>
     eqK prog 3 (.tmp 43) (.const (.int .i64 (.ofNat 0))) 310057 x26 (.lit (.int .i64 (.ofNat 0))) fun x27 =>
     g31_k3 ro x27 T21 n21
    )
   )
   (
    g31_k2 ro (.lit (.bool false)) T18 n18
   )
  )
 )
theorem g31_ok (ro : List HT) (a0 a1 : AV) (T : HT) (nx : Nat) : GOk prog envE 31 [a0, a1] ro T nx (g31 ro a0 a1 T nx) := by
 refine GOk.of_body func31 rfl ntmps31 (by kernel_rfl) rfl fun r T' n' h1 w0 base ρ0 its hS hP => ?_
 have X : CtxW envE ρ0 ro r T' n' := trivial
 unfold g31 at h1
 refine sr ?_
 refine as_ ?_
 refine dn (sr ?_)
 refine mv ?_
 refine LV.inv hS h1 (GMk.ifc fun tr xr _ => GMk.bad) hP rfl rfl rfl rfl rfl rfl rfl fun x1 T1 n1 h2 ρ its hS => ?_
 refine as_ ?_
 refine dn (CV.seq (sr ?_))
 iterate 2 refine mv ?_
 refine LV.inv hS h2 (GMk.ifc fun tr xr _ => GMk.bad) hP rfl rfl rfl rfl rfl rfl rfl fun x2 T2 n2 h3 ρ its hS => ?_
 refine vy (V.ne h3 rfl rfl) fun x3 h4 => ?_
 refine dn ?_
 refine CV.cond h4 rfl (fun e h5 => ?_) (fun e h5 => ?_)
 ·
  subst e
  cases h5
 subst e
 refine CV.skip (PV.thenN (sr ?_))
 refine mv ?_
 refine LV.inv hS h5 (GMk.ifc fun tr xr _ => GMk.bad) hP rfl rfl rfl rfl rfl rfl rfl fun x4 T3 n3 h6 ρ its hS => ?_
 refine mv ?_
 refine vy (V.ex h6 rfl) fun x5 h7 => ?_
 refine vy (V.ex h7 rfl) fun x6 h8 => ?_
 refine vy (V.ex h8 rfl) fun x7 h9 => ?_
 refine LV.alloc hS h9 rfl zr37 rfl rfl rfl fun x8 T4 n4 h10 ρ its hS hdr => ?_
 refine LV.alloc hS h10 rfl zr37 rfl rfl rfl fun x9 T5 n5 h11 ρ its hS hdr => ?_
 refine LV.alloc hS h11 rfl zr37 rfl rfl rfl fun x10 T6 n6 h12 ρ its hS hdr => ?_
 refine LV.stA hS h12 rfl rfl rfl agg37 rfl rfl rfl fun T7 its h13 hS => ?_
 refine LV.stA hS h13 rfl rfl rfl agg37 rfl rfl rfl fun T8 its h14 hS => ?_
 refine LV.stA hS h14 rfl rfl rfl agg37 rfl rfl rfl fun T9 its h15 hS => ?_
 refine dn (sr ?_)
 refine mv ?_
 refine LV.inv hS h15 (GMk.ifc fun tr xr _ => GMk.bad) hP rfl rfl rfl rfl rfl rfl rfl fun x11 T10 n10 h16 ρ its hS => ?_
 refine mv ?_
 refine vy (V.ex h16 rfl) fun x12 h17 => ?_
 refine vy (V.ex h17 rfl) fun x13 h18 => ?_
 refine vy (V.ex h18 rfl) fun x14 h19 => ?_
 refine LV.alloc hS h19 rfl zr37 rfl rfl rfl fun x15 T11 n11 h20 ρ its hS hdr => ?_
 refine LV.alloc hS h20 rfl zr37 rfl rfl rfl fun x16 T12 n12 h21 ρ its hS hdr => ?_
 refine LV.alloc hS h21 rfl zr37 rfl rfl rfl fun x17 T13 n13 h22 ρ its hS hdr => ?_
 refine LV.stA hS h22 rfl rfl rfl agg37 rfl rfl rfl fun T14 its h23 hS => ?_
 refine LV.stA hS h23 rfl rfl rfl agg37 rfl rfl rfl fun T15 its h24 hS => ?_
 refine LV.stA hS h24 rfl rfl rfl agg37 rfl rfl rfl fun T16 its h25 hS => ?_
 refine dn (sr ?_)
 refine mv ?_
 refine vy (V.eq h25 rfl rfl) fun x18 h26 => ?_
 refine mv ?_
 refine ls1 X 47 [(4, (.lit (.bool false)))] (g31_k1 ro) 15 ?_ ?_
 ·
  rcases condK_inv h26 with ⟨e, h28⟩ | ⟨e, h28⟩
  ·
   subst e
   iterate 14 refine sk ?_
   refine pu ?_
   exact la1 hS h28 ⟨rfl, rfl, trivial⟩
  subst e
  refine vy (V.ldA hS h28 rfl agg37) fun x19 h29 => ?_
  refine vy (V.ldA hS h29 rfl agg37) fun x20 h30 => ?_
  refine LV.call hS h30 (g26_ok _ _ _ _ _ ) hP rfl rfl rfl rfl fun x21 T18 n18 h31 ρ its hS => ?_
  refine vy (V.eq h31 rfl rfl) fun x22 h32 => ?_
  refine mv ?_
  refine ls1 X 46 [(4, (.lit (.bool false))), (32, (.lit (.bool false)))] (g31_k2 ro) 9 ?_ ?_
  ·
   rcases condK_inv h32 with ⟨e, h34⟩ | ⟨e, h34⟩
   ·
    subst e
    refine mv ?_
    refine vy (V.eq h34 rfl rfl) fun x23 h35 => ?_
    refine mv ?_
    refine ls1 X 45 [(4, (.lit (.bool false))), (32, (.lit (.bool false))), (37, (.lit (.bool true)))] (g31_k3 ro) 5 ?_ ?_
    ·
     rcases condK_inv h35 with ⟨e, h37⟩ | ⟨e, h37⟩
     ·
      subst e
      iterate 4 refine sk ?_
      refine pu ?_
      exact la1 hS h37 ⟨rfl, rfl, rfl, rfl, trivial⟩
     subst e
     refine vy (V.ldA hS h37 rfl agg37) fun x24 h38 => ?_
     refine vy (V.ldA hS h38 rfl agg37) fun x25 h39 => ?_
     refine LV.call hS h39 (g26_ok _ _ _ _ _ ) hP rfl rfl rfl rfl fun x26 T21 n21 h40 ρ its hS => ?_
     refine vy (V.eq h40 rfl rfl) fun x27 h41 => ?_
     refine pu ?_
     exact la1 hS h41 ⟨rfl, rfl, rfl, rfl, trivial⟩
    intro y45 T20 n20 ρ its hS h36
    unfold g31_k3 at h36
    refine pu ?_
    exact la1 hS h36 ⟨rfl, rfl, rfl, trivial⟩
   subst e
   iterate 8 refine sk ?_
   refine pu ?_
   exact la1 hS h34 ⟨rfl, rfl, rfl, trivial⟩
  intro y46 T19 n19 ρ its hS h33
  unfold g31_k2 at h33
  refine pu ?_
  exact la1 hS h33 ⟨rfl, rfl, trivial⟩
 intro y47 T17 n17 ρ its hS h27
 unfold g31_k1 at h27
 refine as_ ?_
 refine dn (CV.ret ?_)
 cases h27
 exact PV.ret (by simp) results31 hS (RS.tmp rfl RS.nil) rfl
def g196 (ro : List HT) (a0 : AV) (T : HT) (nx : Nat) : R :=
 .ok (.val (.lit (.int .i64 (.ofNat 5)))) T nx
theorem g196_ok (ro : List HT) (a0 : AV) (T : HT) (nx : Nat) : GOk prog envE 196 [a0] ro T nx (g196 ro a0 T nx) := by
 refine GOk.of_body func196 rfl ntmps196 (by kernel_rfl) rfl fun r T' n' h1 w0 base ρ0 its hS hP => ?_
 have X : CtxW envE ρ0 ro r T' n' := trivial
 unfold g196 at h1
 refine sr ?_
 refine as_ ?_
 refine dn (sr ?_)
 refine as_ ?_
 refine dn (CV.ret ?_)
 cases h1
 exact PV.ret (by simp) results196 hS (RS.tmp rfl RS.nil) rfl
def g198 (ro : List HT) (a0 : AV) (T : HT) (nx : Nat) : R :=
 boxK 1980001 T nx a0 58 fun x1 T1 n1 =>
 .ok (.val (.lit (.int .i64 (.ofNat 3)))) T1 n1
theorem g198_ok (ro : List HT) (a0 : AV) (T : HT) (nx : Nat) : GOk prog envE 198 [a0] ro T nx (g198 ro a0 T nx) := by
 refine GOk.of_body func198 rfl ntmps198 (by kernel_rfl) rfl fun r T' n' h1 w0 base ρ0 its hS hP => ?_
 have X : CtxW envE ρ0 ro r T' n' := trivial
 unfold g198 at h1
 refine sr ?_
 refine LV.box hS h1 rfl rfl rfl rfl rfl fun x1 T1 n1 h2 ρ its hS hdr => ?_
 refine as_ ?_
 refine dn (sr ?_)
 refine as_ ?_
 refine dn (CV.ret ?_)
 cases h2
 exact PV.ret (by simp) results198 hS (RS.tmp rfl RS.nil) rfl
def g199 (ro : List HT) (a0 : AV) (T : HT) (nx : Nat) : R :=
 .ok (.val (.lit (.int .i64 (.ofNat 4)))) T nx
theorem g199_ok (ro : List HT) (a0 : AV) (T : HT) (nx : Nat) : GOk prog envE 199 [a0] ro T nx (g199 ro a0 T nx) := by
 refine GOk.of_body func199 rfl ntmps199 (by kernel_rfl) rfl fun r T' n' h1 w0 base ρ0 its hS hP => ?_
 have X : CtxW envE ρ0 ro r T' n' := trivial
 unfold g199 at h1
 refine sr ?_
 refine as_ ?_
 refine dn (sr ?_)
 refine as_ ?_
 refine dn (CV.ret ?_)
 cases h1
 exact PV.ret (by simp) results199 hS (RS.tmp rfl RS.nil) rfl
def g203 (ro : List HT) (a0 : AV) (T : HT) (nx : Nat) : R :=
 .ok (.val (.lit (.int .i64 (.ofNat 6)))) T nx
theorem g203_ok (ro : List HT) (a0 : AV) (T : HT) (nx : Nat) : GOk prog envE 203 [a0] ro T nx (g203 ro a0 T nx) := by
 refine GOk.of_body func203 rfl ntmps203 (by kernel_rfl) rfl fun r T' n' h1 w0 base ρ0 its hS hP => ?_
 have X : CtxW envE ρ0 ro r T' n' := trivial
 unfold g203 at h1
 refine sr ?_
 refine as_ ?_
 refine dn (sr ?_)
 refine as_ ?_
 refine dn (CV.ret ?_)
 cases h1
 exact PV.ret (by simp) results203 hS (RS.tmp rfl RS.nil) rfl
def g204 (ro : List HT) (a0 : AV) (T : HT) (nx : Nat) : R :=
 boxK 2040001 T nx a0 84 fun x1 T1 n1 =>
 .ok (.val (.lit (.int .i64 (.ofNat 1)))) T1 n1
theorem g204_ok (ro : List HT) (a0 : AV) (T : HT) (nx : Nat) : GOk prog envE 204 [a0] ro T nx (g204 ro a0 T nx) := by
 refine GOk.of_body func204 rfl ntmps204 (by kernel_rfl) rfl fun r T' n' h1 w0 base ρ0 its hS hP => ?_
 have X : CtxW envE ρ0 ro r T' n' := trivial
 unfold g204 at h1
 refine sr ?_
 refine LV.box hS h1 rfl rfl rfl rfl rfl fun x1 T1 n1 h2 ρ its hS hdr => ?_
 refine as_ ?_
 refine dn (sr ?_)
 refine as_ ?_
 refine dn (CV.ret ?_)
 cases h2
 exact PV.ret (by simp) results204 hS (RS.tmp rfl RS.nil) rfl
def g205 (ro : List HT) (a0 : AV) (T : HT) (nx : Nat) : R :=
 .ok (.val (.lit (.int .i64 (.ofNat 7)))) T nx
theorem g205_ok (ro : List HT) (a0 : AV) (T : HT) (nx : Nat) : GOk prog envE 205 [a0] ro T nx (g205 ro a0 T nx) := by
 refine GOk.of_body func205 rfl ntmps205 (by kernel_rfl) rfl fun r T' n' h1 w0 base ρ0 its hS hP => ?_
 have X : CtxW envE ρ0 ro r T' n' := trivial
 unfold g205 at h1
 refine sr ?_
 refine as_ ?_
 refine dn (sr ?_)
 refine as_ ?_
 refine dn (CV.ret ?_)
 cases h1
 exact PV.ret (by simp) results205 hS (RS.tmp rfl RS.nil) rfl
def g17 (ih : FuncId → List HT → List AV → HT → Nat → R) (ro : List HT) (a0 a1 a2 a3 : AV) (T : HT) (nx : Nat) : R :=
 callK (g25 ro a0 a3 T nx) fun x1 T1 n1 =>
 bin0 prog .neq 28 (.tmp 24) (.const (.nilIface)) 170008 x1 (.lit (.nilIface)) fun x2 =>
 condK 170009 x2
 (
  .bad 170010
 )
 (
  callK (ifcK 170012 a1 fun tr xr => Bool.rec (motive := fun _ => R) (Bool.rec (motive := fun _ => R) (Bool.rec (motive := fun _ => R) (Bool.rec (motive := fun _ => R) (Bool.rec (motive := fun _ => R) (Bool.rec (motive := fun _ => R) (.bad 170012) (g205 ro xr T1 n1) (Nat.beq tr 85)) (g204 ro xr T1 n1) (Nat.beq tr 84)) (g203 ro xr T1 n1) (Nat.beq tr 80)) (g199 ro xr T1 n1) (Nat.beq tr 62)) (g198 ro xr T1 n1) (Nat.beq tr 58)) (g196 ro xr T1 n1) (Nat.beq tr 44)) fun x3 T2 n2 =>
  callK (ifcK 170014 a2 fun tr xr => Bool.rec (motive := fun _ => R) (Bool.rec (motive := fun _ => R) (Bool.rec (motive := fun _ => R) (Bool.rec (motive := fun _ => R) (Bool.rec (motive := fun _ => R) (Bool.rec (motive := fun _ => R) (.bad 170014) (g205 ro xr T2 n2) (Nat.beq tr 85)) (g204 ro xr T2 n2) (Nat.beq tr 84)) (g203 ro xr T2 n2) (Nat.beq tr 80)) (g199 ro xr T2 n2) (Nat.beq tr 62)) (g198 ro xr T2 n2) (Nat.beq tr 58)) (g196 ro xr T2 n2) (Nat.beq tr 44)) fun x4 T3 n3 =>
  neK prog 3 (.tmp 28) (.tmp 30) 170015 x3 x4 fun x5 =>
  condK 170016 x5
  (
   .bad 170017
  )
  (
   asK 170019 a1 84 (.tup [.lit (.agg #[]), .lit (.bool false)]) fun x6 =>
   exK 170020 x6 1 fun x7 =>
   exK 170021 x6 0 fun x8 =>
   condK 170022 x7
   (
    newK T3 n3 (.obj [] 84) fun x9 T4 n4 =>
    st0K 170024 x9 x8 <|
    .ok (.val (.tup [(.lit (.bool true)), (.lit (.nilIface))])) T4 n4
   )
   (
    asK 170027 a1 77 (.tup [.lit (.bool false), .lit (.bool false)]) fun x10 =>
    exK 170028 x10 1 fun x11 =>
    exK 170029 x10 0 fun x12 =>
    condK 170030 x11
    (
     as1K 170034 a2 77 fun x13 =>
     bin0 prog .eql 77 (.tmp 39) (.tmp 41) 170035 x12 x13 fun x14 =>
     .ok (.val (.tup [x14, (.lit (.nilIface))])) T3 n3
    )
    (
     asK 170038 a1 58 (.tup [.lit (.agg #[.bool false, .slice none 0 0]), .lit (.bool false)]) fun x15 =>
     exK 170039 x15 1 fun x16 =>
     exK 170040 x15 0 fun x17 =>
     condK 170041 x16
     (
      newK T3 n3 (.obj [.lit (.bool false), .lit (.slice none 0 0)] 58) fun x18 T5 n5 =>
      stAK 170043 T5 x18 x17 2 fun T6 =>
      faK 170044 x18 0 fun x19 =>
      ldAK 170045 T6 ro x19 2 fun x20 =>
      as1K 170047 a2 58 fun x21 =>
      fdAK 170048 x21 0 2 fun x22 =>
      callK (g26 ro x20 x22 T6 n5) fun x23 T7 n7 =>
      eqK prog 3 (.tmp 51) (.const (.int .i64 (.ofNat 0))) 170050 x23 (.lit (.int .i64 (.ofNat 0))) fun x24 =>
      .ok (.val (.tup [x24, (.lit (.nilIface))])) T7 n7
     )
     (
      asK 170053 a1 62 (.tup [.lit (.string ⟨#[]⟩), .lit (.bool false)]) fun x25 =>
      exK 170054 x25 1 fun x26 =>
      exK 170055 x25 0 fun x27 =>
      condK 170056 x26
      (
       as1K 170060 a2 62 fun x28 =>
       eqSK prog 62 (.tmp 56) (.tmp 58) 170061 x27 x28 fun x29 =>
       .ok (.val (.tup [x29, (.lit (.nilIface))])) T3 n3
      )
      (
       asK 170064 a1 44 (.tup [.lit (.pointer none), .lit (.bool false)]) fun x30 =>
       exK 170065 x30 1 fun x31 =>
       exK 170066 x30 0 fun x32 =>
       condK 170067 x31
       (
        ncK 170071 x32 fun x33 =>
        faK 170072 x33 0 fun x34 =>
        ldK 170073 T3 ro x34 fun x35 =>
        as1K 170075 a2 44 fun x36 =>
        ncK 170076 x36 fun x37 =>
        faK 170077 x37 0 fun x38 =>
        ldK 170078 T3 ro x38 fun x39 =>
        callK (ih 28 ro [a0, x35, x39, a3] T3 n3) fun x40 T8 n8 =>
        exK 170081 x40 0 fun x41 =>
        exK 170082 x40 1 fun x42 =>
        .ok (.val (.tup [x41, x42])) T8 n8
       )
       (
        asK 170085 a1 80 (.tup [.lit (.pointer none), .lit (.bool false)]) fun x43 =>
        exK 170086 x43 1 fun x44 =>
        exK 170087 x43 0 fun x45 =>
        condK 170088 x44
        (
         ncK 170092 x45 fun x46 =>
         faK 170093 x46 0 fun x47 =>
         ldK 170094 T3 ro x47 fun x48 =>
         as1K 170096 a2 80 fun x49 =>
         ncK 170097 x49 fun x50 =>
         faK 170098 x50 0 fun x51 =>
         ldK 170099 T3 ro x51 fun x52 =>
         callK (ih 28 ro [a0, x48, x52, a3] T3 n3) fun x53 T9 n9 =>
         exK 170102 x53 0 fun x54 =>
         exK 170103 x53 1 fun x55 =>
         .ok (.val (.tup [x54, x55])) T9 n9
        )
        (
         asK 170106 a1 85 (.tup [.lit (.pointer none), .lit (.bool false)]) fun x56 =>
         exK 170107 x56 1 fun x57 =>
         exK 170108 x56 0 fun x58 =>
         condK 170109 x57
         (
          as1K 170114 a2 85 fun x59 =>
          callK (ih 29 ro [a0, x58, x59, a3] T3 n3) fun x60 T10 n10 =>
          exK 170117 x60 0 fun x61 =>
          exK 170118 x60 1 fun x62 =>
          .ok (.val (.tup [x61, x62])) T10 n10
         )
         (
          asK 170121 a1 87 (.tup [.lit (.pointer none), .lit (.bool false)]) fun x63 =>
          exK 170122 x63 1 fun x64 =>
          exK 170123 x63 0 fun x65 =>
          condK 170124 x64
          (
           as1K 170127 a2 87 fun x66 =>
           ncK 170130 x65 fun x67 =>
           faK 170131 x67 0 fun x68 =>
           ldK 170132 T3 ro x68 fun x69 =>
           ncK 170134 x66 fun x70 =>
           faK 170135 x70 0 fun x71 =>
           ldK 170136 T3 ro x71 fun x72 =>
           callK (g30 ro x69 x72 T3 n3) fun x73 T11 n11 =>
           notK 170138 x73 fun x74 =>
           condK 170139 x74
           (
            .bad 170140
           )
           (
            ncK 170143 x65 fun x75 =>
            faK 170144 x75 1 fun x76 =>
            ldK 170145 T11 ro x76 fun x77 =>
            ncK 170147 x66 fun x78 =>
            faK 170148 x78 1 fun x79 =>
            ldK 170149 T11 ro x79 fun x80 =>
            callK (ih 28 ro [a0, x77, x80, a3] T11 n11) fun x81 T12 n12 =>
            exK 170152 x81 0 fun x82 =>
            exK 170153 x81 1 fun x83 =>
            .ok (.val (.tup [x82, x83])) T12 n12
           )
          )
          (
           asIK 170156 a1 [] [44, 58, 62, 80, 84, 85, 139] fun x84 =>
           exK 170157 x84 1 fun x85 =>
           exK 170158 x84 0 fun x86 =>
           condK 170159 x85
           (
            asI1K 170163 a2 [] fun x87 =>
            callK (g31 ro x86 x87 T3 n3) fun x88 T13 n13 =>
            .ok (.val (.tup [x88, (.lit (.nilIface))])) T13 n13
           )
           (
            eeK prog 241 25 (.tmp 140) (.tmp 141) 170169 a1 a2 fun x89 =>
            .ok (.val (.tup [x89, (.lit (.nilIface))])) T3 n3
           )
          )
         )
        )
       )
      )
     )
    )
   )
  )
 )
theorem g17_ok (ih : FuncId → List HT → List AV → HT → Nat → R) (hI : ∀ f ro args T nx, GOk prog envE f args ro T nx (ih f ro args T nx)) (ro : List HT) (a0 a1 a2 a3 : AV) (T : HT) (nx : Nat) : GOk prog envE 17 [a0, a1, a2, a3] ro T nx (g17 ih ro a0 a1 a2 a3 T nx) := by
 refine GOk.of_body func17 rfl ntmps17 (by kernel_rfl) rfl fun r T' n' h1 w0 base ρ0 its hS hP => ?_
 have X : CtxW envE ρ0 ro r T' n' := trivial
 unfold g17 at h1
 refine sr ?_
 iterate 2 refine as_ ?_
 refine dn (CV.seq (sr ?_))
 iterate 2 refine mv ?_
 refine LV.call hS h1 (g25_ok _ _ _ _ _ ) hP rfl rfl rfl rfl fun x1 T1 n1 h2 ρ its hS => ?_
 refine as_ ?_
 refine dn (sr ?_)
 refine mv ?_
 refine vy (V.bin0 h2 rfl rfl) fun x2 h3 => ?_
 refine dn ?_
 refine CV.cond h3 rfl (fun e h4 => ?_) (fun e h4 => ?_)
 ·
  subst e
  cases h4
 subst e
 refine CV.skip (PV.thenN (CV.seq (sr ?_)))
 refine mv ?_
 refine LV.inv hS h4 (GMk.ifc fun tr xr _ => GMk.one inv44_Kind_196 (g196_ok _ _ _ _ ) (GMk.one inv58_Kind_198 (g198_ok _ _ _ _ ) (GMk.one inv62_Kind_199 (g199_ok _ _ _ _ ) (GMk.one inv80_Kind_203 (g203_ok _ _ _ _ ) (GMk.one inv84_Kind_204 (g204_ok _ _ _ _ ) (GMk.one inv85_Kind_205 (g205_ok _ _ _ _ ) (GMk.bad))))))) hP rfl rfl rfl rfl rfl rfl rfl fun x3 T2 n2 h5 ρ its hS => ?_
 refine mv ?_
 refine LV.inv hS h5 (GMk.ifc fun tr xr _ => GMk.one inv44_Kind_196 (g196_ok _ _ _ _ ) (GMk.one inv58_Kind_198 (g198_ok _ _ _ _ ) (GMk.one inv62_Kind_199 (g199_ok _ _ _ _ ) (GMk.one inv80_Kind_203 (g203_ok _ _ _ _ ) (GMk.one inv84_Kind_204 (g204_ok _ _ _ _ ) (GMk.one inv85_Kind_205 (g205_ok _ _ _ _ ) (GMk.bad))))))) hP rfl rfl rfl rfl rfl rfl rfl fun x4 T3 n3 h6 ρ its hS => ?_
 refine vy (V.ne h6 rfl rfl) fun x5 h7 => ?_
 refine dn ?_
 refine CV.cond h7 rfl (fun e h8 => ?_) (fun e h8 => ?_)
 ·
  subst e
  cases h8
 subst e
 refine CV.skip (PV.thenN (CV.seq (sr ?_)))
 refine mv ?_
 refine dn (CV.block (sr ?_))
 refine vy (V.as h8 rfl ni84 za84) fun x6 h9 => ?_
 refine vy (V.ex h9 rfl) fun x7 h10 => ?_
 refine vy (V.ex h10 rfl) fun x8 h11 => ?_
 refine dn ?_
 refine CV.cond h11 rfl (fun e h12 => ?_) (fun e h12 => ?_)
 ·
  subst e
  refine sr ?_
  refine LV.alloc hS h12 rfl zr84 rfl rfl rfl fun x9 T4 n4 h13 ρ its hS hdr => ?_
  refine LV.st0 h13 rfl rfl rfl agg84 rfl rfl fun h14 => ?_
  refine dn (sr ?_)
  iterate 2 refine as_ ?_
  refine dn (CV.ret (PV.blockR (PV.thenR ?_)))
  cases h14
  exact PV.ret (by simp) results17 hS (RS.tmp rfl (RS.tmp rfl RS.nil)) rfl
 subst e
 refine sr ?_
 refine vy (V.as h12 rfl ni77 za77) fun x10 h15 => ?_
 refine vy (V.ex h15 rfl) fun x11 h16 => ?_
 refine vy (V.ex h16 rfl) fun x12 h17 => ?_
 refine dn ?_
 refine CV.cond h17 rfl (fun e h18 => ?_) (fun e h18 => ?_)
 ·
  subst e
  refine sr ?_
  refine as_ ?_
  refine dn (sr ?_)
  iterate 2 refine mv ?_
  refine vy (V.as1 h18 rfl ni77) fun x13 h19 => ?_
  refine vy (V.bin0 h19 rfl rfl) fun x14 h20 => ?_
  iterate 2 refine as_ ?_
  refine dn (CV.ret (PV.blockR (PV.thenR ?_)))
  cases h20
  exact PV.ret (by simp) results17 hS (RS.tmp rfl (RS.tmp rfl RS.nil)) rfl
 subst e
 refine sr ?_
 refine vy (V.as h18 rfl ni58 za58) fun x15 h21 => ?_
 refine vy (V.ex h21 rfl) fun x16 h22 => ?_
 refine vy (V.ex h22 rfl) fun x17 h23 => ?_
 refine dn ?_
 refine CV.cond h23 rfl (fun e h24 => ?_) (fun e h24 => ?_)
 ·
  subst e
  refine sr ?_
  refine LV.alloc hS h24 rfl zr58 rfl rfl rfl fun x18 T5 n5 h25 ρ its hS hdr => ?_
  refine LV.stA hS h25 rfl rfl rfl agg58 rfl rfl rfl fun T6 its h26 hS => ?_
  refine dn (CV.seq ?_)
  refine CV.regionM [(0, .anywhere), (1, .held), (2, .anywhere), (3, .anywhere), (4, .anywhere), (5, .alone), (6, .alone), (7, .alone), (8, .alone)] rfl (fun c a a' w hd hq => PanicOk.root (P := prog) (fn := f17) (w0 := w0) (base := base) (E := envE) (ro := ro) (r := r) (T' := T') (n' := n') (ρ0 := ρ0) c a a' w hd hq) (by kernel_rfl) ?_
  refine MV.lift0 (i := 0) rfl (V.fa h26 rfl fo58_1) rfl rfl rfl fun x19 h27 => ?_
  refine MV.lift1 (i := 1) rfl (fun _ z => z) (V.ldA hS h27 rfl agg37) rfl rfl rfl [] (by kernel_rfl) fun x20 h28 => ?_
  refine MV.step0 (i := 2) rfl (VAL.move rfl) rfl rfl rfl ?_
  refine MV.lift0 (i := 3) rfl (V.as1 h28 rfl ni58) rfl rfl rfl fun x21 h29 => ?_
  refine MV.lift0 (i := 4) rfl (V.fdA h29 rfl fda58_1) rfl rfl rfl fun x22 h30 => ?_
  refine MV.force (i := 5) rfl ?_
  refine LV.call hS h30 (g26_ok _ _ _ _ _ ) hP rfl rfl rfl rfl fun x23 T7 n7 h31 ρ its hS => ?_
  refine LV.nextM [] (by kernel_rfl) (fun z => absurd rfl z) ?_
  refine MV.force (i := 6) rfl ?_
  refine vy (V.eq h31 rfl rfl) fun x24 h32 => ?_
  refine LV.nextM [] (by kernel_rfl) (fun z => absurd rfl z) ?_
  refine MV.force (i := 7) rfl ?_
  refine as_ ?_
  refine LV.nextM [] (by kernel_rfl) (fun z => absurd rfl z) ?_
  refine MV.force (i := 8) rfl ?_
  refine as_ ?_
  refine LV.nextM [] (by kernel_rfl) (fun z => absurd rfl z) ?_
  refine mdn (CV.ret (PV.blockR (PV.thenR ?_)))
  cases h32
  exact PV.ret (by simp) results17 hS (RS.tmp rfl (RS.tmp rfl RS.nil)) rfl
 subst e
 refine sr ?_
 refine vy (V.as h24 rfl ni62 za62) fun x25 h33 => ?_
 refine vy (V.ex h33 rfl) fun x26 h34 => ?_
 refine vy (V.ex h34 rfl) fun x27 h35 => ?_
 refine dn ?_
 refine CV.cond h35 rfl (fun e h36 => ?_) (fun e h36 => ?_)
 ·
  subst e
  refine sr ?_
  refine as_ ?_
  refine dn (sr ?_)
  iterate 2 refine mv ?_
  refine vy (V.as1 h36 rfl ni62) fun x28 h37 => ?_
  refine vy (V.eqS h37 rfl rfl) fun x29 h38 => ?_
  iterate 2 refine as_ ?_
  refine dn (CV.ret (PV.blockR (PV.thenR ?_)))
  cases h38
  exact PV.ret (by simp) results17 hS (RS.tmp rfl (RS.tmp rfl RS.nil)) rfl
 subst e
 refine sr ?_
 refine vy (V.as h36 rfl ni44 za44) fun x30 h39 => ?_
 refine vy (V.ex h39 rfl) fun x31 h40 => ?_
 refine vy (V.ex h40 rfl) fun x32 h41 => ?_
 refine dn ?_
 refine CV.cond h41 rfl (fun e h42 => ?_) (fun e h42 => ?_)
 ·
  subst e
  refine sr ?_
  refine as_ ?_
  refine dn (CV.seq ?_)
  refine CV.regionM [(0, .anywhere), (1, .anywhere), (2, .anywhere), (3, .anywhere), (4, .held), (5, .anywhere), (6, .anywhere), (7, .anywhere), (8, .anywhere), (9, .held), (10, .anywhere), (11, .alone), (12, .anywhere), (13, .alone), (14, .alone), (15, .alone)] rfl (fun c a a' w hd hq => PanicOk.root (P := prog) (fn := f17) (w0 := w0) (base := base) (E := envE) (ro := ro) (r := r) (T' := T') (n' := n') (ρ0 := ρ0) c a a' w hd hq) (by kernel_rfl) ?_
  refine MV.step0 (i := 0) rfl (VAL.move rfl) rfl rfl rfl ?_
  refine MV.step0 (i := 1) rfl (VAL.move rfl) rfl rfl rfl ?_
  refine MV.lift0 (i := 2) rfl (V.nc h42 rfl) rfl rfl rfl fun x33 h43 => ?_
  refine MV.lift0 (i := 3) rfl (V.fa h43 rfl fo74_1) rfl rfl rfl fun x34 h44 => ?_
  refine MV.lift1 (i := 4) rfl (fun _ z => z) (V.ld hS h44 rfl one42) rfl rfl rfl [] (by kernel_rfl) fun x35 h45 => ?_
  refine MV.step0 (i := 5) rfl (VAL.move rfl) rfl rfl rfl ?_
  refine MV.lift0 (i := 6) rfl (V.as1 h45 rfl ni44) rfl rfl rfl fun x36 h46 => ?_
  refine MV.lift0 (i := 7) rfl (V.nc h46 rfl) rfl rfl rfl fun x37 h47 => ?_
  refine MV.lift0 (i := 8) rfl (V.fa h47 rfl fo74_1) rfl rfl rfl fun x38 h48 => ?_
  refine MV.lift1 (i := 9) rfl (fun _ z => z) (V.ld hS h48 rfl one42) rfl rfl rfl [4] (by kernel_rfl) fun x39 h49 => ?_
  refine MV.step0 (i := 10) rfl (VAL.move rfl) rfl rfl rfl ?_
  refine MV.force (i := 11) rfl ?_
  refine LV.call hS h49 (hI _ _ _ _ _) hP rfl rfl rfl rfl fun x40 T8 n8 h50 ρ its hS => ?_
  refine LV.nextM [] (by kernel_rfl) (fun z => absurd rfl z) ?_
  refine MV.lift0 (i := 12) rfl (V.ex h50 rfl) rfl rfl rfl fun x41 h51 => ?_
  refine MV.force (i := 13) rfl ?_
  refine vy (V.ex h51 rfl) fun x42 h52 => ?_
  refine LV.nextM [] (by kernel_rfl) (fun z => absurd rfl z) ?_
  refine MV.force (i := 14) rfl ?_
  refine as_ ?_
  refine LV.nextM [] (by kernel_rfl) (fun z => absurd rfl z) ?_
  refine MV.force (i := 15) rfl ?_
  refine as_ ?_
  refine LV.nextM [] (by kernel_rfl) (fun z => absurd rfl z) ?_
  refine mdn (CV.ret (PV.blockR (PV.thenR ?_)))
  cases h52
  exact PV.ret (by simp) results17 hS (RS.tmp rfl (RS.tmp rfl RS.nil)) rfl
 subst e
 refine sr ?_
 refine vy (V.as h42 rfl ni80 za80) fun x43 h53 => ?_
 refine vy (V.ex h53 rfl) fun x44 h54 => ?_
 refine vy (V.ex h54 rfl) fun x45 h55 => ?_
 refine dn ?_
 refine CV.cond h55 rfl (fun e h56 => ?_) (fun e h56 => ?_)
 ·
  subst e
  refine sr ?_
  refine as_ ?_
  refine dn (CV.seq ?_)
  refine CV.regionM [(0, .anywhere), (1, .anywhere), (2, .anywhere), (3, .anywhere), (4, .held), (5, .anywhere), (6, .anywhere), (7, .anywhere), (8, .anywhere), (9, .held), (10, .anywhere), (11, .alone), (12, .anywhere), (13, .alone), (14, .alone), (15, .alone)] rfl (fun c a a' w hd hq => PanicOk.root (P := prog) (fn := f17) (w0 := w0) (base := base) (E := envE) (ro := ro) (r := r) (T' := T') (n' := n') (ρ0 := ρ0) c a a' w hd hq) (by kernel_rfl) ?_
  refine MV.step0 (i := 0) rfl (VAL.move rfl) rfl rfl rfl ?_
  refine MV.step0 (i := 1) rfl (VAL.move rfl) rfl rfl rfl ?_
  refine MV.lift0 (i := 2) rfl (V.nc h56 rfl) rfl rfl rfl fun x46 h57 => ?_
  refine MV.lift0 (i := 3) rfl (V.fa h57 rfl fo82_1) rfl rfl rfl fun x47 h58 => ?_
  refine MV.lift1 (i := 4) rfl (fun _ z => z) (V.ld hS h58 rfl one42) rfl rfl rfl [] (by kernel_rfl) fun x48 h59 => ?_
  refine MV.step0 (i := 5) rfl (VAL.move rfl) rfl rfl rfl ?_
  refine MV.lift0 (i := 6) rfl (V.as1 h59 rfl ni80) rfl rfl rfl fun x49 h60 => ?_
  refine MV.lift0 (i := 7) rfl (V.nc h60 rfl) rfl rfl rfl fun x50 h61 => ?_
  refine MV.lift0 (i := 8) rfl (V.fa h61 rfl fo82_1) rfl rfl rfl fun x51 h62 => ?_
  refine MV.lift1 (i := 9) rfl (fun _ z => z) (V.ld hS h62 rfl one42) rfl rfl rfl [4] (by kernel_rfl) fun x52 h63 => ?_
  refine MV.step0 (i := 10) rfl (VAL.move rfl) rfl rfl rfl ?_
  refine MV.force (i := 11) rfl ?_
  refine LV.call hS h63 (hI _ _ _ _ _) hP rfl rfl rfl rfl fun x53 T9 n9 h64 ρ its hS => ?_
  refine LV.nextM [] (by kernel_rfl) (fun z => absurd rfl z) ?_
  refine MV.lift0 (i := 12) rfl (V.ex h64 rfl) rfl rfl rfl fun x54 h65 => ?_
  refine MV.force (i := 13) rfl ?_
  refine vy (V.ex h65 rfl) fun x55 h66 => ?_
  refine LV.nextM [] (by kernel_rfl) (fun z => absurd rfl z) ?_
  refine MV.force (i := 14) rfl ?_
  refine as_ ?_
  refine LV.nextM [] (by kernel_rfl) (fun z => absurd rfl z) ?_
  refine MV.force (i := 15) rfl ?_
  refine as_ ?_
  refine LV.nextM [] (by kernel_rfl) (fun z => absurd rfl z) ?_
  refine mdn (CV.ret (PV.blockR (PV.thenR ?_)))
  cases h66
  exact PV.ret (by simp) results17 hS (RS.tmp rfl (RS.tmp rfl RS.nil)) rfl
 subst e
 refine sr ?_
 refine vy (V.as h56 rfl ni85 za85) fun x56 h67 => ?_
 refine vy (V.ex h67 rfl) fun x57 h68 => ?_
 refine vy (V.ex h68 rfl) fun x58 h69 => ?_
 refine dn ?_
 refine CV.cond h69 rfl (fun e h70 => ?_) (fun e h70 => ?_)
 ·
  subst e
  refine sr ?_
  refine as_ ?_
  refine dn (sr ?_)
  iterate 3 refine mv ?_
  refine vy (V.as1 h70 rfl ni85) fun x59 h71 => ?_
  refine mv ?_
  refine LV.call hS h71 (hI _ _ _ _ _) hP rfl rfl rfl rfl fun x60 T10 n10 h72 ρ its hS => ?_
  refine vy (V.ex h72 rfl) fun x61 h73 => ?_
  refine vy (V.ex h73 rfl) fun x62 h74 => ?_
  iterate 2 refine as_ ?_
  refine dn (CV.ret (PV.blockR (PV.thenR ?_)))
  cases h74
  exact PV.ret (by simp) results17 hS (RS.tmp rfl (RS.tmp rfl RS.nil)) rfl
 subst e
 refine sr ?_
 refine vy (V.as h70 rfl ni87 za87) fun x63 h75 => ?_
 refine vy (V.ex h75 rfl) fun x64 h76 => ?_
 refine vy (V.ex h76 rfl) fun x65 h77 => ?_
 refine dn ?_
 refine CV.cond h77 rfl (fun e h78 => ?_) (fun e h78 => ?_)
 ·
  subst e
  refine sr ?_
  refine as_ ?_
  refine dn (sr ?_)
  refine mv ?_
  refine vy (V.as1 h78 rfl ni87) fun x66 h79 => ?_
  refine as_ ?_
  refine dn (CV.seq (CV.seq ?_))
  refine CV.regionM [(0, .anywhere), (1, .anywhere), (2, .anywhere), (3, .held), (4, .anywhere), (5, .anywhere), (6, .anywhere), (7, .held), (8, .alone), (9, .alone)] rfl (fun c a a' w hd hq => PanicOk.root (P := prog) (fn := f17) (w0 := w0) (base := base) (E := envE) (ro := ro) (r := r) (T' := T') (n' := n') (ρ0 := ρ0) c a a' w hd hq) (by kernel_rfl) ?_
  refine MV.step0 (i := 0) rfl (VAL.move rfl) rfl rfl rfl ?_
  refine MV.lift0 (i := 1) rfl (V.nc h79 rfl) rfl rfl rfl fun x67 h80 => ?_
  refine MV.lift0 (i := 2) rfl (V.fa h80 rfl fo91_1) rfl rfl rfl fun x68 h81 => ?_
  refine MV.lift1 (i := 3) rfl (fun _ z => z) (V.ld hS h81 rfl one89) rfl rfl rfl [] (by kernel_rfl) fun x69 h82 => ?_
  refine MV.step0 (i := 4) rfl (VAL.move rfl) rfl rfl rfl ?_
  refine MV.lift0 (i := 5) rfl (V.nc h82 rfl) rfl rfl rfl fun x70 h83 => ?_
  refine MV.lift0 (i := 6) rfl (V.fa h83 rfl fo91_1) rfl rfl rfl fun x71 h84 => ?_
  refine MV.lift1 (i := 7) rfl (fun _ z => z) (V.ld hS h84 rfl one89) rfl rfl rfl [3] (by kernel_rfl) fun x72 h85 => ?_
  refine MV.force (i := 8) rfl ?_
  refine LV.call hS h85 (g30_ok _ _ _ _ _ ) hP rfl rfl rfl rfl fun x73 T11 n11 h86 ρ its hS => ?_
  refine LV.nextM [] (by kernel_rfl) (fun z => absurd rfl z) ?_
  refine MV.force (i := 9) rfl ?_
  refine vy (V.not h86 rfl) fun x74 h87 => ?_
  refine LV.nextM [] (by kernel_rfl) (fun z => absurd rfl z) ?_
  refine mdn ?_
  refine CV.cond h87 rfl (fun e h88 => ?_) (fun e h88 => ?_)
  ·
   subst e
   cases h88
  subst e
  refine CV.skip (PV.thenN (CV.seq ?_))
  refine CV.regionM [(0, .anywhere), (1, .anywhere), (2, .anywhere), (3, .anywhere), (4, .held), (5, .anywhere), (6, .anywhere), (7, .anywhere), (8, .held), (9, .anywhere), (10, .alone), (11, .anywhere), (12, .alone), (13, .alone), (14, .alone)] rfl (fun c a a' w hd hq => PanicOk.root (P := prog) (fn := f17) (w0 := w0) (base := base) (E := envE) (ro := ro) (r := r) (T' := T') (n' := n') (ρ0 := ρ0) c a a' w hd hq) (by kernel_rfl) ?_
  refine MV.step0 (i := 0) rfl (VAL.move rfl) rfl rfl rfl ?_
  refine MV.step0 (i := 1) rfl (VAL.move rfl) rfl rfl rfl ?_
  refine MV.lift0 (i := 2) rfl (V.nc h88 rfl) rfl rfl rfl fun x75 h89 => ?_
  refine MV.lift0 (i := 3) rfl (V.fa h89 rfl fo91_2) rfl rfl rfl fun x76 h90 => ?_
  refine MV.lift1 (i := 4) rfl (fun _ z => z) (V.ld hS h90 rfl one42) rfl rfl rfl [] (by kernel_rfl) fun x77 h91 => ?_
  refine MV.step0 (i := 5) rfl (VAL.move rfl) rfl rfl rfl ?_
  refine MV.lift0 (i := 6) rfl (V.nc h91 rfl) rfl rfl rfl fun x78 h92 => ?_
  refine MV.lift0 (i := 7) rfl (V.fa h92 rfl fo91_2) rfl rfl rfl fun x79 h93 => ?_
  refine MV.lift1 (i := 8) rfl (fun _ z => z) (V.ld hS h93 rfl one42) rfl rfl rfl [4] (by kernel_rfl) fun x80 h94 => ?_
  refine MV.step0 (i := 9) rfl (VAL.move rfl) rfl rfl rfl ?_
  refine MV.force (i := 10) rfl ?_
  refine LV.call hS h94 (hI _ _ _ _ _) hP rfl rfl rfl rfl fun x81 T12 n12 h95 ρ its hS => ?_
  refine LV.nextM [] (by kernel_rfl) (fun z => absurd rfl z) ?_
  refine MV.lift0 (i := 11) rfl (V.ex h95 rfl) rfl rfl rfl fun x82 h96 => ?_
  refine MV.force (i := 12) rfl ?_
  refine vy (V.ex h96 rfl) fun x83 h97 => ?_
  refine LV.nextM [] (by kernel_rfl) (fun z => absurd rfl z) ?_
  refine MV.force (i := 13) rfl ?_
  refine as_ ?_
  refine LV.nextM [] (by kernel_rfl) (fun z => absurd rfl z) ?_
  refine MV.force (i := 14) rfl ?_
  refine as_ ?_
  refine LV.nextM [] (by kernel_rfl) (fun z => absurd rfl z) ?_
  refine mdn (CV.ret (PV.blockR (PV.thenR ?_)))
  cases h97
  exact PV.ret (by simp) results17 hS (RS.tmp rfl (RS.tmp rfl RS.nil)) rfl
 subst e
 refine sr ?_
 refine vy (V.asI h78 rfl ii93 zw93 hi93_y_ hi93_n_44_58_62_80_84_85_139) fun x84 h98 => ?_
 refine vy (V.ex h98 rfl) fun x85 h99 => ?_
 refine vy (V.ex h99 rfl) fun x86 h100 => ?_
 refine dn ?_
 refine CV.cond h100 rfl (fun e h101 => ?_) (fun e h101 => ?_)
 ·
  subst e
  refine sr ?_
  refine as_ ?_
  refine dn (sr ?_)
  iterate 2 refine mv ?_
  refine vy (V.asI1 h101 rfl hi93_y_) fun x87 h102 => ?_
  refine LV.call hS h102 (g31_ok _ _ _ _ _ ) hP rfl rfl rfl rfl fun x88 T13 n13 h103 ρ its hS => ?_
  iterate 2 refine as_ ?_
  refine dn (CV.ret (PV.blockR (PV.thenR ?_)))
  cases h103
  exact PV.ret (by simp) results17 hS (RS.tmp rfl (RS.tmp rfl RS.nil)) rfl
 subst e
 refine CV.skip (PV.blockN (PV.thenN (sr ?_)))
 iterate 2 refine mv ?_
 refine vy (V.ee hS h101 rfl rfl ii25 cp241) fun x89 h104 => ?_
 iterate 2 refine as_ ?_
 refine dn (CV.ret ?_)
 cases h104
 exact PV.ret (by simp) results17 hS (RS.tmp rfl (RS.tmp rfl RS.nil)) rfl
def g28_k2 (ih : FuncId → List HT → List AV → HT → Nat → R) (ro : List HT) (lp1 : AV → AV → AV → AV → AV → AV → AV → AV → HT → Nat → R) (y0 y1 y2 y3 y8 y9 y20 y21 y44 : AV) (T3 : HT) (n3 : Nat) : R :=
 condK 280038 y44
 (
  .bad 280039
 )
 (
  addK prog 3 (.tmp 21) (.const (.int .i64 (.ofNat 1))) 280040 y21 (.lit (.int .i64 (.ofNat 1))) fun x15 =>
  lp1 y0 y1 y2 y3 y8 y9 y20 x15 T3 n3
 )
def g28_b1 (ih : FuncId → List HT → List AV → HT → Nat → R) (ro : List HT) (lp1 : AV → AV → AV → AV → AV → AV → AV → AV → HT → Nat → R) (y0 y1 y2 y3 y8 y9 y20 y21 : AV) (T1 : HT) (n1 : Nat) : R :=
 ltK prog 3 (.tmp 21) (.tmp 20) 280014 y21 y20 fun x5 =>
 condK 280015 x5
 (
  iaK 280021 y1 y21 1 fun x6 =>
  ldK 280022 T1 ro x6 fun x7 =>
  iaK 280025 y2 y21 1 fun x8 =>
  ldK 280026 T1 ro x8 fun x9 =>
  addK prog 3 (.tmp 34) (.const (.int .i64 (.ofNat 1))) 280028 y3 (.lit (.int .i64 (.ofNat 1))) fun x10 =>
  callK (ih 17 ro [y0, x7, x9, x10] T1 n1) fun x11 T2 n2 =>
  exK 280031 x11 0 fun x12 =>
  exK 280032 x11 1 fun x13 =>
  notK 280036 x12 fun x14 =>
  condK 280042 x14
  (
   g28_k2 ih ro lp1 y0 y1 y2 y3 y8 y9 y20 y21 (.lit (.bool true)) T2 n2
  )
  (
   bin0 prog .neq 28 (.tmp 42) (.const (.nilIface)) 280045 x13 (.lit (.nilIface)) fun x16 =>
   g28_k2 ih ro lp1 y0 y1 y2 y3 y8 y9 y20 y21 x16 T2 n2
  )
 )
 (
  lenSK 280048 y1 fun x17 =>
  callK (g52 ro x17 y3 T1 n1) fun x18 T4 n4 =>
  bin0 prog .neq 28 (.tmp 51) (.const (.nilIface)) 280053 x18 (.lit (.nilIface)) fun x19 =>
  condK 280054 x19
  (
   .bad 280055
  )
  (
   .ok (.val (.tup [(.lit (.bool true)), (.lit (.nilIface))])) T4 n4
  )
 )
def g28 (ih : FuncId → List HT → List AV → HT → Nat → R) (ro : List HT) (a0 a1 a2 a3 : AV) (T : HT) (nx : Nat) : R :=
 lenSK 280004 a1 fun x1 =>
 lenSK 280006 a2 fun x2 =>
 neK prog 3 (.tmp 15) (.tmp 17) 280007 x1 x2 fun x3 =>
 condK 280008 x3
 (
  .bad 280009
 )
 (
  lenSK 280011 a1 fun x4 =>
  lpf8 280013 (g28_b1 ih ro) 100000 a0 a1 a2 a3 (.lit (.bool false)) (.lit (.nilIface)) x4 (.lit (.int .i64 (.ofNat 0))) T nx
 )
theorem g28_ok (ih : FuncId → List HT → List AV → HT → Nat → R) (hI : ∀ f ro args T nx, GOk prog envE f args ro T nx (ih f ro args T nx)) (ro : List HT) (a0 a1 a2 a3 : AV) (T : HT) (nx : Nat) : GOk prog envE 28 [a0, a1, a2, a3] ro T nx (g28 ih ro a0 a1 a2 a3 T nx) := by
 refine GOk.of_body func28 rfl ntmps28 (by kernel_rfl) rfl fun r T' n' h1 w0 base ρ0 its hS hP => ?_
 have X : CtxW envE ρ0 ro r T' n' := trivial
 unfold g28 at h1
 refine sr ?_
 iterate 2 refine as_ ?_
 refine dn (CV.seq (sr ?_))
 refine mv ?_
 refine vy (V.lenS h1 rfl ls42) fun x1 h2 => ?_
 refine mv ?_
 refine vy (V.lenS h2 rfl ls42) fun x2 h3 => ?_
 refine vy (V.ne h3 rfl rfl) fun x3 h4 => ?_
 refine dn ?_
 refine CV.cond h4 rfl (fun e h5 => ?_) (fun e h5 => ?_)
 ·
  subst e
  cases h5
 subst e
 refine CV.skip (PV.thenN (CV.seq (sr ?_)))
 refine mv ?_
 refine vy (V.lenS h5 rfl ls42) fun x4 h6 => ?_
 refine mv ?_
 refine dn (CV.block ?_)
 refine cl8 X 0 1 2 3 8 9 20 21 [] hS h6 ⟨rfl, rfl, rfl, rfl, rfl, rfl, rfl, rfl, trivial⟩ ?_
 intro f1 y0 y1 y2 y3 y8 y9 y20 y21 T1 n1 ρ its hS h7
 unfold g28_b1 at h7
 refine sr ?_
 refine vy (V.lt h7 rfl rfl) fun x5 h8 => ?_
 refine dn (CV.seq ?_)
 refine CV.cond h8 rfl (fun e h9 => ?_) (fun e h9 => ?_)
 ·
  subst e
  refine CV.skip (PV.thenN (CV.seq (CV.block (sr ?_))))
  refine mv ?_
  refine as_ ?_
  refine dn (CV.seq ?_)
  refine CV.regionM [(0, .anywhere), (1, .anywhere), (2, .anywhere), (3, .anywhere), (4, .held), (5, .anywhere), (6, .anywhere), (7, .anywhere), (8, .held), (9, .anywhere), (10, .anywhere), (11, .alone), (12, .alone), (13, .anywhere), (14, .anywhere), (15, .alone), (16, .alone)] rfl (fun c a a' w hd hq => PanicOk.root (P := prog) (fn := f28) (w0 := w0) (base := base) (E := envE) (ro := ro) (r := r) (T' := T') (n' := n') (ρ0 := ρ0) c a a' w hd hq) (by kernel_rfl) ?_
  refine MV.step0 (i := 0) rfl (VAL.move rfl) rfl rfl rfl ?_
  refine MV.step0 (i := 1) rfl (VAL.move rfl) rfl rfl rfl ?_
  refine MV.step0 (i := 2) rfl (VAL.move rfl) rfl rfl rfl ?_
  refine MV.lift0 (i := 3) rfl (V.ia h9 rfl rfl el42) rfl rfl rfl fun x6 h10 => ?_
  refine MV.lift1 (i := 4) rfl (fun _ z => z) (V.ld hS h10 rfl one25) rfl rfl rfl [] (by kernel_rfl) fun x7 h11 => ?_
  refine MV.step0 (i := 5) rfl (VAL.move rfl) rfl rfl rfl ?_
  refine MV.step0 (i := 6) rfl (VAL.move rfl) rfl rfl rfl ?_
  refine MV.lift0 (i := 7) rfl (V.ia h11 rfl rfl el42) rfl rfl rfl fun x8 h12 => ?_
  refine MV.lift1 (i := 8) rfl (fun _ z => z) (V.ld hS h12 rfl one25) rfl rfl rfl [4] (by kernel_rfl) fun x9 h13 => ?_
  refine MV.step0 (i := 9) rfl (VAL.move rfl) rfl rfl rfl ?_
  refine MV.lift0 (i := 10) rfl (V.add h13 rfl rfl) rfl rfl rfl fun x10 h14 => ?_
  refine MV.force (i := 11) rfl ?_
  refine LV.call hS h14 (hI _ _ _ _ _) hP rfl rfl rfl rfl fun x11 T2 n2 h15 ρ its hS => ?_
  refine LV.nextM [] (by kernel_rfl) (fun z => absurd rfl z) ?_
  refine MV.force (i := 12) rfl ?_
  refine mv ?_
  refine LV.nextM [] (by kernel_rfl) (fun z => absurd rfl z) ?_
  refine MV.lift0 (i := 13) rfl (V.ex h15 rfl) rfl rfl rfl fun x12 h16 => ?_
  refine MV.lift0 (i := 14) rfl (V.ex h16 rfl) rfl rfl rfl fun x13 h17 => ?_
  refine MV.force (i := 15) rfl ?_
  refine as_ ?_
  refine LV.nextM [] (by kernel_rfl) (fun z => absurd rfl z) ?_
  refine MV.force (i := 16) rfl ?_
  refine as_ ?_
  refine LV.nextM [] (by kernel_rfl) (fun z => absurd rfl z) ?_
  refine mdn (sr ?_)
  refine mv ?_
  refine vy (V.not h17 rfl) fun x14 h18 => ?_
  refine mv ?_
  refine ls9 X 0 1 2 3 8 9 20 21 44 [] (g28_k2 ih ro (lpf8 280013 (g28_b1 ih ro) f1)) 3 ?_ ?_
  ·
   rcases condK_inv h18 with ⟨e, h22⟩ | ⟨e, h22⟩
   ·
    subst e
    iterate 2 refine sk ?_
    refine pu ?_
    exact la9 hS h22 ⟨rfl, rfl, rfl, rfl, rfl, rfl, rfl, rfl, rfl, trivial⟩
   subst e
   refine mv ?_
   refine vy (V.bin0 h22 rfl rfl) fun x16 h23 => ?_
   refine pu ?_
   exact la9 hS h23 ⟨rfl, rfl, rfl, rfl, rfl, rfl, rfl, rfl, rfl, trivial⟩
  intro y0 y1 y2 y3 y8 y9 y20 y21 y44 T3 n3 ρ its hS h19
  unfold g28_k2 at h19
  refine dn ?_
  refine CV.cond h19 rfl (fun e h20 => ?_) (fun e h20 => ?_)
  ·
   subst e
   cases h20
  subst e
  refine CV.skip (PV.blockN (PV.thenN (CV.region ?_)))
  refine vy (V.add h20 rfl rfl) fun x15 h21 => ?_
  refine mv ?_
  refine LV.done ?_
  exact pb8 hS h21 ⟨rfl, rfl, rfl, rfl, rfl, rfl, rfl, rfl, trivial⟩
 subst e
 refine CV.exit (PV.thenE (PV.thenE (PV.blockE (PV.thenN (CV.seq (sr ?_))))))
 refine mv ?_
 refine vy (V.lenS h9 rfl ls42) fun x17 h24 => ?_
 refine mv ?_
 refine LV.call hS h24 (g52_ok _ _ _ _ _ ) hP rfl rfl rfl rfl fun x18 T4 n4 h25 ρ its hS => ?_
 refine as_ ?_
 refine dn (sr ?_)
 refine mv ?_
 refine vy (V.bin0 h25 rfl rfl) fun x19 h26 => ?_
 refine dn ?_
 refine CV.cond h26 rfl (fun e h27 => ?_) (fun e h27 => ?_)
 ·
  subst e
  cases h27
 subst e
 refine CV.skip (PV.thenN (sr ?_))
 iterate 2 refine as_ ?_
 refine dn (CV.ret ?_)
 cases h27
 exact PV.ret (by simp) results28 hS (RS.tmp rfl (RS.tmp rfl RS.nil)) rfl
def g29_k2 (ih : FuncId → List HT → List AV → HT → Nat → R) (ro : List HT) (lp1 : AV → AV → AV → AV → AV → AV → AV → AV → HT → Nat → R) (y0 y2 y3 y8 y9 y35 y36 y37 y72 : AV) (T4 : HT) (n4 : Nat) : R :=
 condK 290067 y72
 (
  .bad 290068
 )
 (
  addK prog 3 (.tmp 37) (.const (.int .i64 (.ofNat 1))) 290069 y37 (.lit (.int .i64 (.ofNat 1))) fun x36 =>
  lp1 y0 y2 y3 y8 y9 y35 y36 x36 T4 n4
 )
def g29_b1 (ih : FuncId → List HT → List AV → HT → Nat → R) (ro : List HT) (lp1 : AV → AV → AV → AV → AV → AV → AV → AV → HT → Nat → R) (y0 y2 y3 y8 y9 y35 y36 y37 : AV) (T2 : HT) (n2 : Nat) : R :=
 ltK prog 3 (.tmp 37) (.tmp 36) 290028 y37 y36 fun x14 =>
 condK 290029 x14
 (
  iaK 290030 y35 y37 1 fun x15 =>
  ldK 290031 T2 ro x15 fun x16 =>
  ncK 290034 y2 fun x17 =>
  faK 290035 x17 1 fun x18 =>
  ldK 290036 T2 ro x18 fun x19 =>
  ncK 290038 x16 fun x20 =>
  faK 290039 x20 0 fun x21 =>
  ldK 290040 T2 ro x21 fun x22 =>
  lkSK 290041 T2 ro x19 x22 (.lit (.pointer none)) false fun x23 =>
  bin0 prog .eql 129 (.tmp 50) (.const (.pointer none)) 290044 x23 (.lit (.pointer none)) fun x24 =>
  condK 290045 x24
  (
   .bad 290046
  )
  (
   ncK 290049 x16 fun x25 =>
   faK 290050 x25 2 fun x26 =>
   ldK 290051 T2 ro x26 fun x27 =>
   ncK 290053 x23 fun x28 =>
   faK 290054 x28 2 fun x29 =>
   ldK 290055 T2 ro x29 fun x30 =>
   addK prog 3 (.tmp 62) (.const (.int .i64 (.ofNat 1))) 290057 y3 (.lit (.int .i64 (.ofNat 1))) fun x31 =>
   callK (ih 17 ro [y0, x27, x30, x31] T2 n2) fun x32 T3 n3 =>
   exK 290060 x32 0 fun x33 =>
   exK 290061 x32 1 fun x34 =>
   notK 290065 x33 fun x35 =>
   condK 290071 x35
   (
    g29_k2 ih ro lp1 y0 y2 y3 y8 y9 y35 y36 y37 (.lit (.bool true)) T3 n3
   )
   (
    bin0 prog .neq 28 (.tmp 70) (.const (.nilIface)) 290074 x34 (.lit (.nilIface)) fun x37 =>
    g29_k2 ih ro lp1 y0 y2 y3 y8 y9 y35 y36 y37 x37 T3 n3
   )
  )
 )
 (
  .ok (.val (.tup [(.lit (.bool true)), (.lit (.nilIface))])) T2 n2
 )
def g29 (ih : FuncId → List HT → List AV → HT → Nat → R) (ro : List HT) (a0 a1 a2 a3 : AV) (T : HT) (nx : Nat) : R :=
 ncK 290004 a1 fun x1 =>
 faK 290005 x1 0 fun x2 =>
 ldK 290006 T ro x2 fun x3 =>
 lenSK 290007 x3 fun x4 =>
 ncK 290009 a2 fun x5 =>
 faK 290010 x5 0 fun x6 =>
 ldK 290011 T ro x6 fun x7 =>
 lenSK 290012 x7 fun x8 =>
 neK prog 3 (.tmp 20) (.tmp 25) 290013 x4 x8 fun x9 =>
 condK 290014 x9
 (
  .bad 290015
 )
 (
  callK (g52 ro (.lit (.int .i64 (.ofNat 0))) a3 T nx) fun x10 T1 n1 =>
  bin0 prog .neq 28 (.tmp 29) (.const (.nilIface)) 290020 x10 (.lit (.nilIface)) fun x11 =>
  condK 290021 x11
  (
   .bad 290022
  )
  (
   fldK 290024 T1 ro a1 0 fun x12 =>
   lenSK 290025 x12 fun x13 =>
   lpf8 290027 (g29_b1 ih ro) 100000 a0 a2 a3 (.lit (.bool false)) (.lit (.nilIface)) x12 x13 (.lit (.int .i64 (.ofNat 0))) T1 n1
  )
 )
theorem g29_ok (ih : FuncId → List HT → List AV → HT → Nat → R) (hI : ∀ f ro args T nx, GOk prog envE f args ro T nx (ih f ro args T nx)) (ro : List HT) (a0 a1 a2 a3 : AV) (T : HT) (nx : Nat) : GOk prog envE 29 [a0, a1, a2, a3] ro T nx (g29 ih ro a0 a1 a2 a3 T nx) := by
 refine GOk.of_body func29 rfl ntmps29 (by kernel_rfl) rfl fun r T' n' h1 w0 base ρ0 its hS hP => ?_
 have X : CtxW envE ρ0 ro r T' n' := trivial
 unfold g29 at h1
 refine sr ?_
 iterate 2 refine as_ ?_
 refine dn (CV.seq (CV.seq ?_))
 refine CV.regionM [(0, .anywhere), (1, .anywhere), (2, .anywhere), (3, .held), (4, .held), (5, .anywhere), (6, .anywhere), (7, .anywhere), (8, .held), (9, .held), (10, .held)] rfl (fun c a a' w hd hq => PanicOk.root (P := prog) (fn := f29) (w0 := w0) (base := base) (E := envE) (ro := ro) (r := r) (T' := T') (n' := n') (ρ0 := ρ0) c a a' w hd hq) (by kernel_rfl) ?_
 refine MV.step0 (i := 0) rfl (VAL.move rfl) rfl rfl rfl ?_
 refine MV.lift0 (i := 1) rfl (V.nc h1 rfl) rfl rfl rfl fun x1 h2 => ?_
 refine MV.lift0 (i := 2) rfl (V.fa h2 rfl fo128_1) rfl rfl rfl fun x2 h3 => ?_
 refine MV.lift1 (i := 3) rfl (fun _ z => z) (V.ld hS h3 rfl one125) rfl rfl rfl [] (by kernel_rfl) fun x3 h4 => ?_
 refine MV.lift1 (i := 4) rfl (fun _ z => z) (V.lenS h4 rfl ls125) rfl rfl rfl [] (by kernel_rfl) fun x4 h5 => ?_
 refine MV.step0 (i := 5) rfl (VAL.move rfl) rfl rfl rfl ?_
 refine MV.lift0 (i := 6) rfl (V.nc h5 rfl) rfl rfl rfl fun x5 h6 => ?_
 refine MV.lift0 (i := 7) rfl (V.fa h6 rfl fo128_1) rfl rfl rfl fun x6 h7 => ?_
 refine MV.lift1 (i := 8) rfl (fun _ z => z) (V.ld hS h7 rfl one125) rfl rfl rfl [4] (by kernel_rfl) fun x7 h8 => ?_
 refine MV.lift1 (i := 9) rfl (fun _ z => z) (V.lenS h8 rfl ls125) rfl rfl rfl [4] (by kernel_rfl) fun x8 h9 => ?_
 refine MV.lift1 (i := 10) rfl (fun _ z => z) (V.ne h9 rfl rfl) rfl rfl rfl [] (by kernel_rfl) fun x9 h10 => ?_
 refine mdn ?_
 refine CV.cond h10 rfl (fun e h11 => ?_) (fun e h11 => ?_)
 ·
  subst e
  cases h11
 subst e
 refine CV.skip (PV.thenN (CV.seq (sr ?_)))
 refine mv ?_
 refine LV.call hS h11 (g52_ok _ _ _ _ _ ) hP rfl rfl rfl rfl fun x10 T1 n1 h12 ρ its hS => ?_
 refine as_ ?_
 refine dn (sr ?_)
 refine mv ?_
 refine vy (V.bin0 h12 rfl rfl) fun x11 h13 => ?_
 refine dn ?_
 refine CV.cond h13 rfl (fun e h14 => ?_) (fun e h14 => ?_)
 ·
  subst e
  cases h14
 subst e
 refine CV.skip (PV.thenN (CV.seq (sr ?_)))
 refine mv ?_
 refine fl hS h14 fo128_1 one125 fun x12 h15 => ?_
 refine vy (V.lenS h15 rfl ls125) fun x13 h16 => ?_
 refine mv ?_
 refine dn (CV.block ?_)
 refine cl8 X 0 2 3 8 9 35 36 37 [] hS h16 ⟨rfl, rfl, rfl, rfl, rfl, rfl, rfl, rfl, trivial⟩ ?_
 intro f1 y0 y2 y3 y8 y9 y35 y36 y37 T2 n2 ρ its hS h17
 unfold g29_b1 at h17
 refine sr ?_
 refine vy (V.lt h17 rfl rfl) fun x14 h18 => ?_
 refine dn (CV.seq ?_)
 refine CV.cond h18 rfl (fun e h19 => ?_) (fun e h19 => ?_)
 ·
  subst e
  refine CV.skip (PV.thenN (CV.seq (CV.block (sr ?_))))
  refine vy (V.ia h19 rfl rfl el125) fun x15 h20 => ?_
  refine vy (V.ld hS h20 rfl one129) fun x16 h21 => ?_
  refine as_ ?_
  refine dn (CV.seq ?_)
  refine CV.regionM [(0, .anywhere), (1, .anywhere), (2, .anywhere), (3, .held), (4, .anywhere), (5, .anywhere), (6, .anywhere), (7, .held), (8, .held), (9, .held)] rfl (fun c a a' w hd hq => PanicOk.root (P := prog) (fn := f29) (w0 := w0) (base := base) (E := envE) (ro := ro) (r := r) (T' := T') (n' := n') (ρ0 := ρ0) c a a' w hd hq) (by kernel_rfl) ?_
  refine MV.step0 (i := 0) rfl (VAL.move rfl) rfl rfl rfl ?_
  refine MV.lift0 (i := 1) rfl (V.nc h21 rfl) rfl rfl rfl fun x17 h22 => ?_
  refine MV.lift0 (i := 2) rfl (V.fa h22 rfl fo128_2) rfl rfl rfl fun x18 h23 => ?_
  refine MV.lift1 (i := 3) rfl (fun _ z => z) (V.ld hS h23 rfl one126) rfl rfl rfl [] (by kernel_rfl) fun x19 h24 => ?_
  refine MV.step0 (i := 4) rfl (VAL.move rfl) rfl rfl rfl ?_
  refine MV.lift0 (i := 5) rfl (V.nc h24 rfl) rfl rfl rfl fun x20 h25 => ?_
  refine MV.lift0 (i := 6) rfl (V.fa h25 rfl fo131_0) rfl rfl rfl fun x21 h26 => ?_
  refine MV.lift1 (i := 7) rfl (fun _ z => z) (V.ld hS h26 rfl one9) rfl rfl rfl [3] (by kernel_rfl) fun x22 h27 => ?_
  refine MV.lift1 (i := 8) rfl (fun _ z => z) (V.lkS hS h27 rfl rfl map126 ud9 zw129) rfl rfl rfl [] (by kernel_rfl) fun x23 h28 => ?_
  refine MV.step1 (i := 9) rfl (fun _ z => z) (VAL.assign rfl) rfl rfl rfl [] (by kernel_rfl) ?_
  refine mdn (CV.seq (sr ?_))
  refine mv ?_
  refine vy (V.bin0 h28 rfl rfl) fun x24 h29 => ?_
  refine dn ?_
  refine CV.cond h29 rfl (fun e h30 => ?_) (fun e h30 => ?_)
  ·
   subst e
   cases h30
  subst e
  refine CV.skip (PV.thenN (CV.seq ?_))
  refine CV.regionM [(0, .anywhere), (1, .anywhere), (2, .anywhere), (3, .anywhere), (4, .held), (5, .anywhere), (6, .anywhere), (7, .anywhere), (8, .held), (9, .anywhere), (10, .anywhere), (11, .alone), (12, .alone), (13, .anywhere), (14, .anywhere), (15, .alone), (16, .alone)] rfl (fun c a a' w hd hq => PanicOk.root (P := prog) (fn := f29) (w0 := w0) (base := base) (E := envE) (ro := ro) (r := r) (T' := T') (n' := n') (ρ0 := ρ0) c a a' w hd hq) (by kernel_rfl) ?_
  refine MV.step0 (i := 0) rfl (VAL.move rfl) rfl rfl rfl ?_
  refine MV.step0 (i := 1) rfl (VAL.move rfl) rfl rfl rfl ?_
  refine MV.lift0 (i := 2) rfl (V.nc h30 rfl) rfl rfl rfl fun x25 h31 => ?_
  refine MV.lift0 (i := 3) rfl (V.fa h31 rfl fo131_2) rfl rfl rfl fun x26 h32 => ?_
  refine MV.lift1 (i := 4) rfl (fun _ z => z) (V.ld hS h32 rfl one25) rfl rfl rfl [] (by kernel_rfl) fun x27 h33 => ?_
  refine MV.step0 (i := 5) rfl (VAL.move rfl) rfl rfl rfl ?_
  refine MV.lift0 (i := 6) rfl (V.nc h33 rfl) rfl rfl rfl fun x28 h34 => ?_
  refine MV.lift0 (i := 7) rfl (V.fa h34 rfl fo131_2) rfl rfl rfl fun x29 h35 => ?_
  refine MV.lift1 (i := 8) rfl (fun _ z => z) (V.ld hS h35 rfl one25) rfl rfl rfl [4] (by kernel_rfl) fun x30 h36 => ?_
  refine MV.step0 (i := 9) rfl (VAL.move rfl) rfl rfl rfl ?_
  refine MV.lift0 (i := 10) rfl (V.add h36 rfl rfl) rfl rfl rfl fun x31 h37 => ?_
  refine MV.force (i := 11) rfl ?_
  refine LV.call hS h37 (hI _ _ _ _ _) hP rfl rfl rfl rfl fun x32 T3 n3 h38 ρ its hS => ?_
  refine LV.nextM [] (by kernel_rfl) (fun z => absurd rfl z) ?_
  refine MV.force (i := 12) rfl ?_
  refine mv ?_
  refine LV.nextM [] (by kernel_rfl) (fun z => absurd rfl z) ?_
  refine MV.lift0 (i := 13) rfl (V.ex h38 rfl) rfl rfl rfl fun x33 h39 => ?_
  refine MV.lift0 (i := 14) rfl (V.ex h39 rfl) rfl rfl rfl fun x34 h40 => ?_
  refine MV.force (i := 15) rfl ?_
  refine as_ ?_
  refine LV.nextM [] (by kernel_rfl) (fun z => absurd rfl z) ?_
  refine MV.force (i := 16) rfl ?_
  refine as_ ?_
  refine LV.nextM [] (by kernel_rfl) (fun z => absurd rfl z) ?_
  refine mdn (sr ?_)
  refine mv ?_
  refine vy (V.not h40 rfl) fun x35 h41 => ?_
  refine mv ?_
  refine ls9 X 0 2 3 8 9 35 36 37 72 [] (g29_k2 ih ro (lpf8 290027 (g29_b1 ih ro) f1)) 3 ?_ ?_
  ·
   rcases condK_inv h41 with ⟨e, h45⟩ | ⟨e, h45⟩
   ·
    subst e
    iterate 2 refine sk ?_
    refine pu ?_
    exact la9 hS h45 ⟨rfl, rfl, rfl, rfl, rfl, rfl, rfl, rfl, rfl, trivial⟩
   subst e
   refine mv ?_
   refine vy (V.bin0 h45 rfl rfl) fun x37 h46 => ?_
   refine pu ?_
   exact la9 hS h46 ⟨rfl, rfl, rfl, rfl, rfl, rfl, rfl, rfl, rfl, trivial⟩
  intro y0 y2 y3 y8 y9 y35 y36 y37 y72 T4 n4 ρ its hS h42
  unfold g29_k2 at h42
  refine dn ?_
  refine CV.cond h42 rfl (fun e h43 => ?_) (fun e h43 => ?_)
  ·
   subst e
   cases h43
  subst e
  refine CV.skip (PV.blockN (PV.thenN (CV.region ?_)))
  refine vy (V.add h43 rfl rfl) fun x36 h44 => ?_
  refine mv ?_
  refine LV.done ?_
  exact pb8 hS h44 ⟨rfl, rfl, rfl, rfl, rfl, rfl, rfl, rfl, trivial⟩
 subst e
 refine CV.exit (PV.thenE (PV.thenE (PV.blockE (PV.thenN (sr ?_)))))
 iterate 2 refine as_ ?_
 refine dn (CV.ret ?_)
 cases h19
 exact PV.ret (by simp) results29 hS (RS.tmp rfl (RS.tmp rfl RS.nil)) rfl
def ap1 (ih : FuncId → List HT → List AV → HT → Nat → R) (f : FuncId) (ro : List HT) (args : List AV) (T : HT) (nx : Nat) : R :=
  Bool.rec (motive := fun _ => R) (Bool.rec (motive := fun _ => R) (Bool.rec (motive := fun _ => R) (.bad 2) (List.rec (motive := fun _ => R) (.bad 1) (fun a0 l0 _ => List.rec (motive := fun _ => R) (.bad 1) (fun a1 l1 _ => List.rec (motive := fun _ => R) (.bad 1) (fun a2 l2 _ => List.rec (motive := fun _ => R) (.bad 1) (fun a3 l3 _ => List.rec (motive := fun _ => R) (g29 ih ro a0 a1 a2 a3 T nx) (fun _ _ _ => .bad 1) l3) l2) l1) l0) args) (Nat.beq f 29)) (Bool.rec (motive := fun _ => R) (.bad 2) (List.rec (motive := fun _ => R) (.bad 1) (fun a0 l0 _ => List.rec (motive := fun _ => R) (.bad 1) (fun a1 l1 _ => List.rec (motive := fun _ => R) (.bad 1) (fun a2 l2 _ => List.rec (motive := fun _ => R) (.bad 1) (fun a3 l3 _ => List.rec (motive := fun _ => R) (g28 ih ro a0 a1 a2 a3 T nx) (fun _ _ _ => .bad 1) l3) l2) l1) l0) args) (Nat.beq f 28)) (Nat.ble f 28)) (Bool.rec (motive := fun _ => R) (.bad 2) (List.rec (motive := fun _ => R) (.bad 1) (fun a0 l0 _ => List.rec (motive := fun _ => R) (.bad 1) (fun a1 l1 _ => List.rec (motive := fun _ => R) (.bad 1) (fun a2 l2 _ => List.rec (motive := fun _ => R) (.bad 1) (fun a3 l3 _ => List.rec (motive := fun _ => R) (g17 ih ro a0 a1 a2 a3 T nx) (fun _ _ _ => .bad 1) l3) l2) l1) l0) args) (Nat.beq f 17)) (Nat.ble f 17)
def scc1 (fuel : Nat) : FuncId → List HT → List AV → HT → Nat → R :=
  Nat.rec (motive := fun _ => FuncId → List HT → List AV → HT → Nat → R) (fun _ _ _ _ _ => .bad 3) (fun _ ih => ap1 ih) fuel
theorem ap1_ok (ih : FuncId → List HT → List AV → HT → Nat → R) (hI : ∀ f ro args T nx, GOk prog envE f args ro T nx (ih f ro args T nx)) (f : FuncId) (ro : List HT) (args : List AV) (T : HT) (nx : Nat) : GOk prog envE f args ro T nx (ap1 ih f ro args T nx) := by
  unfold ap1
  refine recb_go (fun hb => ?_) (fun _ => ?_)
  · refine recb_go (fun hb => ?_) (fun _ => ?_)
    · obtain rfl := beqT hb
      rcases args with _ | ⟨a0, l0⟩
      · exact GOk.bad
      rcases l0 with _ | ⟨a1, l1⟩
      · exact GOk.bad
      rcases l1 with _ | ⟨a2, l2⟩
      · exact GOk.bad
      rcases l2 with _ | ⟨a3, l3⟩
      · exact GOk.bad
      rcases l3 with _ | ⟨_, _⟩
      · exact g17_ok _ hI _ _ _ _ _ _ _ 
      · exact GOk.bad
    · exact GOk.bad
  · refine recb_go (fun hb => ?_) (fun _ => ?_)
    · refine recb_go (fun hb => ?_) (fun _ => ?_)
      · obtain rfl := beqT hb
        rcases args with _ | ⟨a0, l0⟩
        · exact GOk.bad
        rcases l0 with _ | ⟨a1, l1⟩
        · exact GOk.bad
        rcases l1 with _ | ⟨a2, l2⟩
        · exact GOk.bad
        rcases l2 with _ | ⟨a3, l3⟩
        · exact GOk.bad
        rcases l3 with _ | ⟨_, _⟩
        · exact g28_ok _ hI _ _ _ _ _ _ _ 
        · exact GOk.bad
      · exact GOk.bad
    · refine recb_go (fun hb => ?_) (fun _ => ?_)
      · obtain rfl := beqT hb
        rcases args with _ | ⟨a0, l0⟩
        · exact GOk.bad
        rcases l0 with _ | ⟨a1, l1⟩
        · exact GOk.bad
        rcases l1 with _ | ⟨a2, l2⟩
        · exact GOk.bad
        rcases l2 with _ | ⟨a3, l3⟩
        · exact GOk.bad
        rcases l3 with _ | ⟨_, _⟩
        · exact g29_ok _ hI _ _ _ _ _ _ _ 
        · exact GOk.bad
      · exact GOk.bad
theorem scc1_ok : ∀ (fuel : Nat) (f : FuncId) (ro : List HT) (args : List AV) (T : HT) (nx : Nat), GOk prog envE f args ro T nx (scc1 fuel f ro args T nx)
  | 0, _, _, _, _, _ => GOk.bad
  | fuel + 1, f, ro, args, T, nx => ap1_ok (scc1 fuel) (scc1_ok fuel) f ro args T nx
def g16_k1 (ih : FuncId → List HT → List AV → HT → Nat → R) (ro : List HT) (y37 : AV) (T4 : HT) (n4 : Nat) : R :=
 .ok (.val (.tup [y37, (.lit (.nilIface))])) T4 n4
def g16 (ih : FuncId → List HT → List AV → HT → Nat → R) (ro : List HT) (a0 a1 a2 a3 : AV) (T : HT) (nx : Nat) : R :=
 callK (g25 ro a0 a3 T nx) fun x1 T1 n1 =>
 bin0 prog .neq 28 (.tmp 19) (.const (.nilIface)) 160008 x1 (.lit (.nilIface)) fun x2 =>
 condK 160009 x2
 (
  .bad 160010
 )
 (
  callK (ifcK 160012 a1 fun tr xr => Bool.rec (motive := fun _ => R) (Bool.rec (motive := fun _ => R) (Bool.rec (motive := fun _ => R) (Bool.rec (motive := fun _ => R) (Bool.rec (motive := fun _ => R) (Bool.rec (motive := fun _ => R) (.bad 160012) (g205 ro xr T1 n1) (Nat.beq tr 85)) (g204 ro xr T1 n1) (Nat.beq tr 84)) (g203 ro xr T1 n1) (Nat.beq tr 80)) (g199 ro xr T1 n1) (Nat.beq tr 62)) (g198 ro xr T1 n1) (Nat.beq tr 58)) (g196 ro xr T1 n1) (Nat.beq tr 44)) fun x3 T2 n2 =>
  callK (ifcK 160014 a2 fun tr xr => Bool.rec (motive := fun _ => R) (Bool.rec (motive := fun _ => R) (Bool.rec (motive := fun _ => R) (Bool.rec (motive := fun _ => R) (Bool.rec (motive := fun _ => R) (Bool.rec (motive := fun _ => R) (.bad 160014) (g205 ro xr T2 n2) (Nat.beq tr 85)) (g204 ro xr T2 n2) (Nat.beq tr 84)) (g203 ro xr T2 n2) (Nat.beq tr 80)) (g199 ro xr T2 n2) (Nat.beq tr 62)) (g198 ro xr T2 n2) (Nat.beq tr 58)) (g196 ro xr T2 n2) (Nat.beq tr 44)) fun x4 T3 n3 =>
  neK prog 3 (.tmp 23) (.tmp 25) 160015 x3 x4 fun x5 =>
  condK 160016 x5
  (
   .ok (.val (.tup [(.lit (.bool false)), (.iface 241 (.opq 3))])) T3 n3
  )
  (
   asK 160021 a1 77 (.tup [.lit (.bool false), .lit (.bool false)]) fun x6 =>
   exK 160022 x6 1 fun x7 =>
   exK 160023 x6 0 fun x8 =>
   condK 160024 x7
   (
    notK 160027 x8 fun x9 =>
    condK 160031 x9
    (
     as1K 160033 a2 77 fun x10 =>
     g16_k1 ih ro x10 T3 n3
    )
    (
     g16_k1 ih ro (.lit (.bool false)) T3 n3
    )
   )
   (
    asK 160036 a1 58 (.tup [.lit (.agg #[.bool false, .slice none 0 0]), .lit (.bool false)]) fun x11 =>
    exK 160037 x11 1 fun x12 =>
    exK 160038 x11 0 fun x13 =>
    condK 160039 x12
    (
     newK T3 n3 (.obj [.lit (.bool false), .lit (.slice none 0 0)] 58) fun x14 T5 n5 =>
     stAK 160041 T5 x14 x13 2 fun T6 =>
     faK 160042 x14 0 fun x15 =>
     ldAK 160043 T6 ro x15 2 fun x16 =>
     as1K 160045 a2 58 fun x17 =>
     fdAK 160046 x17 0 2 fun x18 =>
     callK (g26 ro x16 x18 T6 n5) fun x19 T7 n7 =>
     ltK prog 3 (.tmp 46) (.const (.int .i64 (.ofNat 0))) 160048 x19 (.lit (.int .i64 (.ofNat 0))) fun x20 =>
     .ok (.val (.tup [x20, (.lit (.nilIface))])) T7 n7
    )
    (
     asK 160051 a1 62 (.tup [.lit (.string ⟨#[]⟩), .lit (.bool false)]) fun x21 =>
     exK 160052 x21 1 fun x22 =>
     exK 160053 x21 0 fun x23 =>
     condK 160054 x22
     (
      as1K 160058 a2 62 fun x24 =>
      bin0 prog .lss 62 (.tmp 51) (.tmp 53) 160059 x23 x24 fun x25 =>
      .ok (.val (.tup [x25, (.lit (.nilIface))])) T3 n3
     )
     (
      asK 160062 a1 44 (.tup [.lit (.pointer none), .lit (.bool false)]) fun x26 =>
      exK 160063 x26 1 fun x27 =>
      exK 160064 x26 0 fun x28 =>
      condK 160065 x27
      (
       ncK 160069 x28 fun x29 =>
       faK 160070 x29 0 fun x30 =>
       ldK 160071 T3 ro x30 fun x31 =>
       as1K 160073 a2 44 fun x32 =>
       ncK 160074 x32 fun x33 =>
       faK 160075 x33 0 fun x34 =>
       ldK 160076 T3 ro x34 fun x35 =>
       callK (ih 27 ro [a0, x31, x35, a3] T3 n3) fun x36 T8 n8 =>
       exK 160079 x36 0 fun x37 =>
       exK 160080 x36 1 fun x38 =>
       .ok (.val (.tup [x37, x38])) T8 n8
      )
      (
       asK 160083 a1 80 (.tup [.lit (.pointer none), .lit (.bool false)]) fun x39 =>
       exK 160084 x39 1 fun x40 =>
       exK 160085 x39 0 fun x41 =>
       condK 160086 x40
       (
        ncK 160090 x41 fun x42 =>
        faK 160091 x42 0 fun x43 =>
        ldK 160092 T3 ro x43 fun x44 =>
        as1K 160094 a2 80 fun x45 =>
        ncK 160095 x45 fun x46 =>
        faK 160096 x46 0 fun x47 =>
        ldK 160097 T3 ro x47 fun x48 =>
        callK (ih 27 ro [a0, x44, x48, a3] T3 n3) fun x49 T9 n9 =>
        exK 160100 x49 0 fun x50 =>
        exK 160101 x49 1 fun x51 =>
        .ok (.val (.tup [x50, x51])) T9 n9
       )
       (
        .ok (.val (.tup [(.lit (.bool false)), (.iface 241 (.opq 3))])) T3 n3
       )
      )
     )
    )
   )
  )
 )
theorem g16_ok (ih : FuncId → List HT → List AV → HT → Nat → R) (hI : ∀ f ro args T nx, GOk prog envE f args ro T nx (ih f ro args T nx)) (ro : List HT) (a0 a1 a2 a3 : AV) (T : HT) (nx : Nat) : GOk prog envE 16 [a0, a1, a2, a3] ro T nx (g16 ih ro a0 a1 a2 a3 T nx) := by
 refine GOk.of_body func16 rfl ntmps16 (by kernel_rfl) rfl fun r T' n' h1 w0 base ρ0 its hS hP => ?_
 have X : CtxW envE ρ0 ro r T' n' := trivial
 unfold g16 at h1
 refine sr ?_
 iterate 2 refine as_ ?_
 refine dn (CV.seq (sr ?_))
 iterate 2 refine mv ?_
 refine LV.call hS h1 (g25_ok _ _ _ _ _ ) hP rfl rfl rfl rfl fun x1 T1 n1 h2 ρ its hS => ?_
 refine as_ ?_
 refine dn (sr ?_)
 refine mv ?_
 refine vy (V.bin0 h2 rfl rfl) fun x2 h3 => ?_
 refine dn ?_
 refine CV.cond h3 rfl (fun e h4 => ?_) (fun e h4 => ?_)
 ·
  subst e
  cases h4
 subst e
 refine CV.skip (PV.thenN (CV.seq (sr ?_)))
 refine mv ?_
 refine LV.inv hS h4 (GMk.ifc fun tr xr _ => GMk.one inv44_Kind_196 (g196_ok _ _ _ _ ) (GMk.one inv58_Kind_198 (g198_ok _ _ _ _ ) (GMk.one inv62_Kind_199 (g199_ok _ _ _ _ ) (GMk.one inv80_Kind_203 (g203_ok _ _ _ _ ) (GMk.one inv84_Kind_204 (g204_ok _ _ _ _ ) (GMk.one inv85_Kind_205 (g205_ok _ _ _ _ ) (GMk.bad))))))) hP rfl rfl rfl rfl rfl rfl rfl fun x3 T2 n2 h5 ρ its hS => ?_
 refine mv ?_
 refine LV.inv hS h5 (GMk.ifc fun tr xr _ => GMk.one inv44_Kind_196 (g196_ok _ _ _ _ ) (GMk.one inv58_Kind_198 (g198_ok _ _ _ _ ) (GMk.one inv62_Kind_199 (g199_ok _ _ _ _ ) (GMk.one inv80_Kind_203 (g203_ok _ _ _ _ ) (GMk.one inv84_Kind_204 (g204_ok _ _ _ _ ) (GMk.one inv85_Kind_205 (g205_ok _ _ _ _ ) (GMk.bad))))))) hP rfl rfl rfl rfl rfl rfl rfl fun x4 T3 n3 h6 ρ its hS => ?_
 refine vy (V.ne h6 rfl rfl) fun x5 h7 => ?_
 refine dn ?_
 refine CV.cond h7 rfl (fun e h8 => ?_) (fun e h8 => ?_)
 ·
  subst e
  refine CV.seq ?_
  refine CV.regionM [(0, .held), (1, .anywhere), (2, .held)] rfl (fun c a a' w hd hq => PanicOk.root (P := prog) (fn := f16) (w0 := w0) (base := base) (E := envE) (ro := ro) (r := r) (T' := T') (n' := n') (ρ0 := ρ0) c a a' w hd hq) (by kernel_rfl) ?_
  refine MV.step1 (i := 0) rfl (fun _ z => z) (VAL.ldG hS (by rfl) one28) rfl rfl rfl [] (by kernel_rfl) ?_
  refine MV.step0 (i := 1) rfl (VAL.assign rfl) rfl rfl rfl ?_
  refine MV.step1 (i := 2) rfl (fun _ z => z) (VAL.assign rfl) rfl rfl rfl [] (by kernel_rfl) ?_
  refine mdn (CV.ret (PV.thenR ?_))
  cases h8
  exact PV.ret (by simp) results16 hS (RS.tmp rfl (RS.tmp rfl RS.nil)) rfl
 subst e
 refine CV.skip (PV.thenN (CV.seq (sr ?_)))
 refine mv ?_
 refine dn (CV.block (sr ?_))
 refine vy (V.as h8 rfl ni77 za77) fun x6 h9 => ?_
 refine vy (V.ex h9 rfl) fun x7 h10 => ?_
 refine vy (V.ex h10 rfl) fun x8 h11 => ?_
 refine dn ?_
 refine CV.cond h11 rfl (fun e h12 => ?_) (fun e h12 => ?_)
 ·
  subst e
  refine sr ?_
  refine as_ ?_
  refine dn (sr ?_)
  refine mv ?_
  refine vy (V.not h12 rfl) fun x9 h13 => ?_
  refine mv ?_
  refine ls1 X 37 [(8, (.lit (.bool false))), (9, (.lit (.nilIface)))] (g16_k1 ih ro) 3 ?_ ?_
  ·
   rcases condK_inv h13 with ⟨e, h15⟩ | ⟨e, h15⟩
   ·
    subst e
    refine mv ?_
    refine vy (V.as1 h15 rfl ni77) fun x10 h16 => ?_
    refine pu ?_
    exact la1 hS h16 ⟨rfl, rfl, rfl, trivial⟩
   subst e
   iterate 2 refine sk ?_
   refine pu ?_
   exact la1 hS h15 ⟨rfl, rfl, rfl, trivial⟩
  intro y37 T4 n4 ρ its hS h14
  unfold g16_k1 at h14
  iterate 2 refine as_ ?_
  refine dn (CV.ret (PV.blockR (PV.thenR ?_)))
  cases h14
  exact PV.ret (by simp) results16 hS (RS.tmp rfl (RS.tmp rfl RS.nil)) rfl
 subst e
 refine sr ?_
 refine vy (V.as h12 rfl ni58 za58) fun x11 h17 => ?_
 refine vy (V.ex h17 rfl) fun x12 h18 => ?_
 refine vy (V.ex h18 rfl) fun x13 h19 => ?_
 refine dn ?_
 refine CV.cond h19 rfl (fun e h20 => ?_) (fun e h20 => ?_)
 ·
  subst e
  refine sr ?_
  refine LV.alloc hS h20 rfl zr58 rfl rfl rfl fun x14 T5 n5 h21 ρ its hS hdr => ?_
  refine LV.stA hS h21 rfl rfl rfl agg58 rfl rfl rfl fun T6 its h22 hS => ?_
  refine dn (CV.seq ?_)
  refine CV.regionM [(0, .anywhere), (1, .held), (2, .anywhere), (3, .anywhere), (4, .anywhere), (5, .alone), (6, .alone), (7, .alone), (8, .alone)] rfl (fun c a a' w hd hq => PanicOk.root (P := prog) (fn := f16) (w0 := w0) (base := base) (E := envE) (ro := ro) (r := r) (T' := T') (n' := n') (ρ0 := ρ0) c a a' w hd hq) (by kernel_rfl) ?_
  refine MV.lift0 (i := 0) rfl (V.fa h22 rfl fo58_1) rfl rfl rfl fun x15 h23 => ?_
  refine MV.lift1 (i := 1) rfl (fun _ z => z) (V.ldA hS h23 rfl agg37) rfl rfl rfl [] (by kernel_rfl) fun x16 h24 => ?_
  refine MV.step0 (i := 2) rfl (VAL.move rfl) rfl rfl rfl ?_
  refine MV.lift0 (i := 3) rfl (V.as1 h24 rfl ni58) rfl rfl rfl fun x17 h25 => ?_
  refine MV.lift0 (i := 4) rfl (V.fdA h25 rfl fda58_1) rfl rfl rfl fun x18 h26 => ?_
  refine MV.force (i := 5) rfl ?_
  refine LV.call hS h26 (g26_ok _ _ _ _ _ ) hP rfl rfl rfl rfl fun x19 T7 n7 h27 ρ its hS => ?_
  refine LV.nextM [] (by kernel_rfl) (fun z => absurd rfl z) ?_
  refine MV.force (i := 6) rfl ?_
  refine vy (V.lt h27 rfl rfl) fun x20 h28 => ?_
  refine LV.nextM [] (by kernel_rfl) (fun z => absurd rfl z) ?_
  refine MV.force (i := 7) rfl ?_
  refine as_ ?_
  refine LV.nextM [] (by kernel_rfl) (fun z => absurd rfl z) ?_
  refine MV.force (i := 8) rfl ?_
  refine as_ ?_
  refine LV.nextM [] (by kernel_rfl) (fun z => absurd rfl z) ?_
  refine mdn (CV.ret (PV.blockR (PV.thenR ?_)))
  cases h28
  exact PV.ret (by simp) results16 hS (RS.tmp rfl (RS.tmp rfl RS.nil)) rfl
 subst e
 refine sr ?_
 refine vy (V.as h20 rfl ni62 za62) fun x21 h29 => ?_
 refine vy (V.ex h29 rfl) fun x22 h30 => ?_
 refine vy (V.ex h30 rfl) fun x23 h31 => ?_
 refine dn ?_
 refine CV.cond h31 rfl (fun e h32 => ?_) (fun e h32 => ?_)
 ·
  subst e
  refine sr ?_
  refine as_ ?_
  refine dn (sr ?_)
  iterate 2 refine mv ?_
  refine vy (V.as1 h32 rfl ni62) fun x24 h33 => ?_
  refine vy (V.bin0 h33 rfl rfl) fun x25 h34 => ?_
  iterate 2 refine as_ ?_
  refine dn (CV.ret (PV.blockR (PV.thenR ?_)))
  cases h34
  exact PV.ret (by simp) results16 hS (RS.tmp rfl (RS.tmp rfl RS.nil)) rfl
 subst e
 refine sr ?_
 refine vy (V.as h32 rfl ni44 za44) fun x26 h35 => ?_
 refine vy (V.ex h35 rfl) fun x27 h36 => ?_
 refine vy (V.ex h36 rfl) fun x28 h37 => ?_
 refine dn ?_
 refine CV.cond h37 rfl (fun e h38 => ?_) (fun e h38 => ?_)
 ·
  subst e
  refine sr ?_
  refine as_ ?_
  refine dn (CV.seq ?_)
  refine CV.regionM [(0, .anywhere), (1, .anywhere), (2, .anywhere), (3, .anywhere), (4, .held), (5, .anywhere), (6, .anywhere), (7, .anywhere), (8, .anywhere), (9, .held), (10, .anywhere), (11, .alone), (12, .anywhere), (13, .alone), (14, .alone), (15, .alone)] rfl (fun c a a' w hd hq => PanicOk.root (P := prog) (fn := f16) (w0 := w0) (base := base) (E := envE) (ro := ro) (r := r) (T' := T') (n' := n') (ρ0 := ρ0) c a a' w hd hq) (by kernel_rfl) ?_
  refine MV.step0 (i := 0) rfl (VAL.move rfl) rfl rfl rfl ?_
  refine MV.step0 (i := 1) rfl (VAL.move rfl) rfl rfl rfl ?_
  refine MV.lift0 (i := 2) rfl (V.nc h38 rfl) rfl rfl rfl fun x29 h39 => ?_
  refine MV.lift0 (i := 3) rfl (V.fa h39 rfl fo74_1) rfl rfl rfl fun x30 h40 => ?_
  refine MV.lift1 (i := 4) rfl (fun _ z => z) (V.ld hS h40 rfl one42) rfl rfl rfl [] (by kernel_rfl) fun x31 h41 => ?_
  refine MV.step0 (i := 5) rfl (VAL.move rfl) rfl rfl rfl ?_
  refine MV.lift0 (i := 6) rfl (V.as1 h41 rfl ni44) rfl rfl rfl fun x32 h42 => ?_
  refine MV.lift0 (i := 7) rfl (V.nc h42 rfl) rfl rfl rfl fun x33 h43 => ?_
  refine MV.lift0 (i := 8) rfl (V.fa h43 rfl fo74_1) rfl rfl rfl fun x34 h44 => ?_
  refine MV.lift1 (i := 9) rfl (fun _ z => z) (V.ld hS h44 rfl one42) rfl rfl rfl [4] (by kernel_rfl) fun x35 h45 => ?_
  refine MV.step0 (i := 10) rfl (VAL.move rfl) rfl rfl rfl ?_
  refine MV.force (i := 11) rfl ?_
  refine LV.call hS h45 (hI _ _ _ _ _) hP rfl rfl rfl rfl fun x36 T8 n8 h46 ρ its hS => ?_
  refine LV.nextM [] (by kernel_rfl) (fun z => absurd rfl z) ?_
  refine MV.lift0 (i := 12) rfl (V.ex h46 rfl) rfl rfl rfl fun x37 h47 => ?_
  refine MV.force (i := 13) rfl ?_
  refine vy (V.ex h47 rfl) fun x38 h48 => ?_
  refine LV.nextM [] (by kernel_rfl) (fun z => absurd rfl z) ?_
  refine MV.force (i := 14) rfl ?_
  refine as_ ?_
  refine LV.nextM [] (by kernel_rfl) (fun z => absurd rfl z) ?_
  refine MV.force (i := 15) rfl ?_
  refine as_ ?_
  refine LV.nextM [] (by kernel_rfl) (fun z => absurd rfl z) ?_
  refine mdn (CV.ret (PV.blockR (PV.thenR ?_)))
  cases h48
  exact PV.ret (by simp) results16 hS (RS.tmp rfl (RS.tmp rfl RS.nil)) rfl
 subst e
 refine sr ?_
 refine vy (V.as h38 rfl ni80 za80) fun x39 h49 => ?_
 refine vy (V.ex h49 rfl) fun x40 h50 => ?_
 refine vy (V.ex h50 rfl) fun x41 h51 => ?_
 refine dn ?_
 refine CV.cond h51 rfl (fun e h52 => ?_) (fun e h52 => ?_)
 ·
  subst e
  refine sr ?_
  refine as_ ?_
  refine dn (CV.seq ?_)
  refine CV.regionM [(0, .anywhere), (1, .anywhere), (2, .anywhere), (3, .anywhere), (4, .held), (5, .anywhere), (6, .anywhere), (7, .anywhere), (8, .anywhere), (9, .held), (10, .anywhere), (11, .alone), (12, .anywhere), (13, .alone), (14, .alone), (15, .alone)] rfl (fun c a a' w hd hq => PanicOk.root (P := prog) (fn := f16) (w0 := w0) (base := base) (E := envE) (ro := ro) (r := r) (T' := T') (n' := n') (ρ0 := ρ0) c a a' w hd hq) (by kernel_rfl) ?_
  refine MV.step0 (i := 0) rfl (VAL.move rfl) rfl rfl rfl ?_
  refine MV.step0 (i := 1) rfl (VAL.move rfl) rfl rfl rfl ?_
  refine MV.lift0 (i := 2) rfl (V.nc h52 rfl) rfl rfl rfl fun x42 h53 => ?_
  refine MV.lift0 (i := 3) rfl (V.fa h53 rfl fo82_1) rfl rfl rfl fun x43 h54 => ?_
  refine MV.lift1 (i := 4) rfl (fun _ z => z) (V.ld hS h54 rfl one42) rfl rfl rfl [] (by kernel_rfl) fun x44 h55 => ?_
  refine MV.step0 (i := 5) rfl (VAL.move rfl) rfl rfl rfl ?_
  refine MV.lift0 (i := 6) rfl (V.as1 h55 rfl ni80) rfl rfl rfl fun x45 h56 => ?_
  refine MV.lift0 (i := 7) rfl (V.nc h56 rfl) rfl rfl rfl fun x46 h57 => ?_
  refine MV.lift0 (i := 8) rfl (V.fa h57 rfl fo82_1) rfl rfl rfl fun x47 h58 => ?_
  refine MV.lift1 (i := 9) rfl (fun _ z => z) (V.ld hS h58 rfl one42) rfl rfl rfl [4] (by kernel_rfl) fun x48 h59 => ?_
  refine MV.step0 (i := 10) rfl (VAL.move rfl) rfl rfl rfl ?_
  refine MV.force (i := 11) rfl ?_
  refine LV.call hS h59 (hI _ _ _ _ _) hP rfl rfl rfl rfl fun x49 T9 n9 h60 ρ its hS => ?_
  refine LV.nextM [] (by kernel_rfl) (fun z => absurd rfl z) ?_
  refine MV.lift0 (i := 12) rfl (V.ex h60 rfl) rfl rfl rfl fun x50 h61 => ?_
  refine MV.force (i := 13) rfl ?_
  refine vy (V.ex h61 rfl) fun x51 h62 => ?_
  refine LV.nextM [] (by kernel_rfl) (fun z => absurd rfl z) ?_
  refine MV.force (i := 14) rfl ?_
  refine as_ ?_
  refine LV.nextM [] (by kernel_rfl) (fun z => absurd rfl z) ?_
  refine MV.force (i := 15) rfl ?_
  refine as_ ?_
  refine LV.nextM [] (by kernel_rfl) (fun z => absurd rfl z) ?_
  refine mdn (CV.ret (PV.blockR (PV.thenR ?_)))
  cases h62
  exact PV.ret (by simp) results16 hS (RS.tmp rfl (RS.tmp rfl RS.nil)) rfl
 subst e
 refine CV.skip (PV.blockN (PV.thenN (CV.seq ?_)))
 refine CV.regionM [(0, .held), (1, .anywhere), (2, .held)] rfl (fun c a a' w hd hq => PanicOk.root (P := prog) (fn := f16) (w0 := w0) (base := base) (E := envE) (ro := ro) (r := r) (T' := T') (n' := n') (ρ0 := ρ0) c a a' w hd hq) (by kernel_rfl) ?_
 refine MV.step1 (i := 0) rfl (fun _ z => z) (VAL.ldG hS (by rfl) one28) rfl rfl rfl [] (by kernel_rfl) ?_
 refine MV.step0 (i := 1) rfl (VAL.assign rfl) rfl rfl rfl ?_
 refine MV.step1 (i := 2) rfl (fun _ z => z) (VAL.assign rfl) rfl rfl rfl [] (by kernel_rfl) ?_
 refine mdn (CV.ret ?_)
 cases h52
 exact PV.ret (by simp) results16 hS (RS.tmp rfl (RS.tmp rfl RS.nil)) rfl

end
end Go.Proofs.YtljaoofbklkglaaGreatDoor.Vo
