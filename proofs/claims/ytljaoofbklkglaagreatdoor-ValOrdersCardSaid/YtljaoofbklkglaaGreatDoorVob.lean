/-
  Proved here: plain functions that do what the program's functions do, each with its proof.
-/
import Derived.Test.YtljaoofbklkglaaGreatDoorVoa
namespace Go.Proofs.YtljaoofbklkglaaGreatDoor.Vo
open Go.EY Go.EX Go.SX Go.RowKit
open Tryz Vof
noncomputable section
def g27_b1 (ih : FuncId → List HT → List AV → HT → Nat → R) (ro : List HT) (lp1 : AV → AV → AV → AV → AV → AV → AV → AV → HT → Nat → R) (y0 y1 y2 y3 y8 y9 y18 y19 : AV) (T1 : HT) (n1 : Nat) : R :=
 ltK prog 3 (.tmp 19) (.tmp 18) 270010 y19 y18 fun x4 =>
 condK 270011 x4
 (
  iaK 270017 y1 y19 1 fun x5 =>
  ldK 270018 T1 ro x5 fun x6 =>
  iaK 270021 y2 y19 1 fun x7 =>
  ldK 270022 T1 ro x7 fun x8 =>
  addK prog 3 (.tmp 32) (.const (.int .i64 (.ofNat 1))) 270024 y3 (.lit (.int .i64 (.ofNat 1))) fun x9 =>
  callK (scc1 4000 17 ro [y0, x6, x8, x9] T1 n1) fun x10 T2 n2 =>
  exK 270027 x10 0 fun x11 =>
  exK 270028 x10 1 fun x12 =>
  bin0 prog .neq 28 (.tmp 37) (.const (.nilIface)) 270032 x12 (.lit (.nilIface)) fun x13 =>
  condK 270033 x13
  (
   .bad 270034
  )
  (
   notK 270036 x11 fun x14 =>
   condK 270037 x14
   (
    iaK 270041 y1 y19 1 fun x15 =>
    ldK 270042 T2 ro x15 fun x16 =>
    iaK 270045 y2 y19 1 fun x17 =>
    ldK 270046 T2 ro x17 fun x18 =>
    addK prog 3 (.tmp 51) (.const (.int .i64 (.ofNat 1))) 270048 y3 (.lit (.int .i64 (.ofNat 1))) fun x19 =>
    callK (ih 16 ro [y0, x16, x18, x19] T2 n2) fun x20 T3 n3 =>
    exK 270050 x20 0 fun x21 =>
    exK 270051 x20 1 fun x22 =>
    .ok (.val (.tup [x21, x22])) T3 n3
   )
   (
    addK prog 3 (.tmp 19) (.const (.int .i64 (.ofNat 1))) 270054 y19 (.lit (.int .i64 (.ofNat 1))) fun x23 =>
    lp1 y0 y1 y2 y3 y8 y9 y18 x23 T2 n2
   )
  )
 )
 (
  lenSK 270057 y1 fun x24 =>
  lenSK 270059 y2 fun x25 =>
  optK 270060 (mmV x24 x25 false) fun x26 =>
  callK (g52 ro x26 y3 T1 n1) fun x27 T4 n4 =>
  bin0 prog .neq 28 (.tmp 64) (.const (.nilIface)) 270065 x27 (.lit (.nilIface)) fun x28 =>
  condK 270066 x28
  (
   .bad 270067
  )
  (
   lenSK 270069 y1 fun x29 =>
   lenSK 270071 y2 fun x30 =>
   ltK prog 3 (.tmp 68) (.tmp 70) 270072 x29 x30 fun x31 =>
   .ok (.val (.tup [x31, (.lit (.nilIface))])) T4 n4
  )
 )
def g27 (ih : FuncId → List HT → List AV → HT → Nat → R) (ro : List HT) (a0 a1 a2 a3 : AV) (T : HT) (nx : Nat) : R :=
 lenSK 270004 a1 fun x1 =>
 lenSK 270006 a2 fun x2 =>
 optK 270007 (mmV x1 x2 false) fun x3 =>
 lpf8 270009 (g27_b1 ih ro) 100000 a0 a1 a2 a3 (.lit (.bool false)) (.lit (.nilIface)) x3 (.lit (.int .i64 (.ofNat 0))) T nx
theorem g27_ok (ih : FuncId → List HT → List AV → HT → Nat → R) (hI : ∀ f ro args T nx, GOk prog envE f args ro T nx (ih f ro args T nx)) (ro : List HT) (a0 a1 a2 a3 : AV) (T : HT) (nx : Nat) : GOk prog envE 27 [a0, a1, a2, a3] ro T nx (g27 ih ro a0 a1 a2 a3 T nx) := by
 refine GOk.of_body func27 rfl ntmps27 (by kernel_rfl) rfl fun r T' n' h1 w0 base ρ0 its hS hP => ?_
 have X : CtxW envE ρ0 ro r T' n' := trivial
 unfold g27 at h1
 refine sr ?_
 iterate 2 refine as_ ?_
 refine dn (CV.seq (sr ?_))
 refine mv ?_
 refine vy (V.lenS h1 rfl ls42) fun x1 h2 => ?_
 refine mv ?_
 refine vy (V.lenS h2 rfl ls42) fun x2 h3 => ?_
 refine vy (V.min h3 rfl rfl) fun x3 h4 => ?_
 refine mv ?_
 refine dn (CV.block ?_)
 refine cl8 X 0 1 2 3 8 9 18 19 [] hS h4 ⟨rfl, rfl, rfl, rfl, rfl, rfl, rfl, rfl, trivial⟩ ?_
 intro f1 y0 y1 y2 y3 y8 y9 y18 y19 T1 n1 ρ its hS h5
 unfold g27_b1 at h5
 refine sr ?_
 refine vy (V.lt h5 rfl rfl) fun x4 h6 => ?_
 refine dn (CV.seq ?_)
 refine CV.cond h6 rfl (fun e h7 => ?_) (fun e h7 => ?_)
 ·
  subst e
  refine CV.skip (PV.thenN (CV.seq (CV.block (sr ?_))))
  refine mv ?_
  refine as_ ?_
  refine dn (CV.seq ?_)
  refine CV.regionM [(0, .anywhere), (1, .anywhere), (2, .anywhere), (3, .anywhere), (4, .held), (5, .anywhere), (6, .anywhere), (7, .anywhere), (8, .held), (9, .anywhere), (10, .anywhere), (11, .alone), (12, .alone), (13, .anywhere), (14, .anywhere), (15, .alone), (16, .alone)] rfl (fun c a a' w hd hq => PanicOk.root (P := prog) (fn := f27) (w0 := w0) (base := base) (E := envE) (ro := ro) (r := r) (T' := T') (n' := n') (ρ0 := ρ0) c a a' w hd hq) (by kernel_rfl) ?_
  refine MV.step0 (i := 0) rfl (VAL.move rfl) rfl rfl rfl ?_
  refine MV.step0 (i := 1) rfl (VAL.move rfl) rfl rfl rfl ?_
  refine MV.step0 (i := 2) rfl (VAL.move rfl) rfl rfl rfl ?_
  refine MV.lift0 (i := 3) rfl (V.ia h7 rfl rfl el42) rfl rfl rfl fun x5 h8 => ?_
  refine MV.lift1 (i := 4) rfl (fun _ z => z) (V.ld hS h8 rfl one25) rfl rfl rfl [] (by kernel_rfl) fun x6 h9 => ?_
  refine MV.step0 (i := 5) rfl (VAL.move rfl) rfl rfl rfl ?_
  refine MV.step0 (i := 6) rfl (VAL.move rfl) rfl rfl rfl ?_
  refine MV.lift0 (i := 7) rfl (V.ia h9 rfl rfl el42) rfl rfl rfl fun x7 h10 => ?_
  refine MV.lift1 (i := 8) rfl (fun _ z => z) (V.ld hS h10 rfl one25) rfl rfl rfl [4] (by kernel_rfl) fun x8 h11 => ?_
  refine MV.step0 (i := 9) rfl (VAL.move rfl) rfl rfl rfl ?_
  refine MV.lift0 (i := 10) rfl (V.add h11 rfl rfl) rfl rfl rfl fun x9 h12 => ?_
  refine MV.force (i := 11) rfl ?_
  refine LV.call hS h12 (scc1_ok _ _ _ _ _ _) hP rfl rfl rfl rfl fun x10 T2 n2 h13 ρ its hS => ?_
  refine LV.nextM [] (by kernel_rfl) (fun z => absurd rfl z) ?_
  refine MV.force (i := 12) rfl ?_
  refine mv ?_
  refine LV.nextM [] (by kernel_rfl) (fun z => absurd rfl z) ?_
  refine MV.lift0 (i := 13) rfl (V.ex h13 rfl) rfl rfl rfl fun x11 h14 => ?_
  refine MV.lift0 (i := 14) rfl (V.ex h14 rfl) rfl rfl rfl fun x12 h15 => ?_
  refine MV.force (i := 15) rfl ?_
  refine as_ ?_
  refine LV.nextM [] (by kernel_rfl) (fun z => absurd rfl z) ?_
  refine MV.force (i := 16) rfl ?_
  refine as_ ?_
  refine LV.nextM [] (by kernel_rfl) (fun z => absurd rfl z) ?_
  refine mdn (CV.seq (sr ?_))
  refine mv ?_
  refine vy (V.bin0 h15 rfl rfl) fun x13 h16 => ?_
  refine dn ?_
  refine CV.cond h16 rfl (fun e h17 => ?_) (fun e h17 => ?_)
  ·
   subst e
   cases h17
  subst e
  refine CV.skip (PV.thenN (sr ?_))
  refine mv ?_
  refine vy (V.not h17 rfl) fun x14 h18 => ?_
  refine dn ?_
  refine CV.cond h18 rfl (fun e h19 => ?_) (fun e h19 => ?_)
  ·
   subst e
   refine CV.seq ?_
   refine CV.regionM [(0, .anywhere), (1, .anywhere), (2, .anywhere), (3, .anywhere), (4, .held), (5, .anywhere), (6, .anywhere), (7, .anywhere), (8, .held), (9, .anywhere), (10, .anywhere), (11, .alone), (12, .anywhere), (13, .alone), (14, .alone), (15, .alone)] rfl (fun c a a' w hd hq => PanicOk.root (P := prog) (fn := f27) (w0 := w0) (base := base) (E := envE) (ro := ro) (r := r) (T' := T') (n' := n') (ρ0 := ρ0) c a a' w hd hq) (by kernel_rfl) ?_
   refine MV.step0 (i := 0) rfl (VAL.move rfl) rfl rfl rfl ?_
   refine MV.step0 (i := 1) rfl (VAL.move rfl) rfl rfl rfl ?_
   refine MV.step0 (i := 2) rfl (VAL.move rfl) rfl rfl rfl ?_
   refine MV.lift0 (i := 3) rfl (V.ia h19 rfl rfl el42) rfl rfl rfl fun x15 h20 => ?_
   refine MV.lift1 (i := 4) rfl (fun _ z => z) (V.ld hS h20 rfl one25) rfl rfl rfl [] (by kernel_rfl) fun x16 h21 => ?_
   refine MV.step0 (i := 5) rfl (VAL.move rfl) rfl rfl rfl ?_
   refine MV.step0 (i := 6) rfl (VAL.move rfl) rfl rfl rfl ?_
   refine MV.lift0 (i := 7) rfl (V.ia h21 rfl rfl el42) rfl rfl rfl fun x17 h22 => ?_
   refine MV.lift1 (i := 8) rfl (fun _ z => z) (V.ld hS h22 rfl one25) rfl rfl rfl [4] (by kernel_rfl) fun x18 h23 => ?_
   refine MV.step0 (i := 9) rfl (VAL.move rfl) rfl rfl rfl ?_
   refine MV.lift0 (i := 10) rfl (V.add h23 rfl rfl) rfl rfl rfl fun x19 h24 => ?_
   refine MV.force (i := 11) rfl ?_
   refine LV.call hS h24 (hI _ _ _ _ _) hP rfl rfl rfl rfl fun x20 T3 n3 h25 ρ its hS => ?_
   refine LV.nextM [] (by kernel_rfl) (fun z => absurd rfl z) ?_
   refine MV.lift0 (i := 12) rfl (V.ex h25 rfl) rfl rfl rfl fun x21 h26 => ?_
   refine MV.force (i := 13) rfl ?_
   refine vy (V.ex h26 rfl) fun x22 h27 => ?_
   refine LV.nextM [] (by kernel_rfl) (fun z => absurd rfl z) ?_
   refine MV.force (i := 14) rfl ?_
   refine as_ ?_
   refine LV.nextM [] (by kernel_rfl) (fun z => absurd rfl z) ?_
   refine MV.force (i := 15) rfl ?_
   refine as_ ?_
   refine LV.nextM [] (by kernel_rfl) (fun z => absurd rfl z) ?_
   refine mdn (CV.ret (PV.blockR (PV.thenR (PV.thenR (PV.blockR (PV.thenR ?_))))))
   cases h27
   exact PV.ret (by simp) results27 hS (RS.tmp rfl (RS.tmp rfl RS.nil)) rfl
  subst e
  refine CV.skip (PV.blockN (PV.thenN (CV.region ?_)))
  refine vy (V.add h19 rfl rfl) fun x23 h28 => ?_
  refine mv ?_
  refine LV.done ?_
  exact pb8 hS h28 ⟨rfl, rfl, rfl, rfl, rfl, rfl, rfl, rfl, trivial⟩
 subst e
 refine CV.exit (PV.thenE (PV.thenE (PV.blockE (PV.thenN (CV.seq (sr ?_))))))
 refine mv ?_
 refine vy (V.lenS h7 rfl ls42) fun x24 h29 => ?_
 refine mv ?_
 refine vy (V.lenS h29 rfl ls42) fun x25 h30 => ?_
 refine vy (V.min h30 rfl rfl) fun x26 h31 => ?_
 refine mv ?_
 refine LV.call hS h31 (g52_ok _ _ _ _ _ ) hP rfl rfl rfl rfl fun x27 T4 n4 h32 ρ its hS => ?_
 refine as_ ?_
 refine dn (sr ?_)
 refine mv ?_
 refine vy (V.bin0 h32 rfl rfl) fun x28 h33 => ?_
 refine dn ?_
 refine CV.cond h33 rfl (fun e h34 => ?_) (fun e h34 => ?_)
 ·
  subst e
  cases h34
 subst e
 refine CV.skip (PV.thenN (sr ?_))
 refine mv ?_
 refine vy (V.lenS h34 rfl ls42) fun x29 h35 => ?_
 refine mv ?_
 refine vy (V.lenS h35 rfl ls42) fun x30 h36 => ?_
 refine vy (V.lt h36 rfl rfl) fun x31 h37 => ?_
 iterate 2 refine as_ ?_
 refine dn (CV.ret ?_)
 cases h37
 exact PV.ret (by simp) results27 hS (RS.tmp rfl (RS.tmp rfl RS.nil)) rfl
def ap2 (ih : FuncId → List HT → List AV → HT → Nat → R) (f : FuncId) (ro : List HT) (args : List AV) (T : HT) (nx : Nat) : R :=
  Bool.rec (motive := fun _ => R) (Bool.rec (motive := fun _ => R) (.bad 2) (List.rec (motive := fun _ => R) (.bad 1) (fun a0 l0 _ => List.rec (motive := fun _ => R) (.bad 1) (fun a1 l1 _ => List.rec (motive := fun _ => R) (.bad 1) (fun a2 l2 _ => List.rec (motive := fun _ => R) (.bad 1) (fun a3 l3 _ => List.rec (motive := fun _ => R) (g27 ih ro a0 a1 a2 a3 T nx) (fun _ _ _ => .bad 1) l3) l2) l1) l0) args) (Nat.beq f 27)) (Bool.rec (motive := fun _ => R) (.bad 2) (List.rec (motive := fun _ => R) (.bad 1) (fun a0 l0 _ => List.rec (motive := fun _ => R) (.bad 1) (fun a1 l1 _ => List.rec (motive := fun _ => R) (.bad 1) (fun a2 l2 _ => List.rec (motive := fun _ => R) (.bad 1) (fun a3 l3 _ => List.rec (motive := fun _ => R) (g16 ih ro a0 a1 a2 a3 T nx) (fun _ _ _ => .bad 1) l3) l2) l1) l0) args) (Nat.beq f 16)) (Nat.ble f 16)
def scc2 (fuel : Nat) : FuncId → List HT → List AV → HT → Nat → R :=
  Nat.rec (motive := fun _ => FuncId → List HT → List AV → HT → Nat → R) (fun _ _ _ _ _ => .bad 3) (fun _ ih => ap2 ih) fuel
theorem ap2_ok (ih : FuncId → List HT → List AV → HT → Nat → R) (hI : ∀ f ro args T nx, GOk prog envE f args ro T nx (ih f ro args T nx)) (f : FuncId) (ro : List HT) (args : List AV) (T : HT) (nx : Nat) : GOk prog envE f args ro T nx (ap2 ih f ro args T nx) := by
  unfold ap2
  refine recb_go (fun hb => ?_) (fun _ => ?_)
  · refine recb_go (fun hb => ?_) (fun _ => ?_)
    · obtain rfl := beqT hb
      rcases args with _ | ⟨a0, l0⟩
      · exact GOk.bad
      rcases l0 with _ | ⟨a1, l1⟩
      · exact GOk.bad
      rcases l1 with _ | ⟨a2, l2⟩
      · exact GOk.bad
      rcases l2 with _ | ⟨a3, l3⟩
      · exact GOk.bad
      rcases l3 with _ | ⟨_, _⟩
      · exact g16_ok _ hI _ _ _ _ _ _ _ 
      · exact GOk.bad
    · exact GOk.bad
  · refine recb_go (fun hb => ?_) (fun _ => ?_)
    · obtain rfl := beqT hb
      rcases args with _ | ⟨a0, l0⟩
      · exact GOk.bad
      rcases l0 with _ | ⟨a1, l1⟩
      · exact GOk.bad
      rcases l1 with _ | ⟨a2, l2⟩
      · exact GOk.bad
      rcases l2 with _ | ⟨a3, l3⟩
      · exact GOk.bad
      rcases l3 with _ | ⟨_, _⟩
      · exact g27_ok _ hI _ _ _ _ _ _ _ 
      · exact GOk.bad
    · exact GOk.bad
theorem scc2_ok : ∀ (fuel : Nat) (f : FuncId) (ro : List HT) (args : List AV) (T : HT) (nx : Nat), GOk prog envE f args ro T nx (scc2 fuel f ro args T nx)
  | 0, _, _, _, _, _ => GOk.bad
  | fuel + 1, f, ro, args, T, nx => ap2_ok (scc2 fuel) (scc2_ok fuel) f ro args T nx
def g6 (ro : List HT) (a0 a1 : AV) (T : HT) (nx : Nat) : R :=
 optK 60003 (bld48 [(0, (.lit (.int .i64 (.ofNat 4096))))]) fun x1 =>
 boxK 60004 T nx x1 48 fun x2 T1 n1 =>
 callK (scc2 4000 16 ro [x2, a0, a1, (.lit (.int .i64 (.ofNat 0)))] T1 n1) fun x3 T2 n2 =>
 exK 60010 x3 0 fun x4 =>
 exK 60011 x3 1 fun x5 =>
 .ok (.val (.tup [x4, x5])) T2 n2
theorem g6_ok (ro : List HT) (a0 a1 : AV) (T : HT) (nx : Nat) : GOk prog envE 6 [a0, a1] ro T nx (g6 ro a0 a1 T nx) := by
 refine GOk.of_body func6 rfl ntmps6 (by kernel_rfl) rfl fun r T' n' h1 w0 base ρ0 its hS hP => ?_
 have X : CtxW envE ρ0 ro r T' n' := trivial
 unfold g6 at h1
 refine sr ?_
 iterate 2 refine as_ ?_
 refine dn (sr ?_)
 refine vy (V.bld h1 rfl) fun x1 h2 => ?_
 refine LV.box hS h2 rfl rfl rfl rfl rfl fun x2 T1 n1 h3 ρ its hS hdr => ?_
 refine as_ ?_
 refine dn (sr ?_)
 iterate 3 refine mv ?_
 refine LV.call hS h3 (scc2_ok _ _ _ _ _ _) hP rfl rfl rfl rfl fun x3 T2 n2 h4 ρ its hS => ?_
 refine vy (V.ex h4 rfl) fun x4 h5 => ?_
 refine vy (V.ex h5 rfl) fun x5 h6 => ?_
 iterate 2 refine as_ ?_
 refine dn (CV.ret ?_)
 cases h6
 exact PV.ret (by simp) results6 hS (RS.tmp rfl (RS.tmp rfl RS.nil)) rfl
def g76 (ro : List HT) (a0 : AV) (T : HT) (nx : Nat) : R :=
 ncK 760003 a0 fun x1 =>
 faK 760004 x1 0 fun x2 =>
 ldK 760005 T ro x2 fun x3 =>
 ncK 760007 a0 fun x4 =>
 faK 760008 x4 1 fun x5 =>
 ldK 760009 T ro x5 fun x6 =>
 iaK 760010 x3 x6 3 fun x7 =>
 faK 760011 x7 2 fun x8 =>
 ldK 760012 T ro x8 fun x9 =>
 .ok (.val x9) T nx
theorem g76_ok (ro : List HT) (a0 : AV) (T : HT) (nx : Nat) : GOk prog envE 76 [a0] ro T nx (g76 ro a0 T nx) := by
 refine GOk.of_body func76 rfl ntmps76 (by kernel_rfl) rfl fun r T' n' h1 w0 base ρ0 its hS hP => ?_
 have X : CtxW envE ρ0 ro r T' n' := trivial
 unfold g76 at h1
 refine sr ?_
 refine as_ ?_
 refine dn (CV.seq ?_)
 refine CV.regionM [(0, .anywhere), (1, .anywhere), (2, .anywhere), (3, .held), (4, .anywhere), (5, .anywhere), (6, .anywhere), (7, .held), (8, .held), (9, .held), (10, .held), (11, .held)] rfl (fun c a a' w hd hq => PanicOk.root (P := prog) (fn := f76) (w0 := w0) (base := base) (E := envE) (ro := ro) (r := r) (T' := T') (n' := n') (ρ0 := ρ0) c a a' w hd hq) (by kernel_rfl) ?_
 refine MV.step0 (i := 0) rfl (VAL.move rfl) rfl rfl rfl ?_
 refine MV.lift0 (i := 1) rfl (V.nc h1 rfl) rfl rfl rfl fun x1 h2 => ?_
 refine MV.lift0 (i := 2) rfl (V.fa h2 rfl fo99_0) rfl rfl rfl fun x2 h3 => ?_
 refine MV.lift1 (i := 3) rfl (fun _ z => z) (V.ld hS h3 rfl one97) rfl rfl rfl [] (by kernel_rfl) fun x3 h4 => ?_
 refine MV.step0 (i := 4) rfl (VAL.move rfl) rfl rfl rfl ?_
 refine MV.lift0 (i := 5) rfl (V.nc h4 rfl) rfl rfl rfl fun x4 h5 => ?_
 refine MV.lift0 (i := 6) rfl (V.fa h5 rfl fo99_1) rfl rfl rfl fun x5 h6 => ?_
 refine MV.lift1 (i := 7) rfl (fun _ z => z) (V.ld hS h6 rfl one3) rfl rfl rfl [3] (by kernel_rfl) fun x6 h7 => ?_
 refine MV.lift1 (i := 8) rfl (fun _ z => z) (V.ia h7 rfl rfl el97) rfl rfl rfl [] (by kernel_rfl) fun x7 h8 => ?_
 refine MV.lift1 (i := 9) rfl (fun _ z => z) (V.fa h8 rfl fo144_2) rfl rfl rfl [] (by kernel_rfl) fun x8 h9 => ?_
 refine MV.lift1 (i := 10) rfl (fun _ z => z) (V.ld hS h9 rfl one3) rfl rfl rfl [] (by kernel_rfl) fun x9 h10 => ?_
 refine MV.step1 (i := 11) rfl (fun _ z => z) (VAL.assign rfl) rfl rfl rfl [] (by kernel_rfl) ?_
 refine mdn (CV.ret ?_)
 cases h10
 exact PV.ret (by simp) results76 hS (RS.tmp rfl RS.nil) rfl
def g80 (ro : List HT) (a0 a1 a2 a3 a4 : AV) (T : HT) (nx : Nat) : R :=
 fldK 800004 T ro a0 2 fun x1 =>
 optK 800009 (bld105 [(0, a1), (2, a2), (3, a3), (4, a4)]) fun x2 =>
 bsK 800010 T nx 1 105 5 [(0, x2)] fun x3 T1 n1 =>
 shrK 800012 T1 x1 fun T2 =>
 appEK 800011 T2 ro n1 105 5 64 x1 x3 fun x4 T3 n3 =>
 faK 800013 a0 2 fun x5 =>
 stK 800014 T3 x5 x4 fun T4 =>
 fldK 800016 T4 ro a0 2 fun x6 =>
 lenSK 800017 x6 fun x7 =>
 subK prog 3 (.tmp 29) (.const (.int .i64 (.ofNat 1))) 800018 x7 (.lit (.int .i64 (.ofNat 1))) fun x8 =>
 .ok (.val x8) T4 n3
theorem g80_ok (ro : List HT) (a0 a1 a2 a3 a4 : AV) (T : HT) (nx : Nat) : GOk prog envE 80 [a0, a1, a2, a3, a4] ro T nx (g80 ro a0 a1 a2 a3 a4 T nx) := by
 refine GOk.of_body func80 rfl ntmps80 (by kernel_rfl) rfl fun r T' n' h1 w0 base ρ0 its hS hP => ?_
 have X : CtxW envE ρ0 ro r T' n' := trivial
 unfold g80 at h1
 refine sr ?_
 refine as_ ?_
 refine dn (sr ?_)
 iterate 2 refine mv ?_
 refine fl hS h1 fo99_2 one50 fun x1 h2 => ?_
 iterate 4 refine mv ?_
 refine vy (V.bld h2 rfl) fun x2 h3 => ?_
 refine LV.bslice hS h3 rfl rfl el50 rfl rfl rfl rfl fun x3 T1 n1 h4 ρ its hS hdr => ?_
 obtain ⟨T2, its1, h5, hS, hW⟩ := shrK_inv hS h4
 refine LV.world hW ?_
 refine LV.appE hS h5 rfl rfl rfl rfl el50 rfl rfl rfl fun x4 T3 n3 h6 ρ its hS => ?_
 refine fa2 h6 fo99_2 fun x5 h7 => ?_
 refine LV.st hS h7 rfl rfl rfl siz50 rfl rfl fun T4 its h8 hS => ?_
 refine dn (sr ?_)
 refine mv ?_
 refine fl hS h8 fo99_2 one50 fun x6 h9 => ?_
 refine vy (V.lenS h9 rfl ls50) fun x7 h10 => ?_
 refine vy (V.sub h10 rfl rfl) fun x8 h11 => ?_
 refine as_ ?_
 refine dn (CV.ret ?_)
 cases h11
 exact PV.ret (by simp) results80 hS (RS.tmp rfl RS.nil) rfl
def g35 (ro : List HT) (a0 : AV) (T : HT) (nx : Nat) : R :=
 ncK 350003 a0 fun x1 =>
 faK 350004 x1 0 fun x2 =>
 ldK 350005 T ro x2 fun x3 =>
 ncK 350007 a0 fun x4 =>
 faK 350008 x4 1 fun x5 =>
 ldK 350009 T ro x5 fun x6 =>
 iaK 350010 x3 x6 3 fun x7 =>
 faK 350011 x7 0 fun x8 =>
 ldK 350012 T ro x8 fun x9 =>
 .ok (.val x9) T nx
theorem g35_ok (ro : List HT) (a0 : AV) (T : HT) (nx : Nat) : GOk prog envE 35 [a0] ro T nx (g35 ro a0 T nx) := by
 refine GOk.of_body func35 rfl ntmps35 (by kernel_rfl) rfl fun r T' n' h1 w0 base ρ0 its hS hP => ?_
 have X : CtxW envE ρ0 ro r T' n' := trivial
 unfold g35 at h1
 refine sr ?_
 refine as_ ?_
 refine dn (CV.seq ?_)
 refine CV.regionM [(0, .anywhere), (1, .anywhere), (2, .anywhere), (3, .held), (4, .anywhere), (5, .anywhere), (6, .anywhere), (7, .held), (8, .held), (9, .held), (10, .held), (11, .held)] rfl (fun c a a' w hd hq => PanicOk.root (P := prog) (fn := f35) (w0 := w0) (base := base) (E := envE) (ro := ro) (r := r) (T' := T') (n' := n') (ρ0 := ρ0) c a a' w hd hq) (by kernel_rfl) ?_
 refine MV.step0 (i := 0) rfl (VAL.move rfl) rfl rfl rfl ?_
 refine MV.lift0 (i := 1) rfl (V.nc h1 rfl) rfl rfl rfl fun x1 h2 => ?_
 refine MV.lift0 (i := 2) rfl (V.fa h2 rfl fo99_0) rfl rfl rfl fun x2 h3 => ?_
 refine MV.lift1 (i := 3) rfl (fun _ z => z) (V.ld hS h3 rfl one97) rfl rfl rfl [] (by kernel_rfl) fun x3 h4 => ?_
 refine MV.step0 (i := 4) rfl (VAL.move rfl) rfl rfl rfl ?_
 refine MV.lift0 (i := 5) rfl (V.nc h4 rfl) rfl rfl rfl fun x4 h5 => ?_
 refine MV.lift0 (i := 6) rfl (V.fa h5 rfl fo99_1) rfl rfl rfl fun x5 h6 => ?_
 refine MV.lift1 (i := 7) rfl (fun _ z => z) (V.ld hS h6 rfl one3) rfl rfl rfl [3] (by kernel_rfl) fun x6 h7 => ?_
 refine MV.lift1 (i := 8) rfl (fun _ z => z) (V.ia h7 rfl rfl el97) rfl rfl rfl [] (by kernel_rfl) fun x7 h8 => ?_
 refine MV.lift1 (i := 9) rfl (fun _ z => z) (V.fa h8 rfl fo144_0) rfl rfl rfl [] (by kernel_rfl) fun x8 h9 => ?_
 refine MV.lift1 (i := 10) rfl (fun _ z => z) (V.ld hS h9 rfl one3) rfl rfl rfl [] (by kernel_rfl) fun x9 h10 => ?_
 refine MV.step1 (i := 11) rfl (fun _ z => z) (VAL.assign rfl) rfl rfl rfl [] (by kernel_rfl) ?_
 refine mdn (CV.ret ?_)
 cases h10
 exact PV.ret (by simp) results35 hS (RS.tmp rfl RS.nil) rfl
def g133_b1 (ro : List HT) (lp1 : AV → AV → AV → AV → AV → HT → Nat → R) (y0 y1 y4 y7 y8 : AV) (T1 : HT) (n1 : Nat) : R :=
 ltK prog 3 (.tmp 8) (.tmp 7) 1330006 y8 y7 fun x2 =>
 condK 1330007 x2
 (
  iaK 1330013 y0 y8 1 fun x3 =>
  ldK 1330014 T1 ro x3 fun x4 =>
  eqSK prog 9 (.tmp 11) (.tmp 15) 1330015 y1 x4 fun x5 =>
  condK 1330016 x5
  (
   .ok (.val y8) T1 n1
  )
  (
   addK prog 3 (.tmp 8) (.const (.int .i64 (.ofNat 1))) 1330019 y8 (.lit (.int .i64 (.ofNat 1))) fun x6 =>
   lp1 y0 y1 y4 y7 x6 T1 n1
  )
 )
 (
  .ok (.val (.lit (.int .i64 (.negSucc 0)))) T1 n1
 )
def g133 (ro : List HT) (a0 a1 : AV) (T : HT) (nx : Nat) : R :=
 lenSK 1330003 a0 fun x1 =>
 lpf5 1330005 (g133_b1 ro) 100000 a0 a1 (.lit (.int .i64 (.ofNat 0))) x1 (.lit (.int .i64 (.ofNat 0))) T nx
theorem g133_ok (ro : List HT) (a0 a1 : AV) (T : HT) (nx : Nat) : GOk prog envE 133 [a0, a1] ro T nx (g133 ro a0 a1 T nx) := by
 refine GOk.of_body func133 rfl ntmps133 (by kernel_rfl) rfl fun r T' n' h1 w0 base ρ0 its hS hP => ?_
 have X : CtxW envE ρ0 ro r T' n' := trivial
 unfold g133 at h1
 refine sr ?_
 refine as_ ?_
 refine dn (CV.seq (sr ?_))
 refine mv ?_
 refine vy (V.lenS h1 rfl ls89) fun x1 h2 => ?_
 refine mv ?_
 refine dn (CV.block ?_)
 refine cl5 X 0 1 4 7 8 [] hS h2 ⟨rfl, rfl, rfl, rfl, rfl, trivial⟩ ?_
 intro f1 y0 y1 y4 y7 y8 T1 n1 ρ its hS h3
 unfold g133_b1 at h3
 refine sr ?_
 refine vy (V.lt h3 rfl rfl) fun x2 h4 => ?_
 refine dn (CV.seq ?_)
 refine CV.cond h4 rfl (fun e h5 => ?_) (fun e h5 => ?_)
 ·
  subst e
  refine CV.skip (PV.thenN (CV.seq (CV.block (sr ?_))))
  refine mv ?_
  refine as_ ?_
  refine dn (sr ?_)
  iterate 3 refine mv ?_
  refine vy (V.ia h5 rfl rfl el89) fun x3 h6 => ?_
  refine vy (V.ld hS h6 rfl one9) fun x4 h7 => ?_
  refine vy (V.eqS h7 rfl rfl) fun x5 h8 => ?_
  refine dn ?_
  refine CV.cond h8 rfl (fun e h9 => ?_) (fun e h9 => ?_)
  ·
   subst e
   refine sr ?_
   refine mv ?_
   refine as_ ?_
   refine dn (CV.ret (PV.blockR (PV.thenR (PV.thenR (PV.blockR (PV.thenR ?_))))))
   cases h9
   exact PV.ret (by simp) results133 hS (RS.tmp rfl RS.nil) rfl
  subst e
  refine CV.skip (PV.blockN (PV.thenN (CV.region ?_)))
  refine vy (V.add h9 rfl rfl) fun x6 h10 => ?_
  refine mv ?_
  refine LV.done ?_
  exact pb5 hS h10 ⟨rfl, rfl, rfl, rfl, rfl, trivial⟩
 subst e
 refine CV.exit (PV.thenE (PV.thenE (PV.blockE (PV.thenN (sr ?_)))))
 refine as_ ?_
 refine dn (CV.ret ?_)
 cases h5
 exact PV.ret (by simp) results133 hS (RS.tmp rfl RS.nil) rfl
def g106 (ro : List HT) (a0 a1 : AV) (T : HT) (nx : Nat) : R :=
 callK (g133 ro a0 a1 T nx) fun x1 T1 n1 =>
 geK prog 3 (.tmp 7) (.const (.int .i64 (.ofNat 0))) 1060005 x1 (.lit (.int .i64 (.ofNat 0))) fun x2 =>
 .ok (.val x2) T1 n1
theorem g106_ok (ro : List HT) (a0 a1 : AV) (T : HT) (nx : Nat) : GOk prog envE 106 [a0, a1] ro T nx (g106 ro a0 a1 T nx) := by
 refine GOk.of_body func106 rfl ntmps106 (by kernel_rfl) rfl fun r T' n' h1 w0 base ρ0 its hS hP => ?_
 have X : CtxW envE ρ0 ro r T' n' := trivial
 unfold g106 at h1
 refine sr ?_
 refine as_ ?_
 refine dn (sr ?_)
 iterate 2 refine mv ?_
 refine LV.call hS h1 (g133_ok _ _ _ _ _ ) hP rfl rfl rfl rfl fun x1 T1 n1 h2 ρ its hS => ?_
 refine vy (V.ge h2 rfl rfl) fun x2 h3 => ?_
 refine as_ ?_
 refine dn (CV.ret ?_)
 cases h3
 exact PV.ret (by simp) results106 hS (RS.tmp rfl RS.nil) rfl
def g103 (ro : List HT) (a0 a1 : AV) (T : HT) (nx : Nat) : R :=
 callQ 1030003 (g35 (T :: ro) a0 .nil nx) fun x1 =>
 eqK prog 3 (.tmp 6) (.const (.int .i64 (.ofNat 4))) 1030004 x1 (.lit (.int .i64 (.ofNat 4))) fun x2 =>
 condK 1030006 x2
 (
  ncK 1030009 a0 fun x3 =>
  faK 1030010 x3 0 fun x4 =>
  ldK 1030011 T ro x4 fun x5 =>
  ncK 1030013 a0 fun x6 =>
  faK 1030014 x6 1 fun x7 =>
  ldK 1030015 T ro x7 fun x8 =>
  iaK 1030016 x5 x8 3 fun x9 =>
  faK 1030017 x9 1 fun x10 =>
  ldK 1030018 T ro x10 fun x11 =>
  callQ 1030019 (g106 (T :: ro) a1 x11 .nil nx) fun x12 =>
  .ok (.val x12) T nx
 )
 (
  .ok (.val (.lit (.bool false))) T nx
 )
theorem g103_ok (ro : List HT) (a0 a1 : AV) (T : HT) (nx : Nat) : GOk prog envE 103 [a0, a1] ro T nx (g103 ro a0 a1 T nx) := by
 refine GOk.of_body func103 rfl ntmps103 (by kernel_rfl) rfl fun r T' n' h1 w0 base ρ0 its hS hP => ?_
 have X : CtxW envE ρ0 ro r T' n' := trivial
 unfold g103 at h1
 refine sr ?_
 refine as_ ?_
 refine dn (CV.seq ?_)
 refine CV.regionM [(0, .anywhere), (1, .alone), (2, .anywhere), (3, .anywhere), (4, .anywhere), (5, .anywhere), (6, .anywhere), (7, .anywhere), (8, .held), (9, .anywhere), (10, .anywhere), (11, .anywhere), (12, .held), (13, .held), (14, .held), (15, .held), (16, .alone), (17, .anywhere), (18, .anywhere)] rfl (fun c a a' w hd hq => PanicOk.root (P := prog) (fn := f103) (w0 := w0) (base := base) (E := envE) (ro := ro) (r := r) (T' := T') (n' := n') (ρ0 := ρ0) c a a' w hd hq) (by kernel_rfl) ?_
 refine MV.step0 (i := 0) rfl (VAL.move rfl) rfl rfl rfl ?_
 refine MV.force (i := 1) rfl ?_
 refine LV.callQ hS h1 (g35_ok _ _ _ _ ) rfl rfl rfl rfl fun x1 h2 => ?_
 refine LV.nextM [] (by kernel_rfl) (fun z => absurd rfl z) ?_
 refine MV.lift0 (i := 2) rfl (V.eq h2 rfl rfl) rfl rfl rfl fun x2 h3 => ?_
 refine MV.step0 (i := 3) rfl (VAL.move rfl) rfl rfl rfl ?_
 rcases condK_inv h3 with ⟨e, h4⟩ | ⟨e, h4⟩
 ·
  subst e
  refine MV.step0 (i := 4) rfl (VAL.move rfl) rfl rfl rfl ?_
  refine MV.step0 (i := 5) rfl (VAL.move rfl) rfl rfl rfl ?_
  refine MV.lift0 (i := 6) rfl (V.nc h4 rfl) rfl rfl rfl fun x3 h5 => ?_
  refine MV.lift0 (i := 7) rfl (V.fa h5 rfl fo99_0) rfl rfl rfl fun x4 h6 => ?_
  refine MV.lift1 (i := 8) rfl (fun _ z => z) (V.ld hS h6 rfl one97) rfl rfl rfl [] (by kernel_rfl) fun x5 h7 => ?_
  refine MV.step0 (i := 9) rfl (VAL.move rfl) rfl rfl rfl ?_
  refine MV.lift0 (i := 10) rfl (V.nc h7 rfl) rfl rfl rfl fun x6 h8 => ?_
  refine MV.lift0 (i := 11) rfl (V.fa h8 rfl fo99_1) rfl rfl rfl fun x7 h9 => ?_
  refine MV.lift1 (i := 12) rfl (fun _ z => z) (V.ld hS h9 rfl one3) rfl rfl rfl [8] (by kernel_rfl) fun x8 h10 => ?_
  refine MV.lift1 (i := 13) rfl (fun _ z => z) (V.ia h10 rfl rfl el97) rfl rfl rfl [] (by kernel_rfl) fun x9 h11 => ?_
  refine MV.lift1 (i := 14) rfl (fun _ z => z) (V.fa h11 rfl fo144_1) rfl rfl rfl [] (by kernel_rfl) fun x10 h12 => ?_
  refine MV.lift1 (i := 15) rfl (fun _ z => z) (V.ld hS h12 rfl one9) rfl rfl rfl [] (by kernel_rfl) fun x11 h13 => ?_
  refine MV.force (i := 16) rfl ?_
  refine LV.callQ hS h13 (g106_ok _ _ _ _ _ ) rfl rfl rfl rfl fun x12 h14 => ?_
  refine LV.nextM [] (by kernel_rfl) (fun z => absurd rfl z) ?_
  refine MV.step0 (i := 17) rfl (VAL.pure rfl) rfl rfl rfl ?_
  refine MV.step0 (i := 18) rfl (VAL.assign rfl) rfl rfl rfl ?_
  refine mdn (CV.ret ?_)
  cases h14
  exact PV.ret (by simp) results103 hS (RS.tmp rfl RS.nil) rfl
 subst e
 refine MV.skip0 (i := 4) rfl rfl rfl rfl ?_
 refine MV.skip0 (i := 5) rfl rfl rfl rfl ?_
 refine MV.skip0 (i := 6) rfl rfl rfl rfl ?_
 refine MV.skip0 (i := 7) rfl rfl rfl rfl ?_
 refine MV.skip1 (i := 8) rfl (fun _ z => z) rfl rfl rfl [] (by kernel_rfl) ?_
 refine MV.skip0 (i := 9) rfl rfl rfl rfl ?_
 refine MV.skip0 (i := 10) rfl rfl rfl rfl ?_
 refine MV.skip0 (i := 11) rfl rfl rfl rfl ?_
 refine MV.skip1 (i := 12) rfl (fun _ z => z) rfl rfl rfl [8] (by kernel_rfl) ?_
 refine MV.skip1 (i := 13) rfl (fun _ z => z) rfl rfl rfl [] (by kernel_rfl) ?_
 refine MV.skip1 (i := 14) rfl (fun _ z => z) rfl rfl rfl [] (by kernel_rfl) ?_
 refine MV.skip1 (i := 15) rfl (fun _ z => z) rfl rfl rfl [] (by kernel_rfl) ?_
 refine MV.force (i := 16) rfl ?_
 refine sk ?_
 refine LV.nextM [] (by kernel_rfl) (fun z => absurd rfl z) ?_
 refine MV.step0 (i := 17) rfl (VAL.pure rfl) rfl rfl rfl ?_
 refine MV.step0 (i := 18) rfl (VAL.assign rfl) rfl rfl rfl ?_
 refine mdn (CV.ret ?_)
 cases h4
 exact PV.ret (by simp) results103 hS (RS.tmp rfl RS.nil) rfl
def g148 (ro : List HT) (T : HT) (nx : Nat) : R :=
 bsK 1480003 T nx 14 9 1 [(0, (.lit (.string ⟨⟨[111, 114]⟩⟩))), (1, (.lit (.string ⟨⟨[97, 110, 100]⟩⟩))), (2, (.lit (.string ⟨⟨[61, 61]⟩⟩))), (3, (.lit (.string ⟨⟨[33, 61]⟩⟩))), (4, (.lit (.string ⟨⟨[60]⟩⟩))), (5, (.lit (.string ⟨⟨[60, 61]⟩⟩))), (6, (.lit (.string ⟨⟨[62]⟩⟩))), (7, (.lit (.string ⟨⟨[62, 61]⟩⟩))), (8, (.lit (.string ⟨⟨[105, 110]⟩⟩))), (9, (.lit (.string ⟨⟨[43]⟩⟩))), (10, (.lit (.string ⟨⟨[45]⟩⟩))), (11, (.lit (.string ⟨⟨[42]⟩⟩))), (12, (.lit (.string ⟨⟨[47, 47]⟩⟩))), (13, (.lit (.string ⟨⟨[37]⟩⟩)))] fun x1 T1 n1 =>
 bsK 1480004 T1 n1 14 3 1 [(0, (.lit (.int .i64 (.ofNat 19)))), (1, (.lit (.int .i64 (.ofNat 18)))), (2, (.lit (.int .i64 (.ofNat 26)))), (3, (.lit (.int .i64 (.ofNat 27)))), (4, (.lit (.int .i64 (.ofNat 28)))), (5, (.lit (.int .i64 (.ofNat 29)))), (6, (.lit (.int .i64 (.ofNat 30)))), (7, (.lit (.int .i64 (.ofNat 31)))), (8, (.lit (.int .i64 (.ofNat 32)))), (9, (.lit (.int .i64 (.ofNat 21)))), (10, (.lit (.int .i64 (.ofNat 22)))), (11, (.lit (.int .i64 (.ofNat 23)))), (12, (.lit (.int .i64 (.ofNat 24)))), (13, (.lit (.int .i64 (.ofNat 25))))] fun x2 T2 n2 =>
 .ok (.val (.tup [x1, x2])) T2 n2
theorem g148_ok (ro : List HT) (T : HT) (nx : Nat) : GOk prog envE 148 [] ro T nx (g148 ro T nx) := by
 refine GOk.of_body func148 rfl ntmps148 (by kernel_rfl) rfl fun r T' n' h1 w0 base ρ0 its hS hP => ?_
 have X : CtxW envE ρ0 ro r T' n' := trivial
 unfold g148 at h1
 refine sr ?_
 iterate 2 refine as_ ?_
 refine dn (sr ?_)
 refine LV.bslice hS h1 rfl rfl el89 rfl rfl rfl rfl fun x1 T1 n1 h2 ρ its hS hdr => ?_
 refine LV.bslice hS h2 rfl rfl el22 rfl rfl rfl rfl fun x2 T2 n2 h3 ρ its hS hdr => ?_
 iterate 2 refine as_ ?_
 refine dn (CV.ret ?_)
 cases h3
 exact PV.ret (by simp) results148 hS (RS.tmp rfl (RS.tmp rfl RS.nil)) rfl
def g143 (ro : List HT) (a0 : AV) (T : HT) (nx : Nat) : R :=
 callK (g148 ro T nx) fun x1 T1 n1 =>
 exK 1430004 x1 0 fun x2 =>
 exK 1430005 x1 1 fun x3 =>
 callK (g133 ro x2 a0 T1 n1) fun x4 T2 n2 =>
 iaK 1430012 x3 x4 1 fun x5 =>
 ldK 1430013 T2 ro x5 fun x6 =>
 .ok (.val x6) T2 n2
theorem g143_ok (ro : List HT) (a0 : AV) (T : HT) (nx : Nat) : GOk prog envE 143 [a0] ro T nx (g143 ro a0 T nx) := by
 refine GOk.of_body func143 rfl ntmps143 (by kernel_rfl) rfl fun r T' n' h1 w0 base ρ0 its hS hP => ?_
 have X : CtxW envE ρ0 ro r T' n' := trivial
 unfold g143 at h1
 refine sr ?_
 refine as_ ?_
 refine dn (sr ?_)
 refine LV.call hS h1 (g148_ok _ _ _ ) hP rfl rfl rfl rfl fun x1 T1 n1 h2 ρ its hS => ?_
 refine mv ?_
 refine vy (V.ex h2 rfl) fun x2 h3 => ?_
 refine vy (V.ex h3 rfl) fun x3 h4 => ?_
 iterate 2 refine as_ ?_
 refine dn (sr ?_)
 iterate 3 refine mv ?_
 refine LV.call hS h4 (g133_ok _ _ _ _ _ ) hP rfl rfl rfl rfl fun x4 T2 n2 h5 ρ its hS => ?_
 refine vy (V.ia h5 rfl rfl el22) fun x5 h6 => ?_
 refine vy (V.ld hS h6 rfl one3) fun x6 h7 => ?_
 refine as_ ?_
 refine dn (CV.ret ?_)
 cases h7
 exact PV.ret (by simp) results143 hS (RS.tmp rfl RS.nil) rfl
def g78 (ro : List HT) (a0 a1 : AV) (T : HT) (nx : Nat) : R :=
 bsK 780004 T nx 1 9 1 [(0, a1)] fun x1 T1 n1 =>
 callK (g103 ro a0 x1 T1 n1) fun x2 T2 n2 =>
 notK 780006 x2 fun x3 =>
 condK 780007 x3
 (
  .ok (.val (.lit (.bool false))) T2 n2
 )
 (
  fldK 780010 T2 ro a0 1 fun x4 =>
  addK prog 3 (.tmp 13) (.const (.int .i64 (.ofNat 1))) 780011 x4 (.lit (.int .i64 (.ofNat 1))) fun x5 =>
  faK 780012 a0 1 fun x6 =>
  stK 780013 T2 x6 x5 fun T3 =>
  .ok (.val (.lit (.bool true))) T3 n2
 )
theorem g78_ok (ro : List HT) (a0 a1 : AV) (T : HT) (nx : Nat) : GOk prog envE 78 [a0, a1] ro T nx (g78 ro a0 a1 T nx) := by
 refine GOk.of_body func78 rfl ntmps78 (by kernel_rfl) rfl fun r T' n' h1 w0 base ρ0 its hS hP => ?_
 have X : CtxW envE ρ0 ro r T' n' := trivial
 unfold g78 at h1
 refine sr ?_
 refine as_ ?_
 refine dn (CV.seq (sr ?_))
 iterate 2 refine mv ?_
 refine LV.bslice hS h1 rfl rfl el89 rfl rfl rfl rfl fun x1 T1 n1 h2 ρ its hS hdr => ?_
 refine LV.call hS h2 (g103_ok _ _ _ _ _ ) hP rfl rfl rfl rfl fun x2 T2 n2 h3 ρ its hS => ?_
 refine vy (V.not h3 rfl) fun x3 h4 => ?_
 refine dn ?_
 refine CV.cond h4 rfl (fun e h5 => ?_) (fun e h5 => ?_)
 ·
  subst e
  refine sr ?_
  refine as_ ?_
  refine dn (CV.ret (PV.thenR ?_))
  cases h5
  exact PV.ret (by simp) results78 hS (RS.tmp rfl RS.nil) rfl
 subst e
 refine CV.skip (PV.thenN (sr ?_))
 refine mv ?_
 refine fl hS h5 fo99_1 one3 fun x4 h6 => ?_
 refine vy (V.add h6 rfl rfl) fun x5 h7 => ?_
 refine fa2 h7 fo99_1 fun x6 h8 => ?_
 refine LV.st hS h8 rfl rfl rfl siz3 rfl rfl fun T3 its h9 hS => ?_
 refine dn (sr ?_)
 refine as_ ?_
 refine dn (CV.ret ?_)
 cases h9
 exact PV.ret (by simp) results78 hS (RS.tmp rfl RS.nil) rfl
def g104 (ro : List HT) (a0 a1 : AV) (T : HT) (nx : Nat) : R :=
 callK (g76 ro a0 T nx) fun x1 T1 n1 =>
 callK (g78 ro a0 a1 T1 n1) fun x2 T2 n2 =>
 notK 1040008 x2 fun x3 =>
 condK 1040009 x3
 (
  .bad 1040010
 )
 (
  .ok (.val x1) T2 n2
 )
theorem g104_ok (ro : List HT) (a0 a1 : AV) (T : HT) (nx : Nat) : GOk prog envE 104 [a0, a1] ro T nx (g104 ro a0 a1 T nx) := by
 refine GOk.of_body func104 rfl ntmps104 (by kernel_rfl) rfl fun r T' n' h1 w0 base ρ0 its hS hP => ?_
 have X : CtxW envE ρ0 ro r T' n' := trivial
 unfold g104 at h1
 refine sr ?_
 refine as_ ?_
 refine dn (sr ?_)
 refine mv ?_
 refine LV.call hS h1 (g76_ok _ _ _ _ ) hP rfl rfl rfl rfl fun x1 T1 n1 h2 ρ its hS => ?_
 refine as_ ?_
 refine dn (CV.seq (sr ?_))
 iterate 2 refine mv ?_
 refine LV.call hS h2 (g78_ok _ _ _ _ _ ) hP rfl rfl rfl rfl fun x2 T2 n2 h3 ρ its hS => ?_
 refine vy (V.not h3 rfl) fun x3 h4 => ?_
 refine dn ?_
 refine CV.cond h4 rfl (fun e h5 => ?_) (fun e h5 => ?_)
 ·
  subst e
  cases h5
 subst e
 refine CV.skip (PV.thenN (sr ?_))
 refine mv ?_
 refine as_ ?_
 refine dn (CV.ret ?_)
 cases h5
 exact PV.ret (by simp) results104 hS (RS.tmp rfl RS.nil) rfl
def g105 (ro : List HT) (a0 a1 : AV) (T : HT) (nx : Nat) : R :=
 fldK 1050002 T ro a0 3 fun x1 =>
 geK prog 3 (.tmp 7) (.const (.int .i64 (.ofNat 60))) 1050003 x1 (.lit (.int .i64 (.ofNat 60))) fun x2 =>
 condK 1050004 x2
 (
  .bad 1050005
 )
 (
  fldK 1050007 T ro a0 3 fun x3 =>
  addK prog 3 (.tmp 15) (.const (.int .i64 (.ofNat 1))) 1050008 x3 (.lit (.int .i64 (.ofNat 1))) fun x4 =>
  faK 1050009 a0 3 fun x5 =>
  stK 1050010 T x5 x4 fun T1 =>
  .ok (.val (.tup [])) T1 nx
 )
theorem g105_ok (ro : List HT) (a0 a1 : AV) (T : HT) (nx : Nat) : GOk prog envE 105 [a0, a1] ro T nx (g105 ro a0 a1 T nx) := by
 refine GOk.of_body func105 rfl ntmps105 (by kernel_rfl) rfl fun r T' n' h1 w0 base ρ0 its hS hP => ?_
 have X : CtxW envE ρ0 ro r T' n' := trivial
 unfold g105 at h1
 refine CV.seq (sr ?_)
 refine mv ?_
 refine fl hS h1 fo99_3 one3 fun x1 h2 => ?_
 refine vy (V.ge h2 rfl rfl) fun x2 h3 => ?_
 refine dn ?_
 refine CV.cond h3 rfl (fun e h4 => ?_) (fun e h4 => ?_)
 ·
  subst e
  cases h4
 subst e
 refine CV.skip (PV.thenN (CV.region ?_))
 refine mv ?_
 refine fl hS h4 fo99_3 one3 fun x3 h5 => ?_
 refine vy (V.add h5 rfl rfl) fun x4 h6 => ?_
 refine fa2 h6 fo99_3 fun x5 h7 => ?_
 refine LV.st hS h7 rfl rfl rfl siz3 rfl rfl fun T1 its h8 hS => ?_
 refine LV.done ?_
 cases h8
 exact PV.ret (by simp) results105 hS RS.nil rfl
def g79_k2 (ro : List HT) (y15 : AV) (T3 : HT) (n3 : Nat) : R :=
 .ok (.val y15) T3 n3
def g79_k1 (ro : List HT) (y0 y10 : AV) (T2 : HT) (n2 : Nat) : R :=
 condK 790008 y10
 (
  g79_k2 ro (.lit (.bool true)) T2 n2
 )
 (
  bsK 790011 T2 n2 6 9 1 [(0, (.lit (.string ⟨⟨[41]⟩⟩))), (1, (.lit (.string ⟨⟨[93]⟩⟩))), (2, (.lit (.string ⟨⟨[125]⟩⟩))), (3, (.lit (.string ⟨⟨[61]⟩⟩))), (4, (.lit (.string ⟨⟨[43, 61]⟩⟩))), (5, (.lit (.string ⟨⟨[58]⟩⟩)))] fun x3 T4 n4 =>
  callK (g103 ro y0 x3 T4 n4) fun x4 T5 n5 =>
  g79_k2 ro x4 T5 n5
 )
def g79 (ro : List HT) (a0 : AV) (T : HT) (nx : Nat) : R :=
 callK (g35 ro a0 T nx) fun x1 T1 n1 =>
 eqK prog 3 (.tmp 4) (.const (.int .i64 (.ofNat 5))) 790004 x1 (.lit (.int .i64 (.ofNat 5))) fun x2 =>
 condK 790014 x2
 (
  g79_k1 ro a0 (.lit (.bool true)) T1 n1
 )
 (
  callK (g35 ro a0 T1 n1) fun x5 T6 n6 =>
  eqK prog 3 (.tmp 8) (.const (.int .i64 (.ofNat 8))) 790018 x5 (.lit (.int .i64 (.ofNat 8))) fun x6 =>
  g79_k1 ro a0 x6 T6 n6
 )
theorem g79_ok (ro : List HT) (a0 : AV) (T : HT) (nx : Nat) : GOk prog envE 79 [a0] ro T nx (g79 ro a0 T nx) := by
 refine GOk.of_body func79 rfl ntmps79 (by kernel_rfl) rfl fun r T' n' h1 w0 base ρ0 its hS hP => ?_
 have X : CtxW envE ρ0 ro r T' n' := trivial
 unfold g79 at h1
 refine sr ?_
 refine as_ ?_
 refine dn (sr ?_)
 refine mv ?_
 refine LV.call hS h1 (g35_ok _ _ _ _ ) hP rfl rfl rfl rfl fun x1 T1 n1 h2 ρ its hS => ?_
 refine vy (V.eq h2 rfl rfl) fun x2 h3 => ?_
 refine mv ?_
 refine ls2 X 0 10 [(2, (.lit (.bool false)))] (g79_k1 ro) 4 ?_ ?_
 ·
  rcases condK_inv h3 with ⟨e, h9⟩ | ⟨e, h9⟩
  ·
   subst e
   iterate 3 refine sk ?_
   refine pu ?_
   exact la2 hS h9 ⟨rfl, rfl, rfl, trivial⟩
  subst e
  refine mv ?_
  refine LV.call hS h9 (g35_ok _ _ _ _ ) hP rfl rfl rfl rfl fun x5 T6 n6 h10 ρ its hS => ?_
  refine vy (V.eq h10 rfl rfl) fun x6 h11 => ?_
  refine pu ?_
  exact la2 hS h11 ⟨rfl, rfl, rfl, trivial⟩
 intro y0 y10 T2 n2 ρ its hS h4
 unfold g79_k1 at h4
 refine mv ?_
 refine ls1 X 15 [(2, (.lit (.bool false)))] (g79_k2 ro) 4 ?_ ?_
 ·
  rcases condK_inv h4 with ⟨e, h6⟩ | ⟨e, h6⟩
  ·
   subst e
   iterate 3 refine sk ?_
   refine pu ?_
   exact la1 hS h6 ⟨rfl, rfl, trivial⟩
  subst e
  refine mv ?_
  refine LV.bslice hS h6 rfl rfl el89 rfl rfl rfl rfl fun x3 T4 n4 h7 ρ its hS hdr => ?_
  refine LV.call hS h7 (g103_ok _ _ _ _ _ ) hP rfl rfl rfl rfl fun x4 T5 n5 h8 ρ its hS => ?_
  refine pu ?_
  exact la1 hS h8 ⟨rfl, rfl, trivial⟩
 intro y15 T3 n3 ρ its hS h5
 unfold g79_k2 at h5
 refine as_ ?_
 refine dn (CV.ret ?_)
 cases h5
 exact PV.ret (by simp) results79 hS (RS.tmp rfl RS.nil) rfl
def g36 (ro : List HT) (a0 a1 : AV) (T : HT) (nx : Nat) : R :=
 callK (g35 ro a0 T nx) fun x1 T1 n1 =>
 neK prog 3 (.tmp 8) (.tmp 9) 360006 x1 a1 fun x2 =>
 condK 360007 x2
 (
  .bad 360008
 )
 (
  ncK 360010 a0 fun x3 =>
  faK 360011 x3 0 fun x4 =>
  ldK 360012 T1 ro x4 fun x5 =>
  ncK 360014 a0 fun x6 =>
  faK 360015 x6 1 fun x7 =>
  ldK 360016 T1 ro x7 fun x8 =>
  iaK 360017 x5 x8 3 fun x9 =>
  ldAK 360018 T1 ro x9 3 fun x10 =>
  newK T1 n1 (.obj [.lit (.int .i64 0), .lit (.string ⟨#[]⟩), .lit (.int .i64 0)] 144) fun x11 T2 n2 =>
  stAK 360020 T2 x11 x10 3 fun T3 =>
  neK prog 3 (.tmp 23) (.const (.int .i64 (.ofNat 8))) 360022 a1 (.lit (.int .i64 (.ofNat 8))) fun x12 =>
  condK 360023 x12
  (
   .bad 360024
  )
  (
   faK 360025 x11 1 fun x13 =>
   ldK 360026 T3 ro x13 fun x14 =>
   faK 360027 x11 2 fun x15 =>
   ldK 360028 T3 ro x15 fun x16 =>
   .ok (.val (.tup [x14, x16])) T3 n2
  )
 )
theorem g36_ok (ro : List HT) (a0 a1 : AV) (T : HT) (nx : Nat) : GOk prog envE 36 [a0, a1] ro T nx (g36 ro a0 a1 T nx) := by
 refine GOk.of_body func36 rfl ntmps36 (by kernel_rfl) rfl fun r T' n' h1 w0 base ρ0 its hS hP => ?_
 have X : CtxW envE ρ0 ro r T' n' := trivial
 unfold g36 at h1
 refine sr ?_
 iterate 2 refine as_ ?_
 refine dn (CV.seq (sr ?_))
 refine mv ?_
 refine LV.call hS h1 (g35_ok _ _ _ _ ) hP rfl rfl rfl rfl fun x1 T1 n1 h2 ρ its hS => ?_
 refine mv ?_
 refine vy (V.ne h2 rfl rfl) fun x2 h3 => ?_
 refine dn ?_
 refine CV.cond h3 rfl (fun e h4 => ?_) (fun e h4 => ?_)
 ·
  subst e
  cases h4
 subst e
 refine CV.skip (PV.thenN (CV.seq ?_))
 refine CV.regionM [(0, .anywhere), (1, .anywhere), (2, .anywhere), (3, .held), (4, .anywhere), (5, .anywhere), (6, .anywhere), (7, .held), (8, .held), (9, .held), (10, .alone), (11, .alone)] rfl (fun c a a' w hd hq => PanicOk.root (P := prog) (fn := f36) (w0 := w0) (base := base) (E := envE) (ro := ro) (r := r) (T' := T') (n' := n') (ρ0 := ρ0) c a a' w hd hq) (by kernel_rfl) ?_
 refine MV.step0 (i := 0) rfl (VAL.move rfl) rfl rfl rfl ?_
 refine MV.lift0 (i := 1) rfl (V.nc h4 rfl) rfl rfl rfl fun x3 h5 => ?_
 refine MV.lift0 (i := 2) rfl (V.fa h5 rfl fo99_0) rfl rfl rfl fun x4 h6 => ?_
 refine MV.lift1 (i := 3) rfl (fun _ z => z) (V.ld hS h6 rfl one97) rfl rfl rfl [] (by kernel_rfl) fun x5 h7 => ?_
 refine MV.step0 (i := 4) rfl (VAL.move rfl) rfl rfl rfl ?_
 refine MV.lift0 (i := 5) rfl (V.nc h7 rfl) rfl rfl rfl fun x6 h8 => ?_
 refine MV.lift0 (i := 6) rfl (V.fa h8 rfl fo99_1) rfl rfl rfl fun x7 h9 => ?_
 refine MV.lift1 (i := 7) rfl (fun _ z => z) (V.ld hS h9 rfl one3) rfl rfl rfl [3] (by kernel_rfl) fun x8 h10 => ?_
 refine MV.lift1 (i := 8) rfl (fun _ z => z) (V.ia h10 rfl rfl el97) rfl rfl rfl [] (by kernel_rfl) fun x9 h11 => ?_
 refine MV.lift1 (i := 9) rfl (fun _ z => z) (V.ldA hS h11 rfl agg144) rfl rfl rfl [] (by kernel_rfl) fun x10 h12 => ?_
 refine MV.force (i := 10) rfl ?_
 refine LV.alloc hS h12 rfl zr144 rfl rfl rfl fun x11 T2 n2 h13 ρ its hS hdr => ?_
 refine LV.nextM [9] (by kernel_rfl) (fun _ => hdr) ?_
 refine MV.force (i := 11) rfl ?_
 refine LV.stA hS h13 rfl rfl rfl agg144 rfl rfl rfl fun T3 its h14 hS => ?_
 refine LV.nextM [] (by kernel_rfl) (fun z => absurd rfl z) ?_
 refine mdn (CV.seq (sr ?_))
 refine mv ?_
 refine vy (V.ne h14 rfl rfl) fun x12 h15 => ?_
 refine dn ?_
 refine CV.cond h15 rfl (fun e h16 => ?_) (fun e h16 => ?_)
 ·
  subst e
  cases h16
 subst e
 refine CV.skip (PV.thenN (CV.seq ?_))
 refine CV.regionM [(0, .anywhere), (1, .held), (2, .anywhere), (3, .held), (4, .held), (5, .held)] rfl (fun c a a' w hd hq => PanicOk.root (P := prog) (fn := f36) (w0 := w0) (base := base) (E := envE) (ro := ro) (r := r) (T' := T') (n' := n') (ρ0 := ρ0) c a a' w hd hq) (by kernel_rfl) ?_
 refine MV.lift0 (i := 0) rfl (V.fa h16 rfl fo144_1) rfl rfl rfl fun x13 h17 => ?_
 refine MV.lift1 (i := 1) rfl (fun _ z => z) (V.ld hS h17 rfl one9) rfl rfl rfl [] (by kernel_rfl) fun x14 h18 => ?_
 refine MV.lift0 (i := 2) rfl (V.fa h18 rfl fo144_2) rfl rfl rfl fun x15 h19 => ?_
 refine MV.lift1 (i := 3) rfl (fun _ z => z) (V.ld hS h19 rfl one3) rfl rfl rfl [1] (by kernel_rfl) fun x16 h20 => ?_
 refine MV.step1 (i := 4) rfl (fun _ z => z) (VAL.assign rfl) rfl rfl rfl [3] (by kernel_rfl) ?_
 refine MV.step1 (i := 5) rfl (fun _ z => z) (VAL.assign rfl) rfl rfl rfl [] (by kernel_rfl) ?_
 refine mdn (CV.ret ?_)
 cases h20
 exact PV.ret (by simp) results36 hS (RS.tmp rfl (RS.tmp rfl RS.nil)) rfl
def g118_k1 (ro : List HT) (y8 : AV) (T1 : HT) (n1 : Nat) : R :=
 .ok (.val y8) T1 n1
def g118 (ro : List HT) (a0 : AV) (T : HT) (nx : Nat) : R :=
 geK prog 3 (.tmp 3) (.const (.int .i64 (.ofNat 35))) 1180003 a0 (.lit (.int .i64 (.ofNat 35))) fun x1 =>
 condK 1180006 x1
 (
  leK prog 3 (.tmp 6) (.const (.int .i64 (.ofNat 45))) 1180008 a0 (.lit (.int .i64 (.ofNat 45))) fun x2 =>
  g118_k1 ro x2 T nx
 )
 (
  g118_k1 ro (.lit (.bool false)) T nx
 )
theorem g118_ok (ro : List HT) (a0 : AV) (T : HT) (nx : Nat) : GOk prog envE 118 [a0] ro T nx (g118 ro a0 T nx) := by
 refine GOk.of_body func118 rfl ntmps118 (by kernel_rfl) rfl fun r T' n' h1 w0 base ρ0 its hS hP => ?_
 have X : CtxW envE ρ0 ro r T' n' := trivial
 unfold g118 at h1
 refine sr ?_
 refine as_ ?_
 refine dn (sr ?_)
 refine mv ?_
 refine vy (V.ge h1 rfl rfl) fun x1 h2 => ?_
 refine mv ?_
 refine ls1 X 8 [(2, (.lit (.bool false)))] (g118_k1 ro) 3 ?_ ?_
 ·
  rcases condK_inv h2 with ⟨e, h4⟩ | ⟨e, h4⟩
  ·
   subst e
   refine mv ?_
   refine vy (V.le h4 rfl rfl) fun x2 h5 => ?_
   refine pu ?_
   exact la1 hS h5 ⟨rfl, rfl, trivial⟩
  subst e
  iterate 2 refine sk ?_
  refine pu ?_
  exact la1 hS h4 ⟨rfl, rfl, trivial⟩
 intro y8 T1 n1 ρ its hS h3
 unfold g118_k1 at h3
 refine as_ ?_
 refine dn (CV.ret ?_)
 cases h3
 exact PV.ret (by simp) results118 hS (RS.tmp rfl RS.nil) rfl
def g117 (ro : List HT) (a0 : AV) (T : HT) (nx : Nat) : R :=
 boxK 1170001 T nx a0 105 fun x1 T1 n1 =>
 faK 1170003 x1 0 fun x2 =>
 ldK 1170004 T1 ro x2 fun x3 =>
 callK (g118 ro x3 T1 n1) fun x4 T2 n2 =>
 .ok (.val x4) T2 n2
theorem g117_ok (ro : List HT) (a0 : AV) (T : HT) (nx : Nat) : GOk prog envE 117 [a0] ro T nx (g117 ro a0 T nx) := by
 refine GOk.of_body func117 rfl ntmps117 (by kernel_rfl) rfl fun r T' n' h1 w0 base ρ0 its hS hP => ?_
 have X : CtxW envE ρ0 ro r T' n' := trivial
 unfold g117 at h1
 refine sr ?_
 refine LV.box hS h1 rfl rfl rfl rfl rfl fun x1 T1 n1 h2 ρ its hS hdr => ?_
 refine as_ ?_
 refine dn (sr ?_)
 refine vy (V.fa h2 rfl fo105_0) fun x2 h3 => ?_
 refine vy (V.ld hS h3 rfl one3) fun x3 h4 => ?_
 refine LV.call hS h4 (g118_ok _ _ _ _ ) hP rfl rfl rfl rfl fun x4 T2 n2 h5 ρ its hS => ?_
 refine as_ ?_
 refine dn (CV.ret ?_)
 cases h5
 exact PV.ret (by simp) results117 hS (RS.tmp rfl RS.nil) rfl
def g112_k3 (ro : List HT) (y16 : AV) (T3 : HT) (n3 : Nat) : R :=
 .ok (.val y16) T3 n3
def g112_k2 (ro : List HT) (y0 y12 : AV) (T2 : HT) (n2 : Nat) : R :=
 condK 1120008 y12
 (
  neK prog 3 (.tmp 14) (.const (.int .i64 (.ofNat 15))) 1120010 y0 (.lit (.int .i64 (.ofNat 15))) fun x2 =>
  g112_k3 ro x2 T2 n2
 )
 (
  g112_k3 ro (.lit (.bool false)) T2 n2
 )
def g112_k1 (ro : List HT) (y0 y8 : AV) (T1 : HT) (n1 : Nat) : R :=
 condK 1120013 y8
 (
  neK prog 3 (.tmp 10) (.const (.int .i64 (.ofNat 11))) 1120015 y0 (.lit (.int .i64 (.ofNat 11))) fun x3 =>
  g112_k2 ro y0 x3 T1 n1
 )
 (
  g112_k2 ro y0 (.lit (.bool false)) T1 n1
 )
def g112 (ro : List HT) (a0 : AV) (T : HT) (nx : Nat) : R :=
 geK prog 3 (.tmp 3) (.const (.int .i64 (.ofNat 1))) 1120003 a0 (.lit (.int .i64 (.ofNat 1))) fun x1 =>
 condK 1120018 x1
 (
  leK prog 3 (.tmp 6) (.const (.int .i64 (.ofNat 34))) 1120020 a0 (.lit (.int .i64 (.ofNat 34))) fun x4 =>
  g112_k1 ro a0 x4 T nx
 )
 (
  g112_k1 ro a0 (.lit (.bool false)) T nx
 )
theorem g112_ok (ro : List HT) (a0 : AV) (T : HT) (nx : Nat) : GOk prog envE 112 [a0] ro T nx (g112 ro a0 T nx) := by
 refine GOk.of_body func112 rfl ntmps112 (by kernel_rfl) rfl fun r T' n' h1 w0 base ρ0 its hS hP => ?_
 have X : CtxW envE ρ0 ro r T' n' := trivial
 unfold g112 at h1
 refine sr ?_
 refine as_ ?_
 refine dn (sr ?_)
 refine mv ?_
 refine vy (V.ge h1 rfl rfl) fun x1 h2 => ?_
 refine mv ?_
 refine ls2 X 0 8 [(2, (.lit (.bool false)))] (g112_k1 ro) 3 ?_ ?_
 ·
  rcases condK_inv h2 with ⟨e, h10⟩ | ⟨e, h10⟩
  ·
   subst e
   refine mv ?_
   refine vy (V.le h10 rfl rfl) fun x4 h11 => ?_
   refine pu ?_
   exact la2 hS h11 ⟨rfl, rfl, rfl, trivial⟩
  subst e
  iterate 2 refine sk ?_
  refine pu ?_
  exact la2 hS h10 ⟨rfl, rfl, rfl, trivial⟩
 intro y0 y8 T1 n1 ρ its hS h3
 unfold g112_k1 at h3
 refine mv ?_
 refine ls2 X 0 12 [(2, (.lit (.bool false)))] (g112_k2 ro) 3 ?_ ?_
 ·
  rcases condK_inv h3 with ⟨e, h8⟩ | ⟨e, h8⟩
  ·
   subst e
   refine mv ?_
   refine vy (V.ne h8 rfl rfl) fun x3 h9 => ?_
   refine pu ?_
   exact la2 hS h9 ⟨rfl, rfl, rfl, trivial⟩
  subst e
  iterate 2 refine sk ?_
  refine pu ?_
  exact la2 hS h8 ⟨rfl, rfl, rfl, trivial⟩
 intro y0 y12 T2 n2 ρ its hS h4
 unfold g112_k2 at h4
 refine mv ?_
 refine ls1 X 16 [(2, (.lit (.bool false)))] (g112_k3 ro) 3 ?_ ?_
 ·
  rcases condK_inv h4 with ⟨e, h6⟩ | ⟨e, h6⟩
  ·
   subst e
   refine mv ?_
   refine vy (V.ne h6 rfl rfl) fun x2 h7 => ?_
   refine pu ?_
   exact la1 hS h7 ⟨rfl, rfl, trivial⟩
  subst e
  iterate 2 refine sk ?_
  refine pu ?_
  exact la1 hS h6 ⟨rfl, rfl, trivial⟩
 intro y16 T3 n3 ρ its hS h5
 unfold g112_k3 at h5
 refine as_ ?_
 refine dn (CV.ret ?_)
 cases h5
 exact PV.ret (by simp) results112 hS (RS.tmp rfl RS.nil) rfl
def g134 (ro : List HT) (a0 : AV) (T : HT) (nx : Nat) : R :=
 boxK 1340001 T nx a0 105 fun x1 T1 n1 =>
 faK 1340003 x1 0 fun x2 =>
 ldK 1340004 T1 ro x2 fun x3 =>
 callK (g112 ro x3 T1 n1) fun x4 T2 n2 =>
 .ok (.val x4) T2 n2
theorem g134_ok (ro : List HT) (a0 : AV) (T : HT) (nx : Nat) : GOk prog envE 134 [a0] ro T nx (g134 ro a0 T nx) := by
 refine GOk.of_body func134 rfl ntmps134 (by kernel_rfl) rfl fun r T' n' h1 w0 base ρ0 its hS hP => ?_
 have X : CtxW envE ρ0 ro r T' n' := trivial
 unfold g134 at h1
 refine sr ?_
 refine LV.box hS h1 rfl rfl rfl rfl rfl fun x1 T1 n1 h2 ρ its hS hdr => ?_
 refine as_ ?_
 refine dn (sr ?_)
 refine vy (V.fa h2 rfl fo105_0) fun x2 h3 => ?_
 refine vy (V.ld hS h3 rfl one3) fun x3 h4 => ?_
 refine LV.call hS h4 (g112_ok _ _ _ _ ) hP rfl rfl rfl rfl fun x4 T2 n2 h5 ρ its hS => ?_
 refine as_ ?_
 refine dn (CV.ret ?_)
 cases h5
 exact PV.ret (by simp) results134 hS (RS.tmp rfl RS.nil) rfl
def g81 (ro : List HT) (a0 a1 : AV) (T : HT) (nx : Nat) : R :=
 optK 810003 (bld152 [(0, a0), (1, a1)]) fun x1 =>
 boxK 810004 T nx x1 152 fun x2 T1 n1 =>
 optK 810005 (bld139 [(0, x2)]) fun x3 =>
 panK 810007 (.iface 139 x3) T1 n1
theorem g81_ok (ro : List HT) (a0 a1 : AV) (T : HT) (nx : Nat) : GOk prog envE 81 [a0, a1] ro T nx (g81 ro a0 a1 T nx) := by
 refine GOk.of_body func81 rfl ntmps81 (by kernel_rfl) rfl fun r T' n' h1 w0 base ρ0 its hS hP => ?_
 have X : CtxW envE ρ0 ro r T' n' := trivial
 unfold g81 at h1
 refine CV.region ?_
 iterate 2 refine mv ?_
 refine vy (V.bld h1 rfl) fun x1 h2 => ?_
 refine LV.box hS h2 rfl rfl rfl rfl rfl fun x2 T1 n1 h3 ρ its hS hdr => ?_
 refine vy (V.bld h3 rfl) fun x3 h4 => ?_
 refine sv (VAL.mkI rfl ni139) ?_
 exact LV.panic hS h4 hP rfl rfl rfl
def g56 (ro : List HT) (a0 : AV) (T : HT) (nx : Nat) : R :=
 callK (g76 ro a0 T nx) fun x1 T1 n1 =>
 keepK 560004 T T1 [] <|
 callK (g81 ro x1 (.iface 241 (.opq 1)) T1 n1) fun x2 T2 n2 =>
 .ok (.val (.tup [])) T2 n2
theorem g56_ok (ro : List HT) (a0 : AV) (T : HT) (nx : Nat) : GOk prog envE 56 [a0] ro T nx (g56 ro a0 T nx) := by
 refine GOk.of_body func56 rfl ntmps56 (by kernel_rfl) rfl fun r T' n' h1 w0 base ρ0 its hS hP => ?_
 have X : CtxW envE ρ0 ro r T' n' := trivial
 unfold g56 at h1
 refine CV.regionMS hS [] [(0, .anywhere), (2, .held), (1, .alone), (3, .alone)] rfl (fun c a a' w hd hq => PanicOk.root (P := prog) (fn := f56) (w0 := w0) (base := base) (E := envE) (ro := ro) (r := r) (T' := T') (n' := n') (ρ0 := ρ0) c a a' w hd hq) (by kernel_rfl) ?_
 have hK := KeepS.start [] hS
 have hR := hS
 have hP0 := hP
 replace hP := PK.up hR hP
 replace hS := hR.root
 refine MV.step0 (i := 0) rfl (VAL.move rfl) rfl rfl rfl ?_
 refine MV.step1 (i := 2) rfl hK (VAL.ldGQ hS (by rfl) one28) rfl rfl rfl [] (by kernel_rfl) ?_
 refine MV.force (i := 1) rfl ?_
 refine LV.call hS h1 (g76_ok _ _ _ _ ) hP rfl rfl rfl rfl fun x1 T1 n1 h2 ρ its hS => ?_
 obtain ⟨hK, h3⟩ := KeepS.step hR hS h2
 refine LV.nextM [2] (by kernel_rfl) (fun _ => hK) ?_
 refine MV.force (i := 3) rfl ?_
 refine LV.call hS h3 (g81_ok _ _ _ _ _ ) hP rfl rfl rfl rfl fun x2 T2 n2 h4 ρ its hS => ?_
 refine LV.nextM [] (by kernel_rfl) (fun z => absurd rfl z) ?_
 replace hS := hR.up hS
 replace hP := hP0
 refine MV.done ?_
 cases h4
 exact PV.ret (by simp) results56 hS RS.nil rfl
def g33_k1 (ih : FuncId → List HT → List AV → HT → Nat → R) (ro : List HT) (y0 : AV) (T2 : HT) (n2 : Nat) : R :=
 callK (g36 ro y0 (.lit (.int .i64 (.ofNat 8))) T2 n2) fun x2 T3 n3 =>
 .ok (.val (.tup [])) T3 n3
def g33 (ih : FuncId → List HT → List AV → HT → Nat → R) (ro : List HT) (a0 : AV) (T : HT) (nx : Nat) : R :=
 callK (ih 34 ro [a0] T nx) fun x1 T1 n1 =>
 callK (g35 ro a0 T1 n1) fun x3 T4 n4 =>
 eqK prog 3 (.tmp 5) (.const (.int .i64 (.ofNat 5))) 330007 x3 (.lit (.int .i64 (.ofNat 5))) fun x4 =>
 condK 330008 x4
 (
  fldK 330010 T4 ro a0 1 fun x5 =>
  addK prog 3 (.tmp 10) (.const (.int .i64 (.ofNat 1))) 330011 x5 (.lit (.int .i64 (.ofNat 1))) fun x6 =>
  faK 330012 a0 1 fun x7 =>
  stK 330013 T4 x7 x6 fun T5 =>
  g33_k1 ih ro a0 T5 n4
 )
 (
  g33_k1 ih ro a0 T4 n4
 )
theorem g33_ok (ih : FuncId → List HT → List AV → HT → Nat → R) (hI : ∀ f ro args T nx, GOk prog envE f args ro T nx (ih f ro args T nx)) (ro : List HT) (a0 : AV) (T : HT) (nx : Nat) : GOk prog envE 33 [a0] ro T nx (g33 ih ro a0 T nx) := by
 refine GOk.of_body func33 rfl ntmps33 (by kernel_rfl) rfl fun r T' n' h1 w0 base ρ0 its hS hP => ?_
 have X : CtxW envE ρ0 ro r T' n' := trivial
 unfold g33 at h1
 refine sr ?_
 refine mv ?_
 refine LV.call hS h1 (hI _ _ _ _ _) hP rfl rfl rfl rfl fun x1 T1 n1 h2 ρ its hS => ?_
 refine dn ?_
 refine cs1 X 0 [] (g33_k1 ih ro) ?_ ?_
 ·
  refine sr ?_
  refine mv ?_
  refine LV.call hS h2 (g35_ok _ _ _ _ ) hP rfl rfl rfl rfl fun x3 T4 n4 h5 ρ its hS => ?_
  refine vy (V.eq h5 rfl rfl) fun x4 h6 => ?_
  refine dn ?_
  refine CV.cond h6 rfl (fun e h7 => ?_) (fun e h7 => ?_)
  ·
   subst e
   refine CV.region ?_
   refine mv ?_
   refine fl hS h7 fo99_1 one3 fun x5 h8 => ?_
   refine vy (V.add h8 rfl rfl) fun x6 h9 => ?_
   refine fa2 h9 fo99_1 fun x7 h10 => ?_
   refine LV.st hS h10 rfl rfl rfl siz3 rfl rfl fun T5 its h11 hS => ?_
   refine LV.done ?_
   exact pa1 hS h11 ⟨rfl, trivial⟩
  subst e
  refine CV.skip ?_
  exact pa1 hS h7 ⟨rfl, trivial⟩
 intro y0 T2 n2 ρ its hS h3
 unfold g33_k1 at h3
 refine CV.region ?_
 refine mv ?_
 refine LV.call hS h3 (g36_ok _ _ _ _ _ ) hP rfl rfl rfl rfl fun x2 T3 n3 h4 ρ its hS => ?_
 refine LV.done ?_
 cases h4
 exact PV.ret (by simp) results33 hS RS.nil rfl
def g34 (ih : FuncId → List HT → List AV → HT → Nat → R) (ro : List HT) (a0 : AV) (T : HT) (nx : Nat) : R :=
 callK (ih 55 ro [a0] T nx) fun x1 T1 n1 =>
 exK 340005 x1 0 fun x2 =>
 exK 340006 x1 1 fun x3 =>
 .ok (.val x2) T1 n1
theorem g34_ok (ih : FuncId → List HT → List AV → HT → Nat → R) (hI : ∀ f ro args T nx, GOk prog envE f args ro T nx (ih f ro args T nx)) (ro : List HT) (a0 : AV) (T : HT) (nx : Nat) : GOk prog envE 34 [a0] ro T nx (g34 ih ro a0 T nx) := by
 refine GOk.of_body func34 rfl ntmps34 (by kernel_rfl) rfl fun r T' n' h1 w0 base ρ0 its hS hP => ?_
 have X : CtxW envE ρ0 ro r T' n' := trivial
 unfold g34 at h1
 refine sr ?_
 refine as_ ?_
 refine dn (sr ?_)
 refine mv ?_
 refine LV.call hS h1 (hI _ _ _ _ _) hP rfl rfl rfl rfl fun x1 T1 n1 h2 ρ its hS => ?_
 refine mv ?_
 refine vy (V.ex h2 rfl) fun x2 h3 => ?_
 refine vy (V.ex h3 rfl) fun x3 h4 => ?_
 iterate 2 refine as_ ?_
 refine dn (sr ?_)
 refine mv ?_
 refine as_ ?_
 refine dn (CV.ret ?_)
 cases h4
 exact PV.ret (by simp) results34 hS (RS.tmp rfl RS.nil) rfl
def g55_k1 (ih : FuncId → List HT → List AV → HT → Nat → R) (ro : List HT) (y0 y2 y3 y4 y5 y6 : AV) (T4 : HT) (n4 : Nat) : R :=
 notK 550012 y6 fun x4 =>
 condK 550013 x4
 (
  iaK 550015 y5 (.lit (.int .i64 (.ofNat 0))) 1 fun x5 =>
  ldK 550016 T4 ro x5 fun x6 =>
  .ok (.val (.tup [x6, (.lit (.bool false))])) T4 n4
 )
 (
  callK (g80 ro y0 (.lit (.int .i64 (.ofNat 8))) y4 (.lit (.string ⟨⟨[]⟩⟩)) y5 T4 n4) fun x7 T5 n5 =>
  .ok (.val (.tup [x7, (.lit (.bool true))])) T5 n5
 )
def g55_b2 (ih : FuncId → List HT → List AV → HT → Nat → R) (ro : List HT) (lp2 : AV → AV → AV → AV → AV → AV → HT → Nat → R) (y0 y2 y3 y4 y5 y6 : AV) (T6 : HT) (n6 : Nat) : R :=
 callK (g78 ro y0 (.lit (.string ⟨⟨[44]⟩⟩)) T6 n6) fun x8 T7 n7 =>
 condK 550028 x8
 (
  callK (g79 ro y0 T7 n7) fun x9 T8 n8 =>
  condK 550032 x9
  (
   g55_k1 ih ro y0 y2 y3 y4 y5 (.lit (.bool true)) T8 n8
  )
  (
   callK (ih 77 ro [y0] T8 n8) fun x10 T9 n9 =>
   bsK 550036 T9 n9 1 3 1 [(0, x10)] fun x11 T10 n10 =>
   shrK 550038 T10 y5 fun T11 =>
   appEK 550037 T11 ro n10 3 1 8 y5 x11 fun x12 T12 n12 =>
   lp2 y0 y2 y3 y4 x12 (.lit (.bool true)) T12 n12
  )
 )
 (
  g55_k1 ih ro y0 y2 y3 y4 y5 y6 T7 n7
 )
def g55 (ih : FuncId → List HT → List AV → HT → Nat → R) (ro : List HT) (a0 : AV) (T : HT) (nx : Nat) : R :=
 callK (g76 ro a0 T nx) fun x1 T1 n1 =>
 callK (ih 77 ro [a0] T1 n1) fun x2 T2 n2 =>
 bsK 550008 T2 n2 1 3 1 [(0, x2)] fun x3 T3 n3 =>
 lpf6 550025 (g55_b2 ih ro) 100000 a0 (.lit (.int .i64 (.ofNat 0))) (.lit (.bool false)) x1 x3 (.lit (.bool false)) T3 n3
theorem g55_ok (ih : FuncId → List HT → List AV → HT → Nat → R) (hI : ∀ f ro args T nx, GOk prog envE f args ro T nx (ih f ro args T nx)) (ro : List HT) (a0 : AV) (T : HT) (nx : Nat) : GOk prog envE 55 [a0] ro T nx (g55 ih ro a0 T nx) := by
 refine GOk.of_body func55 rfl ntmps55 (by kernel_rfl) rfl fun r T' n' h1 w0 base ρ0 its hS hP => ?_
 have X : CtxW envE ρ0 ro r T' n' := trivial
 unfold g55 at h1
 refine sr ?_
 iterate 2 refine as_ ?_
 refine dn (sr ?_)
 refine mv ?_
 refine LV.call hS h1 (g76_ok _ _ _ _ ) hP rfl rfl rfl rfl fun x1 T1 n1 h2 ρ its hS => ?_
 refine as_ ?_
 refine dn (sr ?_)
 refine mv ?_
 refine LV.call hS h2 (hI _ _ _ _ _) hP rfl rfl rfl rfl fun x2 T2 n2 h3 ρ its hS => ?_
 refine LV.bslice hS h3 rfl rfl el22 rfl rfl rfl rfl fun x3 T3 n3 h4 ρ its hS hdr => ?_
 refine as_ ?_
 refine dn (sr ?_)
 refine as_ ?_
 refine dn ?_
 refine cs6 X 0 2 3 4 5 6 [] (g55_k1 ih ro) ?_ ?_
 ·
  refine CV.block ?_
  refine cl6 X 0 2 3 4 5 6 [] hS h4 ⟨rfl, rfl, rfl, rfl, rfl, rfl, trivial⟩ ?_
  intro f2 y0 y2 y3 y4 y5 y6 T6 n6 ρ its hS h11
  unfold g55_b2 at h11
  refine CV.seq (sr ?_)
  refine mv ?_
  refine LV.call hS h11 (g78_ok _ _ _ _ _ ) hP rfl rfl rfl rfl fun x8 T7 n7 h12 ρ its hS => ?_
  refine dn ?_
  refine CV.cond h12 rfl (fun e h13 => ?_) (fun e h13 => ?_)
  ·
   subst e
   refine CV.skip (PV.thenN (CV.block (sr ?_)))
   refine as_ ?_
   refine dn (CV.seq (sr ?_))
   refine mv ?_
   refine LV.call hS h13 (g79_ok _ _ _ _ ) hP rfl rfl rfl rfl fun x9 T8 n8 h14 ρ its hS => ?_
   refine dn ?_
   refine CV.cond h14 rfl (fun e h15 => ?_) (fun e h15 => ?_)
   ·
    subst e
    refine CV.exit (PV.thenE ?_)
    refine PV.blockO rfl ?_
    refine PV.thenE (PV.blockE ?_)
    exact pa6 hS h15 ⟨rfl, rfl, rfl, rfl, rfl, rfl, trivial⟩
   subst e
   refine CV.skip (PV.thenN (CV.region ?_))
   iterate 2 refine mv ?_
   refine LV.call hS h15 (hI _ _ _ _ _) hP rfl rfl rfl rfl fun x10 T9 n9 h16 ρ its hS => ?_
   refine LV.bslice hS h16 rfl rfl el22 rfl rfl rfl rfl fun x11 T10 n10 h17 ρ its hS hdr => ?_
   obtain ⟨T11, its1, h18, hS, hW⟩ := shrK_inv hS h17
   refine LV.world hW ?_
   refine LV.appE hS h18 rfl rfl rfl rfl el22 rfl rfl rfl fun x12 T12 n12 h19 ρ its hS => ?_
   refine as_ ?_
   refine LV.done (PV.blockN ?_)
   exact pb6 hS h19 ⟨rfl, rfl, rfl, rfl, rfl, rfl, trivial⟩
  subst e
  refine CV.exit (PV.thenE (PV.thenE (PV.blockE ?_)))
  exact pa6 hS h13 ⟨rfl, rfl, rfl, rfl, rfl, rfl, trivial⟩
 intro y0 y2 y3 y4 y5 y6 T4 n4 ρ its hS h5
 unfold g55_k1 at h5
 refine CV.seq (sr ?_)
 refine mv ?_
 refine vy (V.not h5 rfl) fun x4 h6 => ?_
 refine dn ?_
 refine CV.cond h6 rfl (fun e h7 => ?_) (fun e h7 => ?_)
 ·
  subst e
  refine sr ?_
  refine mv ?_
  refine vy (V.ia h7 rfl rfl el22) fun x5 h8 => ?_
  refine vy (V.ld hS h8 rfl one3) fun x6 h9 => ?_
  iterate 2 refine as_ ?_
  refine dn (CV.ret (PV.thenR ?_))
  cases h9
  exact PV.ret (by simp) results55 hS (RS.tmp rfl (RS.tmp rfl RS.nil)) rfl
 subst e
 refine CV.skip (PV.thenN (sr ?_))
 iterate 3 refine mv ?_
 refine LV.call hS h7 (g80_ok _ _ _ _ _ _ _ _ ) hP rfl rfl rfl rfl fun x7 T5 n5 h10 ρ its hS => ?_
 iterate 2 refine as_ ?_
 refine dn (CV.ret ?_)
 cases h10
 exact PV.ret (by simp) results55 hS (RS.tmp rfl (RS.tmp rfl RS.nil)) rfl
def g77 (ih : FuncId → List HT → List AV → HT → Nat → R) (ro : List HT) (a0 : AV) (T : HT) (nx : Nat) : R :=
 callK (ih 102 ro [a0] T nx) fun x1 T1 n1 =>
 bsK 770006 T1 n1 1 9 1 [(0, (.lit (.string ⟨⟨[105, 102]⟩⟩)))] fun x2 T2 n2 =>
 callK (g103 ro a0 x2 T2 n2) fun x3 T3 n3 =>
 notK 770008 x3 fun x4 =>
 condK 770009 x4
 (
  .ok (.val x1) T3 n3
 )
 (
  callK (g104 ro a0 (.lit (.string ⟨⟨[105, 102]⟩⟩)) T3 n3) fun x5 T4 n4 =>
  callK (g105 ro a0 x5 T4 n4) fun x6 T5 n5 =>
  callK (ih 102 ro [a0] T5 n5) fun x7 T6 n6 =>
  callK (g104 ro a0 (.lit (.string ⟨⟨[101, 108, 115, 101]⟩⟩)) T6 n6) fun x8 T7 n7 =>
  callK (ih 77 ro [a0] T7 n7) fun x9 T8 n8 =>
  fldK 770027 T8 ro a0 3 fun x10 =>
  subK prog 3 (.tmp 28) (.const (.int .i64 (.ofNat 1))) 770028 x10 (.lit (.int .i64 (.ofNat 1))) fun x11 =>
  faK 770029 a0 3 fun x12 =>
  stK 770030 T8 x12 x11 fun T9 =>
  bsK 770036 T9 n8 3 3 1 [(0, x7), (1, x1), (2, x9)] fun x13 T10 n10 =>
  callK (g80 ro a0 (.lit (.int .i64 (.ofNat 20))) x5 (.lit (.string ⟨⟨[]⟩⟩)) x13 T10 n10) fun x14 T11 n11 =>
  .ok (.val x14) T11 n11
 )
theorem g77_ok (ih : FuncId → List HT → List AV → HT → Nat → R) (hI : ∀ f ro args T nx, GOk prog envE f args ro T nx (ih f ro args T nx)) (ro : List HT) (a0 : AV) (T : HT) (nx : Nat) : GOk prog envE 77 [a0] ro T nx (g77 ih ro a0 T nx) := by
 refine GOk.of_body func77 rfl ntmps77 (by kernel_rfl) rfl fun r T' n' h1 w0 base ρ0 its hS hP => ?_
 have X : CtxW envE ρ0 ro r T' n' := trivial
 unfold g77 at h1
 refine sr ?_
 refine as_ ?_
 refine dn (sr ?_)
 refine mv ?_
 refine LV.call hS h1 (hI _ _ _ _ _) hP rfl rfl rfl rfl fun x1 T1 n1 h2 ρ its hS => ?_
 refine as_ ?_
 refine dn (CV.seq (sr ?_))
 refine mv ?_
 refine LV.bslice hS h2 rfl rfl el89 rfl rfl rfl rfl fun x2 T2 n2 h3 ρ its hS hdr => ?_
 refine LV.call hS h3 (g103_ok _ _ _ _ _ ) hP rfl rfl rfl rfl fun x3 T3 n3 h4 ρ its hS => ?_
 refine vy (V.not h4 rfl) fun x4 h5 => ?_
 refine dn ?_
 refine CV.cond h5 rfl (fun e h6 => ?_) (fun e h6 => ?_)
 ·
  subst e
  refine sr ?_
  refine mv ?_
  refine as_ ?_
  refine dn (CV.ret (PV.thenR ?_))
  cases h6
  exact PV.ret (by simp) results77 hS (RS.tmp rfl RS.nil) rfl
 subst e
 refine CV.skip (PV.thenN (sr ?_))
 refine mv ?_
 refine LV.call hS h6 (g104_ok _ _ _ _ _ ) hP rfl rfl rfl rfl fun x5 T4 n4 h7 ρ its hS => ?_
 refine as_ ?_
 refine dn (sr ?_)
 iterate 2 refine mv ?_
 refine LV.call hS h7 (g105_ok _ _ _ _ _ ) hP rfl rfl rfl rfl fun x6 T5 n5 h8 ρ its hS => ?_
 refine dn (sr ?_)
 refine mv ?_
 refine LV.call hS h8 (hI _ _ _ _ _) hP rfl rfl rfl rfl fun x7 T6 n6 h9 ρ its hS => ?_
 refine as_ ?_
 refine dn (sr ?_)
 refine mv ?_
 refine LV.call hS h9 (g104_ok _ _ _ _ _ ) hP rfl rfl rfl rfl fun x8 T7 n7 h10 ρ its hS => ?_
 refine dn (sr ?_)
 refine mv ?_
 refine LV.call hS h10 (hI _ _ _ _ _) hP rfl rfl rfl rfl fun x9 T8 n8 h11 ρ its hS => ?_
 refine as_ ?_
 refine dn (sr ?_)
 refine mv ?_
 refine fl hS h11 fo99_3 one3 fun x10 h12 => ?_
 refine vy (V.sub h12 rfl rfl) fun x11 h13 => ?_
 refine fa2 h13 fo99_3 fun x12 h14 => ?_
 refine LV.st hS h14 rfl rfl rfl siz3 rfl rfl fun T9 its h15 hS => ?_
 refine dn (sr ?_)
 iterate 5 refine mv ?_
 refine LV.bslice hS h15 rfl rfl el22 rfl rfl rfl rfl fun x13 T10 n10 h16 ρ its hS hdr => ?_
 refine LV.call hS h16 (g80_ok _ _ _ _ _ _ _ _ ) hP rfl rfl rfl rfl fun x14 T11 n11 h17 ρ its hS => ?_
 refine as_ ?_
 refine dn (CV.ret ?_)
 cases h17
 exact PV.ret (by simp) results77 hS (RS.tmp rfl RS.nil) rfl
def g102 (ih : FuncId → List HT → List AV → HT → Nat → R) (ro : List HT) (a0 : AV) (T : HT) (nx : Nat) : R :=
 bsK 1020005 T nx 1 9 1 [(0, (.lit (.string ⟨⟨[111, 114]⟩⟩)))] fun x1 T1 n1 =>
 callK (ih 131 ro [a0, (.fn (.func 132) [a0] []), x1] T1 n1) fun x2 T2 n2 =>
 .ok (.val x2) T2 n2
theorem g102_ok (ih : FuncId → List HT → List AV → HT → Nat → R) (hI : ∀ f ro args T nx, GOk prog envE f args ro T nx (ih f ro args T nx)) (ro : List HT) (a0 : AV) (T : HT) (nx : Nat) : GOk prog envE 102 [a0] ro T nx (g102 ih ro a0 T nx) := by
 refine GOk.of_body func102 rfl ntmps102 (by kernel_rfl) rfl fun r T' n' h1 w0 base ρ0 its hS hP => ?_
 have X : CtxW envE ρ0 ro r T' n' := trivial
 unfold g102 at h1
 refine sr ?_
 refine as_ ?_
 refine dn (sr ?_)
 iterate 2 refine mv ?_
 refine pu ?_
 refine LV.bslice hS h1 rfl rfl el89 rfl rfl rfl rfl fun x1 T1 n1 h2 ρ its hS hdr => ?_
 refine LV.call hS h2 (hI _ _ _ _ _) hP rfl rfl rfl rfl fun x2 T2 n2 h3 ρ its hS => ?_
 refine as_ ?_
 refine dn (CV.ret ?_)
 cases h3
 exact PV.ret (by simp) results102 hS (RS.tmp rfl RS.nil) rfl
def g131_b1 (ih : FuncId → List HT → List AV → HT → Nat → R) (ro : List HT) (lp1 : AV → AV → AV → AV → AV → HT → Nat → R) (y0 y1 y2 y6 y7 : AV) (T2 : HT) (n2 : Nat) : R :=
 callK (g103 ro y0 y2 T2 n2) fun x2 T3 n3 =>
 condK 1310009 x2
 (
  ncK 1310011 y0 fun x3 =>
  faK 1310012 x3 0 fun x4 =>
  ldK 1310013 T3 ro x4 fun x5 =>
  ncK 1310015 y0 fun x6 =>
  faK 1310016 x6 1 fun x7 =>
  ldK 1310017 T3 ro x7 fun x8 =>
  iaK 1310018 x5 x8 3 fun x9 =>
  ldAK 1310019 T3 ro x9 3 fun x10 =>
  newK T3 n3 (.obj [.lit (.int .i64 0), .lit (.string ⟨#[]⟩), .lit (.int .i64 0)] 144) fun x11 T4 n4 =>
  stAK 1310021 T4 x11 x10 3 fun T5 =>
  fldK 1310023 T5 ro y0 1 fun x12 =>
  addK prog 3 (.tmp 27) (.const (.int .i64 (.ofNat 1))) 1310024 x12 (.lit (.int .i64 (.ofNat 1))) fun x13 =>
  faK 1310025 y0 1 fun x14 =>
  stK 1310026 T5 x14 x13 fun T6 =>
  faK 1310028 x11 1 fun x15 =>
  ldQK 1310029 T6 ro [(x11, 1, 1), (x11, 2, 1)] x15 fun x16 =>
  faK 1310030 x11 2 fun x17 =>
  ldQK 1310031 T6 ro [(x11, 1, 1), (x11, 2, 1)] x17 fun x18 =>
  callK (g143 ro x16 T6 n4) fun x19 T7 n7 =>
  keepK 1310035 T6 T7 [(x11, 1, 1), (x11, 2, 1)] <|
  dynK 1310036 y1 fun f p q => callK (ih f ro (p ++ ([] ++ q)) T7 n7) fun x20 T8 n8 =>
  keepK 1310037 T6 T8 [(x11, 1, 1), (x11, 2, 1)] <|
  bsK 1310038 T8 n8 2 3 1 [(0, y7), (1, x20)] fun x21 T9 n9 =>
  keepK 1310039 T6 T9 [(x11, 1, 1), (x11, 2, 1)] <|
  callK (g80 ro y0 x19 x18 (.lit (.string ⟨⟨[]⟩⟩)) x21 T9 n9) fun x22 T10 n10 =>
  lp1 y0 y1 y2 y6 x22 T10 n10
 )
 (
  .ok (.val y7) T3 n3
 )
def g131 (ih : FuncId → List HT → List AV → HT → Nat → R) (ro : List HT) (a0 a1 a2 : AV) (T : HT) (nx : Nat) : R :=
 dynK 1310003 a1 fun f p q => callK (ih f ro (p ++ ([] ++ q)) T nx) fun x1 T1 n1 =>
 lpf5 1310005 (g131_b1 ih ro) 100000 a0 a1 a2 (.lit (.int .i64 (.ofNat 0))) x1 T1 n1
theorem g131_ok (ih : FuncId → List HT → List AV → HT → Nat → R) (hI : ∀ f ro args T nx, GOk prog envE f args ro T nx (ih f ro args T nx)) (ro : List HT) (a0 a1 a2 : AV) (T : HT) (nx : Nat) : GOk prog envE 131 [a0, a1, a2] ro T nx (g131 ih ro a0 a1 a2 T nx) := by
 refine GOk.of_body func131 rfl ntmps131 (by kernel_rfl) rfl fun r T' n' h1 w0 base ρ0 its hS hP => ?_
 have X : CtxW envE ρ0 ro r T' n' := trivial
 unfold g131 at h1
 refine sr ?_
 refine as_ ?_
 refine dn (sr ?_)
 refine mv ?_
 refine LV.callD (G := fun f gs => ih f ro gs T nx) (qs := []) hS h1 (fun f gs => hI _ _ _ _ _) hP rfl rfl rfl rfl rfl rfl rfl fun x1 T1 n1 h2 ρ its hS => ?_
 refine as_ ?_
 refine dn (CV.seq (CV.block ?_))
 refine cl5 X 0 1 2 6 7 [] hS h2 ⟨rfl, rfl, rfl, rfl, rfl, trivial⟩ ?_
 intro f1 y0 y1 y2 y6 y7 T2 n2 ρ its hS h3
 unfold g131_b1 at h3
 refine CV.seq (sr ?_)
 iterate 2 refine mv ?_
 refine LV.call hS h3 (g103_ok _ _ _ _ _ ) hP rfl rfl rfl rfl fun x2 T3 n3 h4 ρ its hS => ?_
 refine dn ?_
 refine CV.cond h4 rfl (fun e h5 => ?_) (fun e h5 => ?_)
 ·
  subst e
  refine CV.skip (PV.thenN (CV.block (CV.seq ?_)))
  refine CV.regionM [(0, .anywhere), (1, .anywhere), (2, .anywhere), (3, .held), (4, .anywhere), (5, .anywhere), (6, .anywhere), (7, .held), (8, .held), (9, .held), (10, .alone), (11, .alone)] rfl (fun c a a' w hd hq => PanicOk.root (P := prog) (fn := f131) (w0 := w0) (base := base) (E := envE) (ro := ro) (r := r) (T' := T') (n' := n') (ρ0 := ρ0) c a a' w hd hq) (by kernel_rfl) ?_
  refine MV.step0 (i := 0) rfl (VAL.move rfl) rfl rfl rfl ?_
  refine MV.lift0 (i := 1) rfl (V.nc h5 rfl) rfl rfl rfl fun x3 h6 => ?_
  refine MV.lift0 (i := 2) rfl (V.fa h6 rfl fo99_0) rfl rfl rfl fun x4 h7 => ?_
  refine MV.lift1 (i := 3) rfl (fun _ z => z) (V.ld hS h7 rfl one97) rfl rfl rfl [] (by kernel_rfl) fun x5 h8 => ?_
  refine MV.step0 (i := 4) rfl (VAL.move rfl) rfl rfl rfl ?_
  refine MV.lift0 (i := 5) rfl (V.nc h8 rfl) rfl rfl rfl fun x6 h9 => ?_
  refine MV.lift0 (i := 6) rfl (V.fa h9 rfl fo99_1) rfl rfl rfl fun x7 h10 => ?_
  refine MV.lift1 (i := 7) rfl (fun _ z => z) (V.ld hS h10 rfl one3) rfl rfl rfl [3] (by kernel_rfl) fun x8 h11 => ?_
  refine MV.lift1 (i := 8) rfl (fun _ z => z) (V.ia h11 rfl rfl el97) rfl rfl rfl [] (by kernel_rfl) fun x9 h12 => ?_
  refine MV.lift1 (i := 9) rfl (fun _ z => z) (V.ldA hS h12 rfl agg144) rfl rfl rfl [] (by kernel_rfl) fun x10 h13 => ?_
  refine MV.force (i := 10) rfl ?_
  refine LV.alloc hS h13 rfl zr144 rfl rfl rfl fun x11 T4 n4 h14 ρ its hS hdr => ?_
  refine LV.nextM [9] (by kernel_rfl) (fun _ => hdr) ?_
  refine MV.force (i := 11) rfl ?_
  refine LV.stA hS h14 rfl rfl rfl agg144 rfl rfl rfl fun T5 its h15 hS => ?_
  refine LV.nextM [] (by kernel_rfl) (fun z => absurd rfl z) ?_
  refine mdn (sr ?_)
  refine mv ?_
  refine fl hS h15 fo99_1 one3 fun x12 h16 => ?_
  refine vy (V.add h16 rfl rfl) fun x13 h17 => ?_
  refine fa2 h17 fo99_1 fun x14 h18 => ?_
  refine LV.st hS h18 rfl rfl rfl siz3 rfl rfl fun T6 its h19 hS => ?_
  refine dn ?_
  refine CV.regionMS hS [(x11, 1, 1), (x11, 2, 1)] [(0, .anywhere), (1, .anywhere), (2, .held), (4, .anywhere), (5, .held), (6, .anywhere), (7, .anywhere), (3, .alone), (8, .alone), (9, .alone), (10, .alone), (11, .alone)] rfl (fun c a a' w hd hq => PanicOk.root (P := prog) (fn := f131) (w0 := w0) (base := base) (E := envE) (ro := ro) (r := r) (T' := T') (n' := n') (ρ0 := ρ0) c a a' w hd hq) (by kernel_rfl) ?_
  have hK := KeepS.start [(x11, 1, 1), (x11, 2, 1)] hS
  have hR := hS
  have hP0 := hP
  replace hP := PK.up hR hP
  replace hS := hR.root
  refine MV.step0 (i := 0) rfl (VAL.move rfl) rfl rfl rfl ?_
  refine MV.lift0 (i := 1) rfl (V.fa h19 rfl fo144_1) rfl rfl rfl fun x15 h20 => ?_
  refine MV.lift1 (i := 2) rfl hK (V.ldQ hS h20 rfl one9) rfl rfl rfl [] (by kernel_rfl) fun x16 h21 => ?_
  refine MV.lift0 (i := 4) rfl (V.fa h21 rfl fo144_2) rfl rfl rfl fun x17 h22 => ?_
  refine MV.lift1 (i := 5) rfl hK (V.ldQ hS h22 rfl one3) rfl rfl rfl [2] (by kernel_rfl) fun x18 h23 => ?_
  refine MV.step0 (i := 6) rfl (VAL.move rfl) rfl rfl rfl ?_
  refine MV.step0 (i := 7) rfl (VAL.move rfl) rfl rfl rfl ?_
  refine MV.force (i := 3) rfl ?_
  refine LV.call hS h23 (g143_ok _ _ _ _ ) hP rfl rfl rfl rfl fun x19 T7 n7 h24 ρ its hS => ?_
  obtain ⟨hK, h25⟩ := KeepS.step hR hS h24
  refine LV.nextM [5] (by kernel_rfl) (fun _ => hK) ?_
  refine MV.force (i := 8) rfl ?_
  refine LV.callD (G := fun f gs => ih f ro gs T7 n7) (qs := []) hS h25 (fun f gs => hI _ _ _ _ _) hP rfl rfl rfl rfl rfl rfl rfl fun x20 T8 n8 h26 ρ its hS => ?_
  obtain ⟨hK, h27⟩ := KeepS.step hR hS h26
  refine LV.nextM [5] (by kernel_rfl) (fun _ => hK) ?_
  refine MV.force (i := 9) rfl ?_
  refine LV.bslice hS h27 rfl rfl el22 rfl rfl rfl rfl fun x21 T9 n9 h28 ρ its hS hdr => ?_
  obtain ⟨hK, h29⟩ := KeepS.step hR hS h28
  refine LV.nextM [5] (by kernel_rfl) (fun _ => hK) ?_
  refine MV.force (i := 10) rfl ?_
  refine LV.call hS h29 (g80_ok _ _ _ _ _ _ _ _ ) hP rfl rfl rfl rfl fun x22 T10 n10 h30 ρ its hS => ?_
  refine LV.nextM [] (by kernel_rfl) (fun z => absurd rfl z) ?_
  refine MV.force (i := 11) rfl ?_
  refine as_ ?_
  refine LV.nextM [] (by kernel_rfl) (fun z => absurd rfl z) ?_
  replace hS := hR.up hS
  replace hP := hP0
  refine MV.done (PV.blockN ?_)
  exact pb5 hS h30 ⟨rfl, rfl, rfl, rfl, rfl, trivial⟩
 subst e
 refine CV.exit (PV.thenE (PV.thenE (PV.blockE (PV.thenN (sr ?_)))))
 refine mv ?_
 refine as_ ?_
 refine dn (CV.ret ?_)
 cases h5
 exact PV.ret (by simp) results131 hS (RS.tmp rfl RS.nil) rfl
def g132 (ih : FuncId → List HT → List AV → HT → Nat → R) (ro : List HT) (a0 : AV) (T : HT) (nx : Nat) : R :=
 bsK 1320005 T nx 1 9 1 [(0, (.lit (.string ⟨⟨[97, 110, 100]⟩⟩)))] fun x1 T1 n1 =>
 callK (ih 131 ro [a0, (.fn (.func 144) [a0] []), x1] T1 n1) fun x2 T2 n2 =>
 .ok (.val x2) T2 n2
theorem g132_ok (ih : FuncId → List HT → List AV → HT → Nat → R) (hI : ∀ f ro args T nx, GOk prog envE f args ro T nx (ih f ro args T nx)) (ro : List HT) (a0 : AV) (T : HT) (nx : Nat) : GOk prog envE 132 [a0] ro T nx (g132 ih ro a0 T nx) := by
 refine GOk.of_body func132 rfl ntmps132 (by kernel_rfl) rfl fun r T' n' h1 w0 base ρ0 its hS hP => ?_
 have X : CtxW envE ρ0 ro r T' n' := trivial
 unfold g132 at h1
 refine sr ?_
 refine as_ ?_
 refine dn (sr ?_)
 iterate 2 refine mv ?_
 refine pu ?_
 refine LV.bslice hS h1 rfl rfl el89 rfl rfl rfl rfl fun x1 T1 n1 h2 ρ its hS hdr => ?_
 refine LV.call hS h2 (hI _ _ _ _ _) hP rfl rfl rfl rfl fun x2 T2 n2 h3 ρ its hS => ?_
 refine as_ ?_
 refine dn (CV.ret ?_)
 cases h3
 exact PV.ret (by simp) results132 hS (RS.tmp rfl RS.nil) rfl
def g144 (ih : FuncId → List HT → List AV → HT → Nat → R) (ro : List HT) (a0 : AV) (T : HT) (nx : Nat) : R :=
 bsK 1440003 T nx 1 9 1 [(0, (.lit (.string ⟨⟨[110, 111, 116]⟩⟩)))] fun x1 T1 n1 =>
 callK (g103 ro a0 x1 T1 n1) fun x2 T2 n2 =>
 notK 1440005 x2 fun x3 =>
 condK 1440006 x3
 (
  callK (ih 149 ro [a0] T2 n2) fun x4 T3 n3 =>
  .ok (.val x4) T3 n3
 )
 (
  callK (g104 ro a0 (.lit (.string ⟨⟨[110, 111, 116]⟩⟩)) T2 n2) fun x5 T4 n4 =>
  callK (g105 ro a0 x5 T4 n4) fun x6 T5 n5 =>
  callK (ih 144 ro [a0] T5 n5) fun x7 T6 n6 =>
  fldK 1440020 T6 ro a0 3 fun x8 =>
  subK prog 3 (.tmp 21) (.const (.int .i64 (.ofNat 1))) 1440021 x8 (.lit (.int .i64 (.ofNat 1))) fun x9 =>
  faK 1440022 a0 3 fun x10 =>
  stK 1440023 T6 x10 x9 fun T7 =>
  bsK 1440027 T7 n6 1 3 1 [(0, x7)] fun x11 T8 n8 =>
  callK (g80 ro a0 (.lit (.int .i64 (.ofNat 17))) x5 (.lit (.string ⟨⟨[]⟩⟩)) x11 T8 n8) fun x12 T9 n9 =>
  .ok (.val x12) T9 n9
 )
theorem g144_ok (ih : FuncId → List HT → List AV → HT → Nat → R) (hI : ∀ f ro args T nx, GOk prog envE f args ro T nx (ih f ro args T nx)) (ro : List HT) (a0 : AV) (T : HT) (nx : Nat) : GOk prog envE 144 [a0] ro T nx (g144 ih ro a0 T nx) := by
 refine GOk.of_body func144 rfl ntmps144 (by kernel_rfl) rfl fun r T' n' h1 w0 base ρ0 its hS hP => ?_
 have X : CtxW envE ρ0 ro r T' n' := trivial
 unfold g144 at h1
 refine sr ?_
 refine as_ ?_
 refine dn (CV.seq (sr ?_))
 refine mv ?_
 refine LV.bslice hS h1 rfl rfl el89 rfl rfl rfl rfl fun x1 T1 n1 h2 ρ its hS hdr => ?_
 refine LV.call hS h2 (g103_ok _ _ _ _ _ ) hP rfl rfl rfl rfl fun x2 T2 n2 h3 ρ its hS => ?_
 refine vy (V.not h3 rfl) fun x3 h4 => ?_
 refine dn ?_
 refine CV.cond h4 rfl (fun e h5 => ?_) (fun e h5 => ?_)
 ·
  subst e
  refine sr ?_
  refine mv ?_
  refine LV.call hS h5 (hI _ _ _ _ _) hP rfl rfl rfl rfl fun x4 T3 n3 h6 ρ its hS => ?_
  refine as_ ?_
  refine dn (CV.ret (PV.thenR ?_))
  cases h6
  exact PV.ret (by simp) results144 hS (RS.tmp rfl RS.nil) rfl
 subst e
 refine CV.skip (PV.thenN (sr ?_))
 refine mv ?_
 refine LV.call hS h5 (g104_ok _ _ _ _ _ ) hP rfl rfl rfl rfl fun x5 T4 n4 h7 ρ its hS => ?_
 refine as_ ?_
 refine dn (sr ?_)
 iterate 2 refine mv ?_
 refine LV.call hS h7 (g105_ok _ _ _ _ _ ) hP rfl rfl rfl rfl fun x6 T5 n5 h8 ρ its hS => ?_
 refine dn (sr ?_)
 refine mv ?_
 refine LV.call hS h8 (hI _ _ _ _ _) hP rfl rfl rfl rfl fun x7 T6 n6 h9 ρ its hS => ?_
 refine as_ ?_
 refine dn (sr ?_)
 refine mv ?_
 refine fl hS h9 fo99_3 one3 fun x8 h10 => ?_
 refine vy (V.sub h10 rfl rfl) fun x9 h11 => ?_
 refine fa2 h11 fo99_3 fun x10 h12 => ?_
 refine LV.st hS h12 rfl rfl rfl siz3 rfl rfl fun T7 its h13 hS => ?_
 refine dn (sr ?_)
 iterate 3 refine mv ?_
 refine LV.bslice hS h13 rfl rfl el22 rfl rfl rfl rfl fun x11 T8 n8 h14 ρ its hS hdr => ?_
 refine LV.call hS h14 (g80_ok _ _ _ _ _ _ _ _ ) hP rfl rfl rfl rfl fun x12 T9 n9 h15 ρ its hS => ?_
 refine as_ ?_
 refine dn (CV.ret ?_)
 cases h15
 exact PV.ret (by simp) results144 hS (RS.tmp rfl RS.nil) rfl
def g149 (ih : FuncId → List HT → List AV → HT → Nat → R) (ro : List HT) (a0 : AV) (T : HT) (nx : Nat) : R :=
 callK (ih 152 ro [a0] T nx) fun x1 T1 n1 =>
 callK (g76 ro a0 T1 n1) fun x2 T2 n2 =>
 bsK 1490009 T2 n2 1 9 1 [(0, (.lit (.string ⟨⟨[110, 111, 116]⟩⟩)))] fun x3 T3 n3 =>
 callK (g103 ro a0 x3 T3 n3) fun x4 T4 n4 =>
 condK 1490012 x4
 (
  .bad 1490013
 )
 (
  bsK 1490015 T4 n4 7 9 1 [(0, (.lit (.string ⟨⟨[61, 61]⟩⟩))), (1, (.lit (.string ⟨⟨[33, 61]⟩⟩))), (2, (.lit (.string ⟨⟨[60]⟩⟩))), (3, (.lit (.string ⟨⟨[60, 61]⟩⟩))), (4, (.lit (.string ⟨⟨[62]⟩⟩))), (5, (.lit (.string ⟨⟨[62, 61]⟩⟩))), (6, (.lit (.string ⟨⟨[105, 110]⟩⟩)))] fun x5 T5 n5 =>
  callK (g103 ro a0 x5 T5 n5) fun x6 T6 n6 =>
  condK 1490018 x6
  (
   .bad 1490019
  )
  (
   .ok (.val x1) T6 n6
  )
 )
theorem g149_ok (ih : FuncId → List HT → List AV → HT → Nat → R) (hI : ∀ f ro args T nx, GOk prog envE f args ro T nx (ih f ro args T nx)) (ro : List HT) (a0 : AV) (T : HT) (nx : Nat) : GOk prog envE 149 [a0] ro T nx (g149 ih ro a0 T nx) := by
 refine GOk.of_body func149 rfl ntmps149 (by kernel_rfl) rfl fun r T' n' h1 w0 base ρ0 its hS hP => ?_
 have X : CtxW envE ρ0 ro r T' n' := trivial
 unfold g149 at h1
 refine sr ?_
 refine as_ ?_
 refine dn (sr ?_)
 refine mv ?_
 refine LV.call hS h1 (hI _ _ _ _ _) hP rfl rfl rfl rfl fun x1 T1 n1 h2 ρ its hS => ?_
 refine as_ ?_
 refine dn (sr ?_)
 refine mv ?_
 refine LV.call hS h2 (g76_ok _ _ _ _ ) hP rfl rfl rfl rfl fun x2 T2 n2 h3 ρ its hS => ?_
 refine as_ ?_
 refine dn (CV.seq (CV.block (sr ?_)))
 refine mv ?_
 refine LV.bslice hS h3 rfl rfl el89 rfl rfl rfl rfl fun x3 T3 n3 h4 ρ its hS hdr => ?_
 refine LV.call hS h4 (g103_ok _ _ _ _ _ ) hP rfl rfl rfl rfl fun x4 T4 n4 h5 ρ its hS => ?_
 refine as_ ?_
 refine dn ?_
 refine CV.cond h5 rfl (fun e h6 => ?_) (fun e h6 => ?_)
 ·
  subst e
  cases h6
 subst e
 refine sr ?_
 refine mv ?_
 refine LV.bslice hS h6 rfl rfl el89 rfl rfl rfl rfl fun x5 T5 n5 h7 ρ its hS hdr => ?_
 refine LV.call hS h7 (g103_ok _ _ _ _ _ ) hP rfl rfl rfl rfl fun x6 T6 n6 h8 ρ its hS => ?_
 refine as_ ?_
 refine dn ?_
 refine CV.cond h8 rfl (fun e h9 => ?_) (fun e h9 => ?_)
 ·
  subst e
  cases h9
 subst e
 refine CV.skip (PV.blockN (PV.thenN (sr ?_)))
 refine mv ?_
 refine as_ ?_
 refine dn (CV.ret ?_)
 cases h9
 exact PV.ret (by simp) results149 hS (RS.tmp rfl RS.nil) rfl
def g152 (ih : FuncId → List HT → List AV → HT → Nat → R) (ro : List HT) (a0 : AV) (T : HT) (nx : Nat) : R :=
 bsK 1520005 T nx 2 9 1 [(0, (.lit (.string ⟨⟨[43]⟩⟩))), (1, (.lit (.string ⟨⟨[45]⟩⟩)))] fun x1 T1 n1 =>
 callK (ih 131 ro [a0, (.fn (.func 154) [a0] []), x1] T1 n1) fun x2 T2 n2 =>
 .ok (.val x2) T2 n2
theorem g152_ok (ih : FuncId → List HT → List AV → HT → Nat → R) (hI : ∀ f ro args T nx, GOk prog envE f args ro T nx (ih f ro args T nx)) (ro : List HT) (a0 : AV) (T : HT) (nx : Nat) : GOk prog envE 152 [a0] ro T nx (g152 ih ro a0 T nx) := by
 refine GOk.of_body func152 rfl ntmps152 (by kernel_rfl) rfl fun r T' n' h1 w0 base ρ0 its hS hP => ?_
 have X : CtxW envE ρ0 ro r T' n' := trivial
 unfold g152 at h1
 refine sr ?_
 refine as_ ?_
 refine dn (sr ?_)
 iterate 2 refine mv ?_
 refine pu ?_
 refine LV.bslice hS h1 rfl rfl el89 rfl rfl rfl rfl fun x1 T1 n1 h2 ρ its hS hdr => ?_
 refine LV.call hS h2 (hI _ _ _ _ _) hP rfl rfl rfl rfl fun x2 T2 n2 h3 ρ its hS => ?_
 refine as_ ?_
 refine dn (CV.ret ?_)
 cases h3
 exact PV.ret (by simp) results152 hS (RS.tmp rfl RS.nil) rfl
def g154 (ih : FuncId → List HT → List AV → HT → Nat → R) (ro : List HT) (a0 : AV) (T : HT) (nx : Nat) : R :=
 bsK 1540005 T nx 3 9 1 [(0, (.lit (.string ⟨⟨[42]⟩⟩))), (1, (.lit (.string ⟨⟨[47, 47]⟩⟩))), (2, (.lit (.string ⟨⟨[37]⟩⟩)))] fun x1 T1 n1 =>
 callK (ih 131 ro [a0, (.fn (.func 159) [a0] []), x1] T1 n1) fun x2 T2 n2 =>
 .ok (.val x2) T2 n2
theorem g154_ok (ih : FuncId → List HT → List AV → HT → Nat → R) (hI : ∀ f ro args T nx, GOk prog envE f args ro T nx (ih f ro args T nx)) (ro : List HT) (a0 : AV) (T : HT) (nx : Nat) : GOk prog envE 154 [a0] ro T nx (g154 ih ro a0 T nx) := by
 refine GOk.of_body func154 rfl ntmps154 (by kernel_rfl) rfl fun r T' n' h1 w0 base ρ0 its hS hP => ?_
 have X : CtxW envE ρ0 ro r T' n' := trivial
 unfold g154 at h1
 refine sr ?_
 refine as_ ?_
 refine dn (sr ?_)
 iterate 2 refine mv ?_
 refine pu ?_
 refine LV.bslice hS h1 rfl rfl el89 rfl rfl rfl rfl fun x1 T1 n1 h2 ρ its hS hdr => ?_
 refine LV.call hS h2 (hI _ _ _ _ _) hP rfl rfl rfl rfl fun x2 T2 n2 h3 ρ its hS => ?_
 refine as_ ?_
 refine dn (CV.ret ?_)
 cases h3
 exact PV.ret (by simp) results154 hS (RS.tmp rfl RS.nil) rfl
def g159 (ih : FuncId → List HT → List AV → HT → Nat → R) (ro : List HT) (a0 : AV) (T : HT) (nx : Nat) : R :=
 bsK 1590003 T nx 1 9 1 [(0, (.lit (.string ⟨⟨[45]⟩⟩)))] fun x1 T1 n1 =>
 callK (g103 ro a0 x1 T1 n1) fun x2 T2 n2 =>
 notK 1590005 x2 fun x3 =>
 condK 1590006 x3
 (
  callK (ih 165 ro [a0] T2 n2) fun x4 T3 n3 =>
  .ok (.val x4) T3 n3
 )
 (
  callK (g104 ro a0 (.lit (.string ⟨⟨[45]⟩⟩)) T2 n2) fun x5 T4 n4 =>
  callK (g105 ro a0 x5 T4 n4) fun x6 T5 n5 =>
  callK (ih 159 ro [a0] T5 n5) fun x7 T6 n6 =>
  fldK 1590020 T6 ro a0 3 fun x8 =>
  subK prog 3 (.tmp 21) (.const (.int .i64 (.ofNat 1))) 1590021 x8 (.lit (.int .i64 (.ofNat 1))) fun x9 =>
  faK 1590022 a0 3 fun x10 =>
  stK 1590023 T6 x10 x9 fun T7 =>
  bsK 1590027 T7 n6 1 3 1 [(0, x7)] fun x11 T8 n8 =>
  callK (g80 ro a0 (.lit (.int .i64 (.ofNat 16))) x5 (.lit (.string ⟨⟨[]⟩⟩)) x11 T8 n8) fun x12 T9 n9 =>
  .ok (.val x12) T9 n9
 )
theorem g159_ok (ih : FuncId → List HT → List AV → HT → Nat → R) (hI : ∀ f ro args T nx, GOk prog envE f args ro T nx (ih f ro args T nx)) (ro : List HT) (a0 : AV) (T : HT) (nx : Nat) : GOk prog envE 159 [a0] ro T nx (g159 ih ro a0 T nx) := by
 refine GOk.of_body func159 rfl ntmps159 (by kernel_rfl) rfl fun r T' n' h1 w0 base ρ0 its hS hP => ?_
 have X : CtxW envE ρ0 ro r T' n' := trivial
 unfold g159 at h1
 refine sr ?_
 refine as_ ?_
 refine dn (CV.seq (sr ?_))
 refine mv ?_
 refine LV.bslice hS h1 rfl rfl el89 rfl rfl rfl rfl fun x1 T1 n1 h2 ρ its hS hdr => ?_
 refine LV.call hS h2 (g103_ok _ _ _ _ _ ) hP rfl rfl rfl rfl fun x2 T2 n2 h3 ρ its hS => ?_
 refine vy (V.not h3 rfl) fun x3 h4 => ?_
 refine dn ?_
 refine CV.cond h4 rfl (fun e h5 => ?_) (fun e h5 => ?_)
 ·
  subst e
  refine sr ?_
  refine mv ?_
  refine LV.call hS h5 (hI _ _ _ _ _) hP rfl rfl rfl rfl fun x4 T3 n3 h6 ρ its hS => ?_
  refine as_ ?_
  refine dn (CV.ret (PV.thenR ?_))
  cases h6
  exact PV.ret (by simp) results159 hS (RS.tmp rfl RS.nil) rfl
 subst e
 refine CV.skip (PV.thenN (sr ?_))
 refine mv ?_
 refine LV.call hS h5 (g104_ok _ _ _ _ _ ) hP rfl rfl rfl rfl fun x5 T4 n4 h7 ρ its hS => ?_
 refine as_ ?_
 refine dn (sr ?_)
 iterate 2 refine mv ?_
 refine LV.call hS h7 (g105_ok _ _ _ _ _ ) hP rfl rfl rfl rfl fun x6 T5 n5 h8 ρ its hS => ?_
 refine dn (sr ?_)
 refine mv ?_
 refine LV.call hS h8 (hI _ _ _ _ _) hP rfl rfl rfl rfl fun x7 T6 n6 h9 ρ its hS => ?_
 refine as_ ?_
 refine dn (sr ?_)
 refine mv ?_
 refine fl hS h9 fo99_3 one3 fun x8 h10 => ?_
 refine vy (V.sub h10 rfl rfl) fun x9 h11 => ?_
 refine fa2 h11 fo99_3 fun x10 h12 => ?_
 refine LV.st hS h12 rfl rfl rfl siz3 rfl rfl fun T7 its h13 hS => ?_
 refine dn (sr ?_)
 iterate 3 refine mv ?_
 refine LV.bslice hS h13 rfl rfl el22 rfl rfl rfl rfl fun x11 T8 n8 h14 ρ its hS hdr => ?_
 refine LV.call hS h14 (g80_ok _ _ _ _ _ _ _ _ ) hP rfl rfl rfl rfl fun x12 T9 n9 h15 ρ its hS => ?_
 refine as_ ?_
 refine dn (CV.ret ?_)
 cases h15
 exact PV.ret (by simp) results159 hS (RS.tmp rfl RS.nil) rfl
def g165_b1 (ih : FuncId → List HT → List AV → HT → Nat → R) (ro : List HT) (lp1 : AV → AV → AV → HT → Nat → R) (y0 y2 y3 : AV) (T2 : HT) (n2 : Nat) : R :=
 callK (g76 ro y0 T2 n2) fun x2 T3 n3 =>
 callK (g78 ro y0 (.lit (.string ⟨⟨[46]⟩⟩)) T3 n3) fun x3 T4 n4 =>
 condK 1650012 x3
 (
  .bad 1650013
 )
 (
  bsK 1650015 T4 n4 1 9 1 [(0, (.lit (.string ⟨⟨[40]⟩⟩)))] fun x4 T5 n5 =>
  callK (g103 ro y0 x4 T5 n5) fun x5 T6 n6 =>
  condK 1650018 x5
  (
   .bad 1650019
  )
  (
   bsK 1650021 T6 n6 1 9 1 [(0, (.lit (.string ⟨⟨[91]⟩⟩)))] fun x6 T7 n7 =>
   callK (g103 ro y0 x6 T7 n7) fun x7 T8 n8 =>
   condK 1650024 x7
   (
    .bad 1650025
   )
   (
    .ok (.val y3) T8 n8
   )
  )
 )
def g165 (ih : FuncId → List HT → List AV → HT → Nat → R) (ro : List HT) (a0 : AV) (T : HT) (nx : Nat) : R :=
 callK (ih 168 ro [a0] T nx) fun x1 T1 n1 =>
 lpf3 1650005 (g165_b1 ih ro) 100000 a0 (.lit (.int .i64 (.ofNat 0))) x1 T1 n1
theorem g165_ok (ih : FuncId → List HT → List AV → HT → Nat → R) (hI : ∀ f ro args T nx, GOk prog envE f args ro T nx (ih f ro args T nx)) (ro : List HT) (a0 : AV) (T : HT) (nx : Nat) : GOk prog envE 165 [a0] ro T nx (g165 ih ro a0 T nx) := by
 refine GOk.of_body func165 rfl ntmps165 (by kernel_rfl) rfl fun r T' n' h1 w0 base ρ0 its hS hP => ?_
 have X : CtxW envE ρ0 ro r T' n' := trivial
 unfold g165 at h1
 refine sr ?_
 refine as_ ?_
 refine dn (sr ?_)
 refine mv ?_
 refine LV.call hS h1 (hI _ _ _ _ _) hP rfl rfl rfl rfl fun x1 T1 n1 h2 ρ its hS => ?_
 refine as_ ?_
 refine dn (CV.block ?_)
 refine cl3 X 0 2 3 [] hS h2 ⟨rfl, rfl, rfl, trivial⟩ ?_
 intro f1 y0 y2 y3 T2 n2 ρ its hS h3
 unfold g165_b1 at h3
 refine CV.block (sr ?_)
 refine mv ?_
 refine LV.call hS h3 (g76_ok _ _ _ _ ) hP rfl rfl rfl rfl fun x2 T3 n3 h4 ρ its hS => ?_
 refine as_ ?_
 refine dn (CV.block (sr ?_))
 refine mv ?_
 refine LV.call hS h4 (g78_ok _ _ _ _ _ ) hP rfl rfl rfl rfl fun x3 T4 n4 h5 ρ its hS => ?_
 refine as_ ?_
 refine dn ?_
 refine CV.cond h5 rfl (fun e h6 => ?_) (fun e h6 => ?_)
 ·
  subst e
  cases h6
 subst e
 refine sr ?_
 refine mv ?_
 refine LV.bslice hS h6 rfl rfl el89 rfl rfl rfl rfl fun x4 T5 n5 h7 ρ its hS hdr => ?_
 refine LV.call hS h7 (g103_ok _ _ _ _ _ ) hP rfl rfl rfl rfl fun x5 T6 n6 h8 ρ its hS => ?_
 refine as_ ?_
 refine dn ?_
 refine CV.cond h8 rfl (fun e h9 => ?_) (fun e h9 => ?_)
 ·
  subst e
  cases h9
 subst e
 refine sr ?_
 refine mv ?_
 refine LV.bslice hS h9 rfl rfl el89 rfl rfl rfl rfl fun x6 T7 n7 h10 ρ its hS hdr => ?_
 refine LV.call hS h10 (g103_ok _ _ _ _ _ ) hP rfl rfl rfl rfl fun x7 T8 n8 h11 ρ its hS => ?_
 refine as_ ?_
 refine dn ?_
 refine CV.cond h11 rfl (fun e h12 => ?_) (fun e h12 => ?_)
 ·
  subst e
  cases h12
 subst e
 refine sr ?_
 refine mv ?_
 refine as_ ?_
 refine dn (CV.ret (PV.blockR (PV.blockR (PV.thenR (PV.blockR ?_)))))
 cases h12
 exact PV.ret (by simp) results165 hS (RS.tmp rfl RS.nil) rfl
def g168_b1 (ih : FuncId → List HT → List AV → HT → Nat → R) (ro : List HT) (lp1 : AV → AV → AV → AV → HT → Nat → R) (y0 y2 y3 y4 : AV) (T5 : HT) (n5 : Nat) : R :=
 callK (g35 ro y0 T5 n5) fun x27 T6 n6 =>
 eqK prog 3 (.tmp 54) (.const (.int .i64 (.ofNat 3))) 1680046 x27 (.lit (.int .i64 (.ofNat 3))) fun x28 =>
 condK 1680047 x28
 (
  ncK 1680050 y0 fun x29 =>
  faK 1680051 x29 0 fun x30 =>
  ldK 1680052 T6 ro x30 fun x31 =>
  ncK 1680054 y0 fun x32 =>
  faK 1680055 x32 1 fun x33 =>
  ldK 1680056 T6 ro x33 fun x34 =>
  iaK 1680057 x31 x34 3 fun x35 =>
  faK 1680058 x35 1 fun x36 =>
  ldK 1680059 T6 ro x36 fun x37 =>
  addSK prog 9 (.tmp 56) (.tmp 67) 1680060 y4 x37 fun x38 =>
  fldK 1680063 T6 ro y0 1 fun x39 =>
  addK prog 3 (.tmp 72) (.const (.int .i64 (.ofNat 1))) 1680064 x39 (.lit (.int .i64 (.ofNat 1))) fun x40 =>
  faK 1680065 y0 1 fun x41 =>
  stK 1680066 T6 x41 x40 fun T7 =>
  lp1 y0 y2 y3 x38 T7 n6
 )
 (
  faK 1680068 y3 2 fun x42 =>
  ldK 1680069 T6 ro x42 fun x43 =>
  callK (g80 ro y0 (.lit (.int .i64 (.ofNat 5))) x43 y4 (.lit (.slice none 0 0)) T6 n6) fun x44 T8 n8 =>
  .ok (.val x44) T8 n8
 )
def g168 (ih : FuncId → List HT → List AV → HT → Nat → R) (ro : List HT) (a0 : AV) (T : HT) (nx : Nat) : R :=
 ncK 1680003 a0 fun x1 =>
 faK 1680004 x1 0 fun x2 =>
 ldK 1680005 T ro x2 fun x3 =>
 ncK 1680007 a0 fun x4 =>
 faK 1680008 x4 1 fun x5 =>
 ldK 1680009 T ro x5 fun x6 =>
 iaK 1680010 x3 x6 3 fun x7 =>
 ldAK 1680011 T ro x7 3 fun x8 =>
 newK T nx (.obj [.lit (.int .i64 0), .lit (.string ⟨#[]⟩), .lit (.int .i64 0)] 144) fun x9 T1 n1 =>
 stAK 1680013 T1 x9 x8 3 fun T2 =>
 faK 1680014 x9 0 fun x10 =>
 ldK 1680015 T2 ro x10 fun x11 =>
 eqK prog 3 (.tmp 17) (.const (.int .i64 (.ofNat 1))) 1680016 x11 (.lit (.int .i64 (.ofNat 1))) fun x12 =>
 condK 1680018 x12
 (
  .bad 1680019
 )
 (
  faK 1680020 x9 0 fun x13 =>
  ldK 1680021 T2 ro x13 fun x14 =>
  eqK prog 3 (.tmp 34) (.const (.int .i64 (.ofNat 2))) 1680022 x14 (.lit (.int .i64 (.ofNat 2))) fun x15 =>
  condK 1680024 x15
  (
   fldK 1680026 T2 ro a0 1 fun x16 =>
   addK prog 3 (.tmp 39) (.const (.int .i64 (.ofNat 1))) 1680027 x16 (.lit (.int .i64 (.ofNat 1))) fun x17 =>
   faK 1680028 a0 1 fun x18 =>
   stK 1680029 T2 x18 x17 fun T3 =>
   faK 1680031 x9 2 fun x19 =>
   ldK 1680032 T3 ro x19 fun x20 =>
   faK 1680033 x9 1 fun x21 =>
   ldK 1680034 T3 ro x21 fun x22 =>
   callK (g80 ro a0 (.lit (.int .i64 (.ofNat 4))) x20 x22 (.lit (.slice none 0 0)) T3 n1) fun x23 T4 n4 =>
   .ok (.val x23) T4 n4
  )
  (
   faK 1680037 x9 0 fun x24 =>
   ldK 1680038 T2 ro x24 fun x25 =>
   eqK prog 3 (.tmp 51) (.const (.int .i64 (.ofNat 3))) 1680039 x25 (.lit (.int .i64 (.ofNat 3))) fun x26 =>
   condK 1680041 x26
   (
    lpf4 1680043 (g168_b1 ih ro) 100000 a0 (.lit (.int .i64 (.ofNat 0))) x9 (.lit (.string ⟨⟨[]⟩⟩)) T2 n1
   )
   (
    callK (g78 ro a0 (.lit (.string ⟨⟨[78, 111, 110, 101]⟩⟩)) T2 n1) fun x45 T9 n9 =>
    condK 1680076 x45
    (
     .bad 1680077
    )
    (
     callK (g78 ro a0 (.lit (.string ⟨⟨[84, 114, 117, 101]⟩⟩)) T9 n9) fun x46 T10 n10 =>
     condK 1680081 x46
     (
      .bad 1680082
     )
     (
      callK (g78 ro a0 (.lit (.string ⟨⟨[70, 97, 108, 115, 101]⟩⟩)) T10 n10) fun x47 T11 n11 =>
      condK 1680086 x47
      (
       .bad 1680087
      )
      (
       bsK 1680089 T11 n11 1 9 1 [(0, (.lit (.string ⟨⟨[40]⟩⟩)))] fun x48 T12 n12 =>
       callK (g103 ro a0 x48 T12 n12) fun x49 T13 n13 =>
       condK 1680092 x49
       (
        callK (ih 171 ro [a0] T13 n13) fun x50 T14 n14 =>
        .ok (.val x50) T14 n14
       )
       (
        bsK 1680097 T13 n13 1 9 1 [(0, (.lit (.string ⟨⟨[91]⟩⟩)))] fun x51 T15 n15 =>
        callK (g103 ro a0 x51 T15 n15) fun x52 T16 n16 =>
        condK 1680100 x52
        (
         callK (ih 172 ro [a0] T16 n16) fun x53 T17 n17 =>
         .ok (.val x53) T17 n17
        )
        (
         bsK 1680105 T16 n16 1 9 1 [(0, (.lit (.string ⟨⟨[123]⟩⟩)))] fun x54 T18 n18 =>
         callK (g103 ro a0 x54 T18 n18) fun x55 T19 n19 =>
         condK 1680108 x55
         (
          callK (ih 173 ro [a0] T19 n19) fun x56 T20 n20 =>
          .ok (.val x56) T20 n20
         )
         (
          callK (g56 ro a0 T19 n19) fun x57 T21 n21 =>
          .ok (.val (.lit (.int .i64 (.ofNat 0)))) T21 n21
         )
        )
       )
      )
     )
    )
   )
  )
 )
theorem g168_ok (ih : FuncId → List HT → List AV → HT → Nat → R) (hI : ∀ f ro args T nx, GOk prog envE f args ro T nx (ih f ro args T nx)) (ro : List HT) (a0 : AV) (T : HT) (nx : Nat) : GOk prog envE 168 [a0] ro T nx (g168 ih ro a0 T nx) := by
 refine GOk.of_body func168 rfl ntmps168 (by kernel_rfl) rfl fun r T' n' h1 w0 base ρ0 its hS hP => ?_
 have X : CtxW envE ρ0 ro r T' n' := trivial
 unfold g168 at h1
 refine sr ?_
 refine as_ ?_
 refine dn (CV.seq ?_)
 refine CV.regionM [(0, .anywhere), (1, .anywhere), (2, .anywhere), (3, .held), (4, .anywhere), (5, .anywhere), (6, .anywhere), (7, .held), (8, .held), (9, .held), (10, .alone), (11, .alone)] rfl (fun c a a' w hd hq => PanicOk.root (P := prog) (fn := f168) (w0 := w0) (base := base) (E := envE) (ro := ro) (r := r) (T' := T') (n' := n') (ρ0 := ρ0) c a a' w hd hq) (by kernel_rfl) ?_
 refine MV.step0 (i := 0) rfl (VAL.move rfl) rfl rfl rfl ?_
 refine MV.lift0 (i := 1) rfl (V.nc h1 rfl) rfl rfl rfl fun x1 h2 => ?_
 refine MV.lift0 (i := 2) rfl (V.fa h2 rfl fo99_0) rfl rfl rfl fun x2 h3 => ?_
 refine MV.lift1 (i := 3) rfl (fun _ z => z) (V.ld hS h3 rfl one97) rfl rfl rfl [] (by kernel_rfl) fun x3 h4 => ?_
 refine MV.step0 (i := 4) rfl (VAL.move rfl) rfl rfl rfl ?_
 refine MV.lift0 (i := 5) rfl (V.nc h4 rfl) rfl rfl rfl fun x4 h5 => ?_
 refine MV.lift0 (i := 6) rfl (V.fa h5 rfl fo99_1) rfl rfl rfl fun x5 h6 => ?_
 refine MV.lift1 (i := 7) rfl (fun _ z => z) (V.ld hS h6 rfl one3) rfl rfl rfl [3] (by kernel_rfl) fun x6 h7 => ?_
 refine MV.lift1 (i := 8) rfl (fun _ z => z) (V.ia h7 rfl rfl el97) rfl rfl rfl [] (by kernel_rfl) fun x7 h8 => ?_
 refine MV.lift1 (i := 9) rfl (fun _ z => z) (V.ldA hS h8 rfl agg144) rfl rfl rfl [] (by kernel_rfl) fun x8 h9 => ?_
 refine MV.force (i := 10) rfl ?_
 refine LV.alloc hS h9 rfl zr144 rfl rfl rfl fun x9 T1 n1 h10 ρ its hS hdr => ?_
 refine LV.nextM [9] (by kernel_rfl) (fun _ => hdr) ?_
 refine MV.force (i := 11) rfl ?_
 refine LV.stA hS h10 rfl rfl rfl agg144 rfl rfl rfl fun T2 its h11 hS => ?_
 refine LV.nextM [] (by kernel_rfl) (fun z => absurd rfl z) ?_
 refine mdn (CV.seq (CV.block (sr ?_)))
 refine vy (V.fa h11 rfl fo144_0) fun x10 h12 => ?_
 refine vy (V.ld hS h12 rfl one3) fun x11 h13 => ?_
 refine vy (V.eq h13 rfl rfl) fun x12 h14 => ?_
 refine as_ ?_
 refine dn ?_
 refine CV.cond h14 rfl (fun e h15 => ?_) (fun e h15 => ?_)
 ·
  subst e
  cases h15
 subst e
 refine sr ?_
 refine vy (V.fa h15 rfl fo144_0) fun x13 h16 => ?_
 refine vy (V.ld hS h16 rfl one3) fun x14 h17 => ?_
 refine vy (V.eq h17 rfl rfl) fun x15 h18 => ?_
 refine as_ ?_
 refine dn ?_
 refine CV.cond h18 rfl (fun e h19 => ?_) (fun e h19 => ?_)
 ·
  subst e
  refine sr ?_
  refine mv ?_
  refine fl hS h19 fo99_1 one3 fun x16 h20 => ?_
  refine vy (V.add h20 rfl rfl) fun x17 h21 => ?_
  refine fa2 h21 fo99_1 fun x18 h22 => ?_
  refine LV.st hS h22 rfl rfl rfl siz3 rfl rfl fun T3 its h23 hS => ?_
  refine dn (sr ?_)
  refine mv ?_
  refine vy (V.fa h23 rfl fo144_2) fun x19 h24 => ?_
  refine vy (V.ld hS h24 rfl one3) fun x20 h25 => ?_
  refine vy (V.fa h25 rfl fo144_1) fun x21 h26 => ?_
  refine vy (V.ld hS h26 rfl one9) fun x22 h27 => ?_
  refine LV.call hS h27 (g80_ok _ _ _ _ _ _ _ _ ) hP rfl rfl rfl rfl fun x23 T4 n4 h28 ρ its hS => ?_
  refine as_ ?_
  refine dn (CV.ret (PV.blockR (PV.thenR ?_)))
  cases h28
  exact PV.ret (by simp) results168 hS (RS.tmp rfl RS.nil) rfl
 subst e
 refine sr ?_
 refine vy (V.fa h19 rfl fo144_0) fun x24 h29 => ?_
 refine vy (V.ld hS h29 rfl one3) fun x25 h30 => ?_
 refine vy (V.eq h30 rfl rfl) fun x26 h31 => ?_
 refine as_ ?_
 refine dn ?_
 refine CV.cond h31 rfl (fun e h32 => ?_) (fun e h32 => ?_)
 ·
  subst e
  refine sr ?_
  refine as_ ?_
  refine dn (CV.seq (CV.block ?_))
  refine cl4 X 0 2 3 4 [] hS h32 ⟨rfl, rfl, rfl, rfl, trivial⟩ ?_
  intro f1 y0 y2 y3 y4 T5 n5 ρ its hS h33
  unfold g168_b1 at h33
  refine CV.seq (sr ?_)
  refine mv ?_
  refine LV.call hS h33 (g35_ok _ _ _ _ ) hP rfl rfl rfl rfl fun x27 T6 n6 h34 ρ its hS => ?_
  refine vy (V.eq h34 rfl rfl) fun x28 h35 => ?_
  refine dn ?_
  refine CV.cond h35 rfl (fun e h36 => ?_) (fun e h36 => ?_)
  ·
   subst e
   refine CV.skip (PV.thenN (CV.block (CV.seq ?_)))
   refine CV.regionM [(0, .anywhere), (1, .anywhere), (2, .anywhere), (3, .anywhere), (4, .held), (5, .anywhere), (6, .anywhere), (7, .anywhere), (8, .held), (9, .held), (10, .held), (11, .held), (12, .held), (13, .held)] rfl (fun c a a' w hd hq => PanicOk.root (P := prog) (fn := f168) (w0 := w0) (base := base) (E := envE) (ro := ro) (r := r) (T' := T') (n' := n') (ρ0 := ρ0) c a a' w hd hq) (by kernel_rfl) ?_
   refine MV.step0 (i := 0) rfl (VAL.move rfl) rfl rfl rfl ?_
   refine MV.step0 (i := 1) rfl (VAL.move rfl) rfl rfl rfl ?_
   refine MV.lift0 (i := 2) rfl (V.nc h36 rfl) rfl rfl rfl fun x29 h37 => ?_
   refine MV.lift0 (i := 3) rfl (V.fa h37 rfl fo99_0) rfl rfl rfl fun x30 h38 => ?_
   refine MV.lift1 (i := 4) rfl (fun _ z => z) (V.ld hS h38 rfl one97) rfl rfl rfl [] (by kernel_rfl) fun x31 h39 => ?_
   refine MV.step0 (i := 5) rfl (VAL.move rfl) rfl rfl rfl ?_
   refine MV.lift0 (i := 6) rfl (V.nc h39 rfl) rfl rfl rfl fun x32 h40 => ?_
   refine MV.lift0 (i := 7) rfl (V.fa h40 rfl fo99_1) rfl rfl rfl fun x33 h41 => ?_
   refine MV.lift1 (i := 8) rfl (fun _ z => z) (V.ld hS h41 rfl one3) rfl rfl rfl [4] (by kernel_rfl) fun x34 h42 => ?_
   refine MV.lift1 (i := 9) rfl (fun _ z => z) (V.ia h42 rfl rfl el97) rfl rfl rfl [] (by kernel_rfl) fun x35 h43 => ?_
   refine MV.lift1 (i := 10) rfl (fun _ z => z) (V.fa h43 rfl fo144_1) rfl rfl rfl [] (by kernel_rfl) fun x36 h44 => ?_
   refine MV.lift1 (i := 11) rfl (fun _ z => z) (V.ld hS h44 rfl one9) rfl rfl rfl [] (by kernel_rfl) fun x37 h45 => ?_
   refine MV.lift1 (i := 12) rfl (fun _ z => z) (V.addS h45 rfl rfl) rfl rfl rfl [] (by kernel_rfl) fun x38 h46 => ?_
   refine MV.step1 (i := 13) rfl (fun _ z => z) (VAL.assign rfl) rfl rfl rfl [] (by kernel_rfl) ?_
   refine mdn (CV.region ?_)
   refine mv ?_
   refine fl hS h46 fo99_1 one3 fun x39 h47 => ?_
   refine vy (V.add h47 rfl rfl) fun x40 h48 => ?_
   refine fa2 h48 fo99_1 fun x41 h49 => ?_
   refine LV.st hS h49 rfl rfl rfl siz3 rfl rfl fun T7 its h50 hS => ?_
   refine LV.done (PV.blockN ?_)
   exact pb4 hS h50 ⟨rfl, rfl, rfl, rfl, trivial⟩
  subst e
  refine CV.exit (PV.thenE (PV.thenE (PV.blockE (PV.thenN (sr ?_)))))
  refine mv ?_
  refine vy (V.fa h36 rfl fo144_2) fun x42 h51 => ?_
  refine vy (V.ld hS h51 rfl one3) fun x43 h52 => ?_
  refine mv ?_
  refine LV.call hS h52 (g80_ok _ _ _ _ _ _ _ _ ) hP rfl rfl rfl rfl fun x44 T8 n8 h53 ρ its hS => ?_
  refine as_ ?_
  refine dn (CV.ret (PV.blockR (PV.thenR ?_)))
  cases h53
  exact PV.ret (by simp) results168 hS (RS.tmp rfl RS.nil) rfl
 subst e
 refine sr ?_
 refine mv ?_
 refine LV.call hS h32 (g78_ok _ _ _ _ _ ) hP rfl rfl rfl rfl fun x45 T9 n9 h54 ρ its hS => ?_
 refine as_ ?_
 refine dn ?_
 refine CV.cond h54 rfl (fun e h55 => ?_) (fun e h55 => ?_)
 ·
  subst e
  cases h55
 subst e
 refine sr ?_
 refine mv ?_
 refine LV.call hS h55 (g78_ok _ _ _ _ _ ) hP rfl rfl rfl rfl fun x46 T10 n10 h56 ρ its hS => ?_
 refine as_ ?_
 refine dn ?_
 refine CV.cond h56 rfl (fun e h57 => ?_) (fun e h57 => ?_)
 ·
  subst e
  cases h57
 subst e
 refine sr ?_
 refine mv ?_
 refine LV.call hS h57 (g78_ok _ _ _ _ _ ) hP rfl rfl rfl rfl fun x47 T11 n11 h58 ρ its hS => ?_
 refine as_ ?_
 refine dn ?_
 refine CV.cond h58 rfl (fun e h59 => ?_) (fun e h59 => ?_)
 ·
  subst e
  cases h59
 subst e
 refine sr ?_
 refine mv ?_
 refine LV.bslice hS h59 rfl rfl el89 rfl rfl rfl rfl fun x48 T12 n12 h60 ρ its hS hdr => ?_
 refine LV.call hS h60 (g103_ok _ _ _ _ _ ) hP rfl rfl rfl rfl fun x49 T13 n13 h61 ρ its hS => ?_
 refine as_ ?_
 refine dn ?_
 refine CV.cond h61 rfl (fun e h62 => ?_) (fun e h62 => ?_)
 ·
  subst e
  refine sr ?_
  refine mv ?_
  refine LV.call hS h62 (hI _ _ _ _ _) hP rfl rfl rfl rfl fun x50 T14 n14 h63 ρ its hS => ?_
  refine as_ ?_
  refine dn (CV.ret (PV.blockR (PV.thenR ?_)))
  cases h63
  exact PV.ret (by simp) results168 hS (RS.tmp rfl RS.nil) rfl
 subst e
 refine sr ?_
 refine mv ?_
 refine LV.bslice hS h62 rfl rfl el89 rfl rfl rfl rfl fun x51 T15 n15 h64 ρ its hS hdr => ?_
 refine LV.call hS h64 (g103_ok _ _ _ _ _ ) hP rfl rfl rfl rfl fun x52 T16 n16 h65 ρ its hS => ?_
 refine as_ ?_
 refine dn ?_
 refine CV.cond h65 rfl (fun e h66 => ?_) (fun e h66 => ?_)
 ·
  subst e
  refine sr ?_
  refine mv ?_
  refine LV.call hS h66 (hI _ _ _ _ _) hP rfl rfl rfl rfl fun x53 T17 n17 h67 ρ its hS => ?_
  refine as_ ?_
  refine dn (CV.ret (PV.blockR (PV.thenR ?_)))
  cases h67
  exact PV.ret (by simp) results168 hS (RS.tmp rfl RS.nil) rfl
 subst e
 refine sr ?_
 refine mv ?_
 refine LV.bslice hS h66 rfl rfl el89 rfl rfl rfl rfl fun x54 T18 n18 h68 ρ its hS hdr => ?_
 refine LV.call hS h68 (g103_ok _ _ _ _ _ ) hP rfl rfl rfl rfl fun x55 T19 n19 h69 ρ its hS => ?_
 refine as_ ?_
 refine dn ?_
 refine CV.cond h69 rfl (fun e h70 => ?_) (fun e h70 => ?_)
 ·
  subst e
  refine sr ?_
  refine mv ?_
  refine LV.call hS h70 (hI _ _ _ _ _) hP rfl rfl rfl rfl fun x56 T20 n20 h71 ρ its hS => ?_
  refine as_ ?_
  refine dn (CV.ret (PV.blockR (PV.thenR ?_)))
  cases h71
  exact PV.ret (by simp) results168 hS (RS.tmp rfl RS.nil) rfl
 subst e
 refine CV.skip (PV.blockN (PV.thenN (sr ?_)))
 refine mv ?_
 refine LV.call hS h70 (g56_ok _ _ _ _ ) hP rfl rfl rfl rfl fun x57 T21 n21 h72 ρ its hS => ?_
 refine dn (sr ?_)
 refine as_ ?_
 refine dn (CV.ret ?_)
 cases h72
 exact PV.ret (by simp) results168 hS (RS.tmp rfl RS.nil) rfl

end
end Go.Proofs.YtljaoofbklkglaaGreatDoor.Vo
