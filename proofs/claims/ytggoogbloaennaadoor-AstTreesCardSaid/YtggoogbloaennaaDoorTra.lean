/-
  Proved here: plain functions that do what the program's functions do, each with its proof.
-/
import Derived.Test.YtggoogbloaennaaDoorTrf
namespace Go.Proofs.YtggoogbloaennaaDoor.Tr
open Go.EY Go.EX Go.SX Go.RowKit
def envE : List (Nat × AV) := [(3, (.iface 143 (.opq 0))), (4, (.iface 143 (.opq 1))), (5, (.iface 143 (.opq 2))), (6, (.iface 143 (.opq 3))), (7, (.iface 143 (.opq 4))), (8, (.iface 143 (.opq 5))), (9, (.iface 143 (.opq 6))), (2, (.iface 143 (.opq 7))), (10, (.iface 143 (.opq 8))), (0, (.iface 143 (.opq 9))), (11, (.iface 143 (.opq 10))), (12, (.iface 143 (.opq 11))), (1, (.iface 143 (.opq 12))), (13, (.iface 143 (.opq 13))), (14, (.iface 143 (.opq 14))), (15, (.iface 143 (.opq 15))), (16, (.iface 143 (.opq 16)))]
noncomputable def bld27 (ps : List (Nat × AV)) : Option AV := (placesA Tryd.prog 27).bind fun q => (fillA q.2 (q.1.map .lit) ps).map .agg
noncomputable def bld35 (ps : List (Nat × AV)) : Option AV := (placesA Tryd.prog 35).bind fun q => (fillA q.2 (q.1.map .lit) ps).map .agg
noncomputable def bld63 (ps : List (Nat × AV)) : Option AV := (placesA Tryd.prog 63).bind fun q => (fillA q.2 (q.1.map .lit) ps).map .agg
noncomputable def bld68 (ps : List (Nat × AV)) : Option AV := (placesA Tryd.prog 68).bind fun q => (fillA q.2 (q.1.map .lit) ps).map .agg
noncomputable def g34_k3 (ro : List HT) (lp1 : AV → AV → AV → AV → AV → AV → HT → Nat → R) (y1 y2 y6 y8 y9 y10 y11 y27 : AV) (T3 : HT) (n3 : Nat) : R :=
 condK 340014 y27
 (
  .ok (.val (.lit (.bool false))) T3 n3
 )
 (
  iaK 340018 y2 y8 1 fun x30_6 =>
  stK 340019 T3 x30_6 (.lit (.bool true)) fun T4 =>
  addK Tryd.prog 3 (.tmp 11) (.const (.int .i64 (.ofNat 1))) 340020 y11 (.lit (.int .i64 (.ofNat 1))) fun x31_7 =>
  lp1 y1 y2 y6 y9 y10 x31_7 T4 n3
 )
noncomputable def g34_k2 (ro : List HT) (lp1 : AV → AV → AV → AV → AV → AV → HT → Nat → R) (y1 y2 y6 y8 y9 y10 y11 y21 : AV) (T2 : HT) (n2 : Nat) : R :=
 condK 340022 y21
 (
  g34_k3 ro lp1 y1 y2 y6 y8 y9 y10 y11 (.lit (.bool true)) T2 n2
 )
 (
  iaK 340026 y2 y8 1 fun x25_8 =>
  ldK 340027 T2 ro x25_8 fun x26_9 =>
  g34_k3 ro lp1 y1 y2 y6 y8 y9 y10 y11 x26_9 T2 n2
 )
noncomputable def g34_b1 (ro : List HT) (lp1 : AV → AV → AV → AV → AV → AV → HT → Nat → R) (y1 y2 y6 y9 y10 y11 : AV) (T1 : HT) (n1 : Nat) : R :=
 ltK Tryd.prog 3 (.tmp 11) (.tmp 10) 340005 y11 y10 fun x12_2 =>
 condK 340006 x12_2
 (
  iaK 340007 y9 y11 1 fun x13_3 =>
  ldK 340008 T1 ro x13_3 fun x14_4 =>
  ltK Tryd.prog 3 (.tmp 15) (.const (.int .i64 (.ofNat 0))) 340011 x14_4 (.lit (.int .i64 (.ofNat 0))) fun x16_5 =>
  condK 340029 x16_5
  (
   g34_k2 ro lp1 y1 y2 y6 x14_4 y9 y10 y11 (.lit (.bool true)) T1 n1
  )
  (
   geK Tryd.prog 3 (.tmp 18) (.tmp 19) 340033 x14_4 y1 fun x20_10 =>
   g34_k2 ro lp1 y1 y2 y6 x14_4 y9 y10 y11 x20_10 T1 n1
  )
 )
 (
  .ok (.val (.lit (.bool true))) T1 n1
 )
noncomputable def g34_l1 (ro : List HT) (fuel : Nat) : AV → AV → AV → AV → AV → AV → HT → Nat → R :=
  Nat.rec (motive := fun _ => AV → AV → AV → AV → AV → AV → HT → Nat → R) (fun _ _ _ _ _ _ _ _ => .bad 340036) (fun _ lp => g34_b1 ro lp) fuel
noncomputable def g34 (ro : List HT) (a0 a1 a2 : AV) (T : HT) (nx : Nat) : R :=
 lenSK 340003 a0 fun x10_1 =>
 g34_l1 ro 100000 a1 a2 (.lit (.bool false)) a0 x10_1 (.lit (.int .i64 (.ofNat 0))) T nx
theorem g34_ok (ro : List HT) (a0 a1 a2 : AV) (T : HT) (nx : Nat) : GOk Tryd.prog envE 34 [a0, a1, a2] ro T nx (g34 ro a0 a1 a2 T nx) := by
 refine GOk.of_body Tryd.func34 rfl Tryd.ntmps34 (by kernel_rfl) rfl fun r T' n' h1 w0 base ρ0 its hS hP => ?_
 unfold g34 at h1
 refine CV.sub [(0, a0), (1, a1), (2, a2)] ⟨rfl, rfl, rfl, trivial⟩ ?_
 refine CV.seq ?_
 refine CV.region ?_
 refine LV.step (VAL.assign rfl) rfl rfl rfl ?_
 refine LV.done ?_
 refine PV.sub [(0, a0), (1, a1), (2, a2), (6, (.lit (.bool false)))] ⟨rfl, rfl, rfl, rfl, trivial⟩ ?_
 refine PV.thenN ?_
 refine CV.seq ?_
 refine CV.seq ?_
 refine CV.region ?_
 refine LV.step (VAL.move rfl) rfl rfl rfl ?_
 refine LV.by (V.lenS h1 rfl Trf.ls25) rfl rfl rfl fun x10_1 h2 => ?_
 refine LV.step (VAL.move rfl) rfl rfl rfl ?_
 refine LV.done ?_
 refine PV.sub [(1, a1), (2, a2), (6, (.lit (.bool false))), (9, a0), (10, x10_1), (11, (.lit (.int .i64 (.ofNat 0))))] ⟨rfl, rfl, rfl, rfl, rfl, rfl, trivial⟩ ?_
 refine PV.thenN ?_
 refine CV.block ?_
 refine CV.loop (E := envE) (ro := ro) (ρ0 := ρ0) (τ := AV × AV × AV × AV × AV × AV × HT × Nat) (fun t => [(1, t.1), (2, t.2.1), (6, t.2.2.1), (9, t.2.2.2.1), (10, t.2.2.2.2.1), (11, t.2.2.2.2.2.1)]) (fun t => t.2.2.2.2.2.2.1) (fun t => t.2.2.2.2.2.2.2) (fun f t => g34_l1 ro f t.1 t.2.1 t.2.2.1 t.2.2.2.1 t.2.2.2.2.1 t.2.2.2.2.2.1 t.2.2.2.2.2.2.1 t.2.2.2.2.2.2.2 = .ok r T' n') 100000 (a1, a2, (.lit (.bool false)), a0, x10_1, (.lit (.int .i64 (.ofNat 0))), T, nx) hS h2 ⟨rfl, rfl, rfl, rfl, rfl, rfl, trivial⟩ ?_
 rintro (_ | f1) ⟨y1, y2, y6, y9, y10, y11, T1, n1⟩ ρ its hQ h3
 · cases h3
 have hS : EY.ST w0 base envE ρ0 ρ T1 ro n1 its := hQ
 clear hQ
 change CV _ _ _ _ _ _ _ _ [(1, y1), (2, y2), (6, y6), (9, y9), (10, y10), (11, y11)] _
 have h4 : g34_b1 ro (g34_l1 ro f1) y1 y2 y6 y9 y10 y11 T1 n1 = .ok r T' n' := h3
 unfold g34_b1 at h4
 clear h1 h2 h3
 refine CV.seq ?_
 refine CV.region ?_
 refine LV.by (V.lt h4 rfl rfl) rfl rfl rfl fun x12_2 h5 => ?_
 refine LV.done ?_
 refine PV.sub [(1, y1), (2, y2), (6, y6), (9, y9), (10, y10), (11, y11), (12, x12_2)] ⟨rfl, rfl, rfl, rfl, rfl, rfl, rfl, trivial⟩ ?_
 refine PV.thenN ?_
 refine CV.seq ?_
 refine CV.cond h5 rfl (fun e h6 => ?_) (fun e h6 => ?_)
 ·
  clear h4 h5
  subst e
  refine CV.skip ?_
  refine PV.thenN ?_
  refine CV.seq ?_
  refine CV.block ?_
  refine CV.seq ?_
  refine CV.region ?_
  refine LV.by (V.ia h6 rfl rfl Trf.el25) rfl rfl rfl fun x13_3 h7 => ?_
  refine LV.by (V.ld hS h7 rfl Trf.one3) rfl rfl rfl fun x14_4 h8 => ?_
  refine LV.step (VAL.assign rfl) rfl rfl rfl ?_
  refine LV.done ?_
  refine PV.sub [(1, y1), (2, y2), (6, y6), (8, x14_4), (9, y9), (10, y10), (11, y11)] ⟨rfl, rfl, rfl, rfl, rfl, rfl, rfl, trivial⟩ ?_
  refine PV.thenN ?_
  refine CV.seq ?_
  refine CV.seq ?_
  refine CV.region ?_
  refine LV.step (VAL.move rfl) rfl rfl rfl ?_
  refine LV.by (V.lt h8 rfl rfl) rfl rfl rfl fun x16_5 h9 => ?_
  refine LV.step (VAL.move rfl) rfl rfl rfl ?_
  refine LV.seam (E := envE) (ro := ro) (ρ0 := ρ0) (τ := AV × AV × AV × AV × AV × AV × AV × AV × HT × Nat) (fun t => [(1, t.1), (2, t.2.1), (6, t.2.2.1), (8, t.2.2.2.1), (9, t.2.2.2.2.1), (10, t.2.2.2.2.2.1), (11, t.2.2.2.2.2.2.1), (21, t.2.2.2.2.2.2.2.1)]) (fun t => t.2.2.2.2.2.2.2.2.1) (fun t => t.2.2.2.2.2.2.2.2.2) (fun t => g34_k2 ro (g34_l1 ro f1)  t.1 t.2.1 t.2.2.1 t.2.2.2.1 t.2.2.2.2.1 t.2.2.2.2.2.1 t.2.2.2.2.2.2.1 t.2.2.2.2.2.2.2.1 t.2.2.2.2.2.2.2.2.1 t.2.2.2.2.2.2.2.2.2 = .ok r T' n') 4 ?_ ?_
  ·
   rcases condK_inv h9 with ⟨e, h21⟩ | ⟨e, h21⟩
   ·
    clear h6 h7 h8 h9
    subst e
    refine LV.skip rfl rfl rfl ?_
    refine LV.skip rfl rfl rfl ?_
    refine LV.skip rfl rfl rfl ?_
    refine LV.step (VAL.pure rfl) rfl rfl rfl ?_
    exact LV.atSeam (y1, y2, y6, x14_4, y9, y10, y11, (.lit (.bool true)), T1, n1) hS h21 ⟨rfl, rfl, rfl, rfl, rfl, rfl, rfl, rfl, trivial⟩
   ·
    clear h6 h7 h8 h9
    subst e
    refine LV.step (VAL.move rfl) rfl rfl rfl ?_
    refine LV.step (VAL.move rfl) rfl rfl rfl ?_
    refine LV.by (V.ge h21 rfl rfl) rfl rfl rfl fun x20_10 h22 => ?_
    refine LV.step (VAL.pure rfl) rfl rfl rfl ?_
    exact LV.atSeam (y1, y2, y6, x14_4, y9, y10, y11, x20_10, T1, n1) hS h22 ⟨rfl, rfl, rfl, rfl, rfl, rfl, rfl, rfl, trivial⟩
  ·
   rintro ⟨y1, y2, y6, y8, y9, y10, y11, y21, T2, n2⟩ ρ its hQ h10
   have hS : EY.ST w0 base envE ρ0 ρ T2 ro n2 its := hQ
   clear hQ
   change LV _ _ _ _ _ _ _ _ _ [(1, y1), (2, y2), (6, y6), (8, y8), (9, y9), (10, y10), (11, y11), (21, y21)] _
   have h11 : g34_k2 ro (g34_l1 ro f1) y1 y2 y6 y8 y9 y10 y11 y21 T2 n2 = .ok r T' n' := h10
   unfold g34_k2 at h11
   clear h6 h7 h8 h9 h10
   refine LV.step (VAL.move rfl) rfl rfl rfl ?_
   refine LV.seam (E := envE) (ro := ro) (ρ0 := ρ0) (τ := AV × AV × AV × AV × AV × AV × AV × AV × HT × Nat) (fun t => [(1, t.1), (2, t.2.1), (6, t.2.2.1), (8, t.2.2.2.1), (9, t.2.2.2.2.1), (10, t.2.2.2.2.2.1), (11, t.2.2.2.2.2.2.1), (27, t.2.2.2.2.2.2.2.1)]) (fun t => t.2.2.2.2.2.2.2.2.1) (fun t => t.2.2.2.2.2.2.2.2.2) (fun t => g34_k3 ro (g34_l1 ro f1)  t.1 t.2.1 t.2.2.1 t.2.2.2.1 t.2.2.2.2.1 t.2.2.2.2.2.1 t.2.2.2.2.2.2.1 t.2.2.2.2.2.2.2.1 t.2.2.2.2.2.2.2.2.1 t.2.2.2.2.2.2.2.2.2 = .ok r T' n') 5 ?_ ?_
   ·
    rcases condK_inv h11 with ⟨e, h18⟩ | ⟨e, h18⟩
    ·
     clear h11
     subst e
     refine LV.skip rfl rfl rfl ?_
     refine LV.skip rfl rfl rfl ?_
     refine LV.skip rfl rfl rfl ?_
     refine LV.skip rfl rfl rfl ?_
     refine LV.step (VAL.pure rfl) rfl rfl rfl ?_
     exact LV.atSeam (y1, y2, y6, y8, y9, y10, y11, (.lit (.bool true)), T2, n2) hS h18 ⟨rfl, rfl, rfl, rfl, rfl, rfl, rfl, rfl, trivial⟩
    ·
     clear h11
     subst e
     refine LV.step (VAL.move rfl) rfl rfl rfl ?_
     refine LV.step (VAL.move rfl) rfl rfl rfl ?_
     refine LV.by (V.ia h18 rfl rfl Trf.el61) rfl rfl rfl fun x25_8 h19 => ?_
     refine LV.by (V.ld hS h19 rfl Trf.one4) rfl rfl rfl fun x26_9 h20 => ?_
     refine LV.step (VAL.pure rfl) rfl rfl rfl ?_
     exact LV.atSeam (y1, y2, y6, y8, y9, y10, y11, x26_9, T2, n2) hS h20 ⟨rfl, rfl, rfl, rfl, rfl, rfl, rfl, rfl, trivial⟩
   ·
    rintro ⟨y1, y2, y6, y8, y9, y10, y11, y27, T3, n3⟩ ρ its hQ h12
    have hS : EY.ST w0 base envE ρ0 ρ T3 ro n3 its := hQ
    clear hQ
    change LV _ _ _ _ _ _ _ _ _ [(1, y1), (2, y2), (6, y6), (8, y8), (9, y9), (10, y10), (11, y11), (27, y27)] _
    have h13 : g34_k3 ro (g34_l1 ro f1) y1 y2 y6 y8 y9 y10 y11 y27 T3 n3 = .ok r T' n' := h12
    unfold g34_k3 at h13
    clear h11 h12
    refine LV.done ?_
    refine PV.sub [(1, y1), (2, y2), (6, y6), (8, y8), (9, y9), (10, y10), (11, y11), (27, y27)] ⟨rfl, rfl, rfl, rfl, rfl, rfl, rfl, rfl, trivial⟩ ?_
    refine PV.thenN ?_
    refine CV.cond h13 rfl (fun e h14 => ?_) (fun e h14 => ?_)
    ·
     clear h13
     subst e
     refine CV.seq ?_
     refine CV.region ?_
     refine LV.step (VAL.assign rfl) rfl rfl rfl ?_
     refine LV.done ?_
     refine PV.sub [(1, y1), (2, y2), (6, (.lit (.bool false))), (8, y8), (9, y9), (10, y10), (11, y11)] ⟨rfl, rfl, rfl, rfl, rfl, rfl, rfl, trivial⟩ ?_
     refine PV.thenN ?_
     refine CV.ret ?_
     refine PV.thenR ?_
     refine PV.blockR ?_
     refine PV.thenR ?_
     refine PV.thenR ?_
     refine PV.blockR ?_
     refine PV.thenR ?_
     cases h14
     exact PV.ret (by simp) Tryd.results34 hS (RS.tmp rfl RS.nil) rfl
    ·
     clear h13
     subst e
     refine CV.skip ?_
     refine PV.thenN ?_
     refine CV.region ?_
     refine LV.step (VAL.move rfl) rfl rfl rfl ?_
     refine LV.step (VAL.move rfl) rfl rfl rfl ?_
     refine LV.by (V.ia h14 rfl rfl Trf.el61) rfl rfl rfl fun x30_6 h15 => ?_
     refine LV.st hS h15 rfl rfl rfl Trf.siz4 rfl rfl fun T4 its h16 hS => ?_
     refine LV.done ?_
     refine PV.sub [(1, y1), (2, y2), (6, y6), (9, y9), (10, y10), (11, y11)] ⟨rfl, rfl, rfl, rfl, rfl, rfl, trivial⟩ ?_
     refine PV.blockN ?_
     refine PV.thenN ?_
     refine CV.region ?_
     refine LV.by (V.add h16 rfl rfl) rfl rfl rfl fun x31_7 h17 => ?_
     refine LV.step (VAL.move rfl) rfl rfl rfl ?_
     refine LV.done ?_
     refine PV.sub [(1, y1), (2, y2), (6, y6), (9, y9), (10, y10), (11, x31_7)] ⟨rfl, rfl, rfl, rfl, rfl, rfl, trivial⟩ ?_
     exact PV.atSeam (τ := Nat × AV × AV × AV × AV × AV × AV × HT × Nat) (f1, y1, y2, y6, y9, y10, x31_7, T4, n3) hS ⟨Nat.lt_succ_self _, h17⟩ ⟨rfl, rfl, rfl, rfl, rfl, rfl, trivial⟩
 ·
  clear h4 h5
  subst e
  refine CV.exit ?_
  refine PV.thenE ?_
  refine PV.thenE ?_
  refine PV.blockE ?_
  refine PV.thenN ?_
  refine CV.seq ?_
  refine CV.region ?_
  refine LV.step (VAL.assign rfl) rfl rfl rfl ?_
  refine LV.done ?_
  refine PV.sub [(6, (.lit (.bool true)))] ⟨rfl, trivial⟩ ?_
  refine PV.thenN ?_
  refine CV.ret ?_
  cases h6
  exact PV.ret (by simp) Tryd.results34 hS (RS.tmp rfl RS.nil) rfl
noncomputable def g67_b1 (ro : List HT) (lp1 : AV → AV → AV → AV → AV → HT → Nat → R) (y0 y1 y4 y7 y8 : AV) (T1 : HT) (n1 : Nat) : R :=
 ltK Tryd.prog 3 (.tmp 8) (.tmp 7) 670005 y8 y7 fun x9_2 =>
 condK 670006 x9_2
 (
  iaK 670012 y0 y8 1 fun x14_3 =>
  ldK 670013 T1 ro x14_3 fun x15_4 =>
  bin0 Tryd.prog .eql 4 (.tmp 11) (.tmp 15) 670014 y1 x15_4 fun x16_5 =>
  condK 670015 x16_5
  (
   .ok (.val y8) T1 n1
  )
  (
   addK Tryd.prog 3 (.tmp 8) (.const (.int .i64 (.ofNat 1))) 670018 y8 (.lit (.int .i64 (.ofNat 1))) fun x18_6 =>
   lp1 y0 y1 y4 y7 x18_6 T1 n1
  )
 )
 (
  .ok (.val (.lit (.int .i64 (.negSucc 0)))) T1 n1
 )
noncomputable def g67_l1 (ro : List HT) (fuel : Nat) : AV → AV → AV → AV → AV → HT → Nat → R :=
  Nat.rec (motive := fun _ => AV → AV → AV → AV → AV → HT → Nat → R) (fun _ _ _ _ _ _ _ => .bad 670021) (fun _ lp => g67_b1 ro lp) fuel
noncomputable def g67 (ro : List HT) (a0 a1 : AV) (T : HT) (nx : Nat) : R :=
 lenSK 670003 a0 fun x7_1 =>
 g67_l1 ro 100000 a0 a1 (.lit (.int .i64 (.ofNat 0))) x7_1 (.lit (.int .i64 (.ofNat 0))) T nx
theorem g67_ok (ro : List HT) (a0 a1 : AV) (T : HT) (nx : Nat) : GOk Tryd.prog envE 67 [a0, a1] ro T nx (g67 ro a0 a1 T nx) := by
 refine GOk.of_body Tryd.func67 rfl Tryd.ntmps67 (by kernel_rfl) rfl fun r T' n' h1 w0 base ρ0 its hS hP => ?_
 unfold g67 at h1
 refine CV.sub [(0, a0), (1, a1)] ⟨rfl, rfl, trivial⟩ ?_
 refine CV.seq ?_
 refine CV.region ?_
 refine LV.step (VAL.assign rfl) rfl rfl rfl ?_
 refine LV.done ?_
 refine PV.sub [(0, a0), (1, a1), (4, (.lit (.int .i64 (.ofNat 0))))] ⟨rfl, rfl, rfl, trivial⟩ ?_
 refine PV.thenN ?_
 refine CV.seq ?_
 refine CV.seq ?_
 refine CV.region ?_
 refine LV.step (VAL.move rfl) rfl rfl rfl ?_
 refine LV.by (V.lenS h1 rfl Trf.ls61) rfl rfl rfl fun x7_1 h2 => ?_
 refine LV.step (VAL.move rfl) rfl rfl rfl ?_
 refine LV.done ?_
 refine PV.sub [(0, a0), (1, a1), (4, (.lit (.int .i64 (.ofNat 0)))), (7, x7_1), (8, (.lit (.int .i64 (.ofNat 0))))] ⟨rfl, rfl, rfl, rfl, rfl, trivial⟩ ?_
 refine PV.thenN ?_
 refine CV.block ?_
 refine CV.loop (E := envE) (ro := ro) (ρ0 := ρ0) (τ := AV × AV × AV × AV × AV × HT × Nat) (fun t => [(0, t.1), (1, t.2.1), (4, t.2.2.1), (7, t.2.2.2.1), (8, t.2.2.2.2.1)]) (fun t => t.2.2.2.2.2.1) (fun t => t.2.2.2.2.2.2) (fun f t => g67_l1 ro f t.1 t.2.1 t.2.2.1 t.2.2.2.1 t.2.2.2.2.1 t.2.2.2.2.2.1 t.2.2.2.2.2.2 = .ok r T' n') 100000 (a0, a1, (.lit (.int .i64 (.ofNat 0))), x7_1, (.lit (.int .i64 (.ofNat 0))), T, nx) hS h2 ⟨rfl, rfl, rfl, rfl, rfl, trivial⟩ ?_
 rintro (_ | f1) ⟨y0, y1, y4, y7, y8, T1, n1⟩ ρ its hQ h3
 · cases h3
 have hS : EY.ST w0 base envE ρ0 ρ T1 ro n1 its := hQ
 clear hQ
 change CV _ _ _ _ _ _ _ _ [(0, y0), (1, y1), (4, y4), (7, y7), (8, y8)] _
 have h4 : g67_b1 ro (g67_l1 ro f1) y0 y1 y4 y7 y8 T1 n1 = .ok r T' n' := h3
 unfold g67_b1 at h4
 clear h1 h2 h3
 refine CV.seq ?_
 refine CV.region ?_
 refine LV.by (V.lt h4 rfl rfl) rfl rfl rfl fun x9_2 h5 => ?_
 refine LV.done ?_
 refine PV.sub [(0, y0), (1, y1), (4, y4), (7, y7), (8, y8), (9, x9_2)] ⟨rfl, rfl, rfl, rfl, rfl, rfl, trivial⟩ ?_
 refine PV.thenN ?_
 refine CV.seq ?_
 refine CV.cond h5 rfl (fun e h6 => ?_) (fun e h6 => ?_)
 ·
  clear h4 h5
  subst e
  refine CV.skip ?_
  refine PV.thenN ?_
  refine CV.seq ?_
  refine CV.block ?_
  refine CV.seq ?_
  refine CV.region ?_
  refine LV.step (VAL.move rfl) rfl rfl rfl ?_
  refine LV.step (VAL.assign rfl) rfl rfl rfl ?_
  refine LV.done ?_
  refine PV.sub [(0, y0), (1, y1), (4, y4), (5, y8), (7, y7), (8, y8)] ⟨rfl, rfl, rfl, rfl, rfl, rfl, trivial⟩ ?_
  refine PV.thenN ?_
  refine CV.seq ?_
  refine CV.region ?_
  refine LV.step (VAL.move rfl) rfl rfl rfl ?_
  refine LV.step (VAL.move rfl) rfl rfl rfl ?_
  refine LV.step (VAL.move rfl) rfl rfl rfl ?_
  refine LV.by (V.ia h6 rfl rfl Trf.el61) rfl rfl rfl fun x14_3 h7 => ?_
  refine LV.by (V.ld hS h7 rfl Trf.one4) rfl rfl rfl fun x15_4 h8 => ?_
  refine LV.by (V.bin0 h8 rfl rfl) rfl rfl rfl fun x16_5 h9 => ?_
  refine LV.done ?_
  refine PV.sub [(0, y0), (1, y1), (4, y4), (5, y8), (7, y7), (8, y8), (16, x16_5)] ⟨rfl, rfl, rfl, rfl, rfl, rfl, rfl, trivial⟩ ?_
  refine PV.thenN ?_
  refine CV.cond h9 rfl (fun e h10 => ?_) (fun e h10 => ?_)
  ·
   clear h6 h7 h8 h9
   subst e
   refine CV.seq ?_
   refine CV.region ?_
   refine LV.step (VAL.move rfl) rfl rfl rfl ?_
   refine LV.step (VAL.assign rfl) rfl rfl rfl ?_
   refine LV.done ?_
   refine PV.sub [(0, y0), (1, y1), (4, y8), (7, y7), (8, y8)] ⟨rfl, rfl, rfl, rfl, rfl, trivial⟩ ?_
   refine PV.thenN ?_
   refine CV.ret ?_
   refine PV.blockR ?_
   refine PV.thenR ?_
   refine PV.thenR ?_
   refine PV.blockR ?_
   refine PV.thenR ?_
   cases h10
   exact PV.ret (by simp) Tryd.results67 hS (RS.tmp rfl RS.nil) rfl
  ·
   clear h6 h7 h8 h9
   subst e
   refine CV.skip ?_
   refine PV.blockN ?_
   refine PV.thenN ?_
   refine CV.region ?_
   refine LV.by (V.add h10 rfl rfl) rfl rfl rfl fun x18_6 h11 => ?_
   refine LV.step (VAL.move rfl) rfl rfl rfl ?_
   refine LV.done ?_
   refine PV.sub [(0, y0), (1, y1), (4, y4), (7, y7), (8, x18_6)] ⟨rfl, rfl, rfl, rfl, rfl, trivial⟩ ?_
   exact PV.atSeam (τ := Nat × AV × AV × AV × AV × AV × HT × Nat) (f1, y0, y1, y4, y7, x18_6, T1, n1) hS ⟨Nat.lt_succ_self _, h11⟩ ⟨rfl, rfl, rfl, rfl, rfl, trivial⟩
 ·
  clear h4 h5
  subst e
  refine CV.exit ?_
  refine PV.thenE ?_
  refine PV.thenE ?_
  refine PV.blockE ?_
  refine PV.thenN ?_
  refine CV.seq ?_
  refine CV.region ?_
  refine LV.step (VAL.assign rfl) rfl rfl rfl ?_
  refine LV.done ?_
  refine PV.sub [(4, (.lit (.int .i64 (.negSucc 0))))] ⟨rfl, trivial⟩ ?_
  refine PV.thenN ?_
  refine CV.ret ?_
  cases h6
  exact PV.ret (by simp) Tryd.results67 hS (RS.tmp rfl RS.nil) rfl
noncomputable def g36 (ro : List HT) (a0 a1 : AV) (T : HT) (nx : Nat) : R :=
 callK (g67 ro a0 a1 T nx) fun x7_1 T1 n1 =>
 geK Tryd.prog 3 (.tmp 7) (.const (.int .i64 (.ofNat 0))) 360005 x7_1 (.lit (.int .i64 (.ofNat 0))) fun x8_2 =>
 .ok (.val x8_2) T1 n1
theorem g36_ok (ro : List HT) (a0 a1 : AV) (T : HT) (nx : Nat) : GOk Tryd.prog envE 36 [a0, a1] ro T nx (g36 ro a0 a1 T nx) := by
 refine GOk.of_body Tryd.func36 rfl Tryd.ntmps36 (by kernel_rfl) rfl fun r T' n' h1 w0 base ρ0 its hS hP => ?_
 unfold g36 at h1
 refine CV.sub [(0, a0), (1, a1)] ⟨rfl, rfl, trivial⟩ ?_
 refine CV.seq ?_
 refine CV.region ?_
 refine LV.step (VAL.assign rfl) rfl rfl rfl ?_
 refine LV.done ?_
 refine PV.sub [(0, a0), (1, a1), (4, (.lit (.bool false)))] ⟨rfl, rfl, rfl, trivial⟩ ?_
 refine PV.thenN ?_
 refine CV.seq ?_
 refine CV.region ?_
 refine LV.step (VAL.move rfl) rfl rfl rfl ?_
 refine LV.step (VAL.move rfl) rfl rfl rfl ?_
 refine LV.call hS h1 (g67_ok _ _ _ _ _ ) hP rfl rfl rfl rfl fun x7_1 T1 n1 h2 ρ its hS => ?_
 refine LV.by (V.ge h2 rfl rfl) rfl rfl rfl fun x8_2 h3 => ?_
 refine LV.step (VAL.assign rfl) rfl rfl rfl ?_
 refine LV.done ?_
 refine PV.sub [(4, x8_2)] ⟨rfl, trivial⟩ ?_
 refine PV.thenN ?_
 refine CV.ret ?_
 cases h3
 exact PV.ret (by simp) Tryd.results36 hS (RS.tmp rfl RS.nil) rfl
noncomputable def g38_k2 (ro : List HT) (y2 y34 : AV) (T6 : HT) (n6 : Nat) : R :=
 .ok (.val y34) T6 n6
noncomputable def g38_b1 (ro : List HT) (lp1 : AV → AV → AV → AV → AV → AV → HT → Nat → R) (y0 y2 y3 y9 y10 y11 : AV) (T2 : HT) (n2 : Nat) : R :=
 ltK Tryd.prog 3 (.tmp 11) (.tmp 10) 380009 y11 y10 fun x12_4 =>
 condK 380010 x12_4
 (
  iaK 380012 y9 y11 5 fun x14_5 =>
  ldAK 380013 T2 ro x14_5 5 fun x15_6 =>
  newK T2 n2 (.obj [.lit (.int .i64 0), .lit (.int .i64 0), .lit (.int .i64 0), .lit (.string ⟨#[]⟩), .lit (.slice none 0 0)] 27) fun x5_7 T3 n3 =>
  stAK 380016 T3 x5_7 x15_6 5 fun T4 =>
  faK 380017 x5_7 4 fun x16_8 =>
  ldK 380018 T4 ro x16_8 fun x17_9 =>
  callK (g34 ro x17_9 y11 y3 T4 n3) fun x20_10 T5 n5 =>
  notK 380022 x20_10 fun x21_11 =>
  condK 380023 x21_11
  (
   .ok (.val (.lit (.bool false))) T5 n5
  )
  (
   addK Tryd.prog 3 (.tmp 11) (.const (.int .i64 (.ofNat 1))) 380025 y11 (.lit (.int .i64 (.ofNat 1))) fun x22_12 =>
   lp1 y0 y2 y3 y9 y10 x22_12 T5 n5
  )
 )
 (
  lenSK 380028 y0 fun x24_13 =>
  gtK Tryd.prog 3 (.tmp 24) (.const (.int .i64 (.ofNat 0))) 380029 x24_13 (.lit (.int .i64 (.ofNat 0))) fun x25_14 =>
  condK 380032 x25_14
  (
   lenSK 380035 y0 fun x29_15 =>
   subK Tryd.prog 3 (.tmp 29) (.const (.int .i64 (.ofNat 1))) 380036 x29_15 (.lit (.int .i64 (.ofNat 1))) fun x30_16 =>
   cutHiK 380037 T2 ro y3 x30_16 fun x31_17 =>
   callK (g36 ro x31_17 (.lit (.bool false)) T2 n2) fun x32_18 T7 n7 =>
   notK 380039 x32_18 fun x33_19 =>
   g38_k2 ro y2 x33_19 T7 n7
  )
  (
   g38_k2 ro y2 (.lit (.bool false)) T2 n2
  )
 )
noncomputable def g38_l1 (ro : List HT) (fuel : Nat) : AV → AV → AV → AV → AV → AV → HT → Nat → R :=
  Nat.rec (motive := fun _ => AV → AV → AV → AV → AV → AV → HT → Nat → R) (fun _ _ _ _ _ _ _ _ => .bad 380042) (fun _ lp => g38_b1 ro lp) fuel
noncomputable def g38 (ro : List HT) (a0 : AV) (T : HT) (nx : Nat) : R :=
 lenSK 380003 a0 fun x7_1 =>
 mkK 380004 T nx 4 1 (.lit (.bool false)) x7_1 fun x8_2 T1 n1 =>
 lenSK 380007 a0 fun x10_3 =>
 g38_l1 ro 100000 a0 (.lit (.bool false)) x8_2 a0 x10_3 (.lit (.int .i64 (.ofNat 0))) T1 n1
theorem g38_ok (ro : List HT) (a0 : AV) (T : HT) (nx : Nat) : GOk Tryd.prog envE 38 [a0] ro T nx (g38 ro a0 T nx) := by
 refine GOk.of_body Tryd.func38 rfl Tryd.ntmps38 (by kernel_rfl) rfl fun r T' n' h1 w0 base ρ0 its hS hP => ?_
 unfold g38 at h1
 refine CV.sub [(0, a0)] ⟨rfl, trivial⟩ ?_
 refine CV.seq ?_
 refine CV.region ?_
 refine LV.step (VAL.assign rfl) rfl rfl rfl ?_
 refine LV.done ?_
 refine PV.sub [(0, a0), (2, (.lit (.bool false)))] ⟨rfl, rfl, trivial⟩ ?_
 refine PV.thenN ?_
 refine CV.seq ?_
 refine CV.region ?_
 refine LV.step (VAL.move rfl) rfl rfl rfl ?_
 refine LV.by (V.lenS h1 rfl Trf.ls24) rfl rfl rfl fun x7_1 h2 => ?_
 refine LV.mk hS h2 rfl rfl rfl Trf.el61 rfl rfl rfl rfl fun x8_2 T1 n1 h3 ρ its hS hdr => ?_
 refine LV.step (VAL.assign rfl) rfl rfl rfl ?_
 refine LV.done ?_
 refine PV.sub [(0, a0), (2, (.lit (.bool false))), (3, x8_2)] ⟨rfl, rfl, rfl, trivial⟩ ?_
 refine PV.thenN ?_
 refine CV.seq ?_
 refine CV.seq ?_
 refine CV.region ?_
 refine LV.step (VAL.move rfl) rfl rfl rfl ?_
 refine LV.by (V.lenS h3 rfl Trf.ls24) rfl rfl rfl fun x10_3 h4 => ?_
 refine LV.step (VAL.move rfl) rfl rfl rfl ?_
 refine LV.done ?_
 refine PV.sub [(0, a0), (2, (.lit (.bool false))), (3, x8_2), (9, a0), (10, x10_3), (11, (.lit (.int .i64 (.ofNat 0))))] ⟨rfl, rfl, rfl, rfl, rfl, rfl, trivial⟩ ?_
 refine PV.thenN ?_
 refine CV.block ?_
 refine CV.loop (E := envE) (ro := ro) (ρ0 := ρ0) (τ := AV × AV × AV × AV × AV × AV × HT × Nat) (fun t => [(0, t.1), (2, t.2.1), (3, t.2.2.1), (9, t.2.2.2.1), (10, t.2.2.2.2.1), (11, t.2.2.2.2.2.1)]) (fun t => t.2.2.2.2.2.2.1) (fun t => t.2.2.2.2.2.2.2) (fun f t => g38_l1 ro f t.1 t.2.1 t.2.2.1 t.2.2.2.1 t.2.2.2.2.1 t.2.2.2.2.2.1 t.2.2.2.2.2.2.1 t.2.2.2.2.2.2.2 = .ok r T' n') 100000 (a0, (.lit (.bool false)), x8_2, a0, x10_3, (.lit (.int .i64 (.ofNat 0))), T1, n1) hS h4 ⟨rfl, rfl, rfl, rfl, rfl, rfl, trivial⟩ ?_
 rintro (_ | f1) ⟨y0, y2, y3, y9, y10, y11, T2, n2⟩ ρ its hQ h5
 · cases h5
 have hS : EY.ST w0 base envE ρ0 ρ T2 ro n2 its := hQ
 clear hQ
 change CV _ _ _ _ _ _ _ _ [(0, y0), (2, y2), (3, y3), (9, y9), (10, y10), (11, y11)] _
 have h6 : g38_b1 ro (g38_l1 ro f1) y0 y2 y3 y9 y10 y11 T2 n2 = .ok r T' n' := h5
 unfold g38_b1 at h6
 clear h1 h2 h3 h4 h5
 refine CV.seq ?_
 refine CV.region ?_
 refine LV.by (V.lt h6 rfl rfl) rfl rfl rfl fun x12_4 h7 => ?_
 refine LV.done ?_
 refine PV.sub [(0, y0), (2, y2), (3, y3), (9, y9), (10, y10), (11, y11), (12, x12_4)] ⟨rfl, rfl, rfl, rfl, rfl, rfl, rfl, trivial⟩ ?_
 refine PV.thenN ?_
 refine CV.seq ?_
 refine CV.cond h7 rfl (fun e h8 => ?_) (fun e h8 => ?_)
 ·
  clear h6 h7
  subst e
  refine CV.skip ?_
  refine PV.thenN ?_
  refine CV.seq ?_
  refine CV.block ?_
  refine CV.seq ?_
  refine CV.region ?_
  refine LV.step (VAL.move rfl) rfl rfl rfl ?_
  refine LV.by (V.ia h8 rfl rfl Trf.el24) rfl rfl rfl fun x14_5 h9 => ?_
  refine LV.by (V.ldA hS h9 rfl Trf.agg27) rfl rfl rfl fun x15_6 h10 => ?_
  refine LV.alloc hS h10 rfl Trf.zr27 rfl rfl rfl fun x5_7 T3 n3 h11 ρ its hS hdr => ?_
  refine LV.step (VAL.assign rfl) rfl rfl rfl ?_
  refine LV.stA hS h11 rfl rfl rfl Trf.agg27 rfl rfl rfl fun T4 its h12 hS => ?_
  refine LV.done ?_
  refine PV.sub [(0, y0), (2, y2), (3, y3), (4, y11), (5, x5_7), (9, y9), (10, y10), (11, y11)] ⟨rfl, rfl, rfl, rfl, rfl, rfl, rfl, rfl, trivial⟩ ?_
  refine PV.thenN ?_
  refine CV.seq ?_
  refine CV.region ?_
  refine LV.by (V.fa h12 rfl Trf.fo27_4) rfl rfl rfl fun x16_8 h13 => ?_
  refine LV.by (V.ld hS h13 rfl Trf.one25) rfl rfl rfl fun x17_9 h14 => ?_
  refine LV.step (VAL.move rfl) rfl rfl rfl ?_
  refine LV.step (VAL.move rfl) rfl rfl rfl ?_
  refine LV.call hS h14 (g34_ok _ _ _ _ _ _ ) hP rfl rfl rfl rfl fun x20_10 T5 n5 h15 ρ its hS => ?_
  refine LV.by (V.not h15 rfl) rfl rfl rfl fun x21_11 h16 => ?_
  refine LV.done ?_
  refine PV.sub [(0, y0), (2, y2), (3, y3), (9, y9), (10, y10), (11, y11), (21, x21_11)] ⟨rfl, rfl, rfl, rfl, rfl, rfl, rfl, trivial⟩ ?_
  refine PV.thenN ?_
  refine CV.cond h16 rfl (fun e h17 => ?_) (fun e h17 => ?_)
  ·
   clear h8 h9 h10 h11 h12 h13 h14 h15 h16
   subst e
   refine CV.seq ?_
   refine CV.region ?_
   refine LV.step (VAL.assign rfl) rfl rfl rfl ?_
   refine LV.done ?_
   refine PV.sub [(0, y0), (2, (.lit (.bool false))), (3, y3), (9, y9), (10, y10), (11, y11)] ⟨rfl, rfl, rfl, rfl, rfl, rfl, trivial⟩ ?_
   refine PV.thenN ?_
   refine CV.ret ?_
   refine PV.blockR ?_
   refine PV.thenR ?_
   refine PV.thenR ?_
   refine PV.blockR ?_
   refine PV.thenR ?_
   cases h17
   exact PV.ret (by simp) Tryd.results38 hS (RS.tmp rfl RS.nil) rfl
  ·
   clear h8 h9 h10 h11 h12 h13 h14 h15 h16
   subst e
   refine CV.skip ?_
   refine PV.blockN ?_
   refine PV.thenN ?_
   refine CV.region ?_
   refine LV.by (V.add h17 rfl rfl) rfl rfl rfl fun x22_12 h18 => ?_
   refine LV.step (VAL.move rfl) rfl rfl rfl ?_
   refine LV.done ?_
   refine PV.sub [(0, y0), (2, y2), (3, y3), (9, y9), (10, y10), (11, x22_12)] ⟨rfl, rfl, rfl, rfl, rfl, rfl, trivial⟩ ?_
   exact PV.atSeam (τ := Nat × AV × AV × AV × AV × AV × AV × HT × Nat) (f1, y0, y2, y3, y9, y10, x22_12, T5, n5) hS ⟨Nat.lt_succ_self _, h18⟩ ⟨rfl, rfl, rfl, rfl, rfl, rfl, trivial⟩
 ·
  clear h6 h7
  subst e
  refine CV.exit ?_
  refine PV.thenE ?_
  refine PV.thenE ?_
  refine PV.blockE ?_
  refine PV.thenN ?_
  refine CV.seq ?_
  refine CV.region ?_
  refine LV.step (VAL.move rfl) rfl rfl rfl ?_
  refine LV.by (V.lenS h8 rfl Trf.ls24) rfl rfl rfl fun x24_13 h19 => ?_
  refine LV.by (V.gt h19 rfl rfl) rfl rfl rfl fun x25_14 h20 => ?_
  refine LV.step (VAL.move rfl) rfl rfl rfl ?_
  refine LV.seam (E := envE) (ro := ro) (ρ0 := ρ0) (τ := AV × AV × HT × Nat) (fun t => [(2, t.1), (34, t.2.1)]) (fun t => t.2.2.1) (fun t => t.2.2.2) (fun t => g38_k2 ro  t.1 t.2.1 t.2.2.1 t.2.2.2 = .ok r T' n') 8 ?_ ?_
  ·
   rcases condK_inv h20 with ⟨e, h23⟩ | ⟨e, h23⟩
   ·
    clear h8 h19 h20
    subst e
    refine LV.step (VAL.move rfl) rfl rfl rfl ?_
    refine LV.step (VAL.move rfl) rfl rfl rfl ?_
    refine LV.by (V.lenS h23 rfl Trf.ls24) rfl rfl rfl fun x29_15 h24 => ?_
    refine LV.by (V.sub h24 rfl rfl) rfl rfl rfl fun x30_16 h25 => ?_
    refine LV.by (V.cutHi hS h25 rfl rfl Trf.el61) rfl rfl rfl fun x31_17 h26 => ?_
    refine LV.call hS h26 (g36_ok _ _ _ _ _ ) hP rfl rfl rfl rfl fun x32_18 T7 n7 h27 ρ its hS => ?_
    refine LV.by (V.not h27 rfl) rfl rfl rfl fun x33_19 h28 => ?_
    refine LV.step (VAL.pure rfl) rfl rfl rfl ?_
    exact LV.atSeam (y2, x33_19, T7, n7) hS h28 ⟨rfl, rfl, trivial⟩
   ·
    clear h8 h19 h20
    subst e
    refine LV.skip rfl rfl rfl ?_
    refine LV.skip rfl rfl rfl ?_
    refine LV.skip rfl rfl rfl ?_
    refine LV.skip rfl rfl rfl ?_
    refine LV.skip rfl rfl rfl ?_
    refine LV.skip rfl rfl rfl ?_
    refine LV.skip rfl rfl rfl ?_
    refine LV.step (VAL.pure rfl) rfl rfl rfl ?_
    exact LV.atSeam (y2, (.lit (.bool false)), T2, n2) hS h23 ⟨rfl, rfl, trivial⟩
  ·
   rintro ⟨y2, y34, T6, n6⟩ ρ its hQ h21
   have hS : EY.ST w0 base envE ρ0 ρ T6 ro n6 its := hQ
   clear hQ
   change LV _ _ _ _ _ _ _ _ _ [(2, y2), (34, y34)] _
   have h22 : g38_k2 ro y2 y34 T6 n6 = .ok r T' n' := h21
   unfold g38_k2 at h22
   clear h8 h19 h20 h21
   refine LV.step (VAL.assign rfl) rfl rfl rfl ?_
   refine LV.done ?_
   refine PV.sub [(2, y34)] ⟨rfl, trivial⟩ ?_
   refine PV.thenN ?_
   refine CV.ret ?_
   cases h22
   exact PV.ret (by simp) Tryd.results38 hS (RS.tmp rfl RS.nil) rfl
noncomputable def g15_b2 (ro : List HT) (lp1 : AV → AV → AV → AV → AV → AV → HT → Nat → R) (lp2 : AV → AV → AV → AV → AV → AV → AV → AV → AV → AV → HT → Nat → R) (y0 y2 y3 y4 y14 y15 y16 y22 y23 y24 : AV) (T6 : HT) (n6 : Nat) : R :=
 ltK Tryd.prog 3 (.tmp 24) (.tmp 23) 150026 y24 y23 fun x25_13 =>
 condK 150027 x25_13
 (
  iaK 150028 y22 y24 1 fun x26_14 =>
  ldK 150029 T6 ro x26_14 fun x27_15 =>
  iaK 150035 y3 y4 1 fun x32_16 =>
  ldK 150036 T6 ro x32_16 fun x33_17 =>
  iaK 150039 y3 x27_15 1 fun x36_18 =>
  ldK 150040 T6 ro x36_18 fun x37_19 =>
  optK 150041 (mmV x33_17 x37_19 true) fun x38_20 =>
  iaK 150042 y3 y4 1 fun x39_21 =>
  stK 150043 T6 x39_21 x38_20 fun T7 =>
  addK Tryd.prog 3 (.tmp 24) (.const (.int .i64 (.ofNat 1))) 150044 y24 (.lit (.int .i64 (.ofNat 1))) fun x40_22 =>
  lp2 y0 y2 y3 y4 y14 y15 y16 y22 y23 x40_22 T7 n6
 )
 (
  iaK 150048 y3 y4 1 fun x43_23 =>
  ldK 150049 T6 ro x43_23 fun x44_24 =>
  addK Tryd.prog 3 (.tmp 44) (.const (.int .i64 (.ofNat 1))) 150050 x44_24 (.lit (.int .i64 (.ofNat 1))) fun x45_25 =>
  iaK 150051 y3 y4 1 fun x46_26 =>
  stK 150052 T6 x46_26 x45_25 fun T8 =>
  addK Tryd.prog 3 (.tmp 16) (.const (.int .i64 (.ofNat 1))) 150053 y16 (.lit (.int .i64 (.ofNat 1))) fun x47_27 =>
  lp1 y0 y2 y3 y14 y15 x47_27 T8 n6
 )
noncomputable def g15_l2 (ro : List HT) (lp1 : AV → AV → AV → AV → AV → AV → HT → Nat → R) (fuel : Nat) : AV → AV → AV → AV → AV → AV → AV → AV → AV → AV → HT → Nat → R :=
  Nat.rec (motive := fun _ => AV → AV → AV → AV → AV → AV → AV → AV → AV → AV → HT → Nat → R) (fun _ _ _ _ _ _ _ _ _ _ _ _ => .bad 150055) (fun _ lp => g15_b2 ro lp1 lp) fuel
noncomputable def g15_b1 (ro : List HT) (lp1 : AV → AV → AV → AV → AV → AV → HT → Nat → R) (y0 y2 y3 y14 y15 y16 : AV) (T3 : HT) (n3 : Nat) : R :=
 ltK Tryd.prog 3 (.tmp 16) (.tmp 15) 150014 y16 y15 fun x17_6 =>
 condK 150015 x17_6
 (
  iaK 150017 y14 y16 5 fun x19_7 =>
  ldAK 150018 T3 ro x19_7 5 fun x20_8 =>
  newK T3 n3 (.obj [.lit (.int .i64 0), .lit (.int .i64 0), .lit (.int .i64 0), .lit (.string ⟨#[]⟩), .lit (.slice none 0 0)] 27) fun x5_9 T4 n4 =>
  stAK 150021 T4 x5_9 x20_8 5 fun T5 =>
  faK 150022 x5_9 4 fun x21_10 =>
  ldK 150023 T5 ro x21_10 fun x22_11 =>
  lenSK 150024 x22_11 fun x23_12 =>
  g15_l2 ro lp1 100000 y0 y2 y3 y16 y14 y15 y16 x22_11 x23_12 (.lit (.int .i64 (.ofNat 0))) T5 n4
 )
 (
  lenSK 150058 y0 fun x50_28 =>
  subK Tryd.prog 3 (.tmp 50) (.const (.int .i64 (.ofNat 1))) 150059 x50_28 (.lit (.int .i64 (.ofNat 1))) fun x51_29 =>
  iaK 150060 y3 x51_29 1 fun x52_30 =>
  ldK 150061 T3 ro x52_30 fun x53_31 =>
  .ok (.val x53_31) T3 n3
 )
noncomputable def g15_l1 (ro : List HT) (fuel : Nat) : AV → AV → AV → AV → AV → AV → HT → Nat → R :=
  Nat.rec (motive := fun _ => AV → AV → AV → AV → AV → AV → HT → Nat → R) (fun _ _ _ _ _ _ _ _ => .bad 150063) (fun _ lp => g15_b1 ro lp) fuel
noncomputable def g15 (ro : List HT) (a0 : AV) (T : HT) (nx : Nat) : R :=
 callK (g38 ro a0 T nx) fun x9_1 T1 n1 =>
 notK 150004 x9_1 fun x10_2 =>
 condK 150005 x10_2
 (
  .ok (.val (.lit (.int .i64 (.ofNat 0)))) T1 n1
 )
 (
  lenSK 150008 a0 fun x12_3 =>
  mkK 150009 T1 n1 3 8 (.lit (.int .i64 0)) x12_3 fun x13_4 T2 n2 =>
  lenSK 150012 a0 fun x15_5 =>
  g15_l1 ro 100000 a0 (.lit (.int .i64 (.ofNat 0))) x13_4 a0 x15_5 (.lit (.int .i64 (.ofNat 0))) T2 n2
 )
theorem g15_ok (ro : List HT) (a0 : AV) (T : HT) (nx : Nat) : GOk Tryd.prog envE 15 [a0] ro T nx (g15 ro a0 T nx) := by
 refine GOk.of_body Tryd.func15 rfl Tryd.ntmps15 (by kernel_rfl) rfl fun r T' n' h1 w0 base ρ0 its hS hP => ?_
 unfold g15 at h1
 refine CV.sub [(0, a0)] ⟨rfl, trivial⟩ ?_
 refine CV.seq ?_
 refine CV.region ?_
 refine LV.step (VAL.assign rfl) rfl rfl rfl ?_
 refine LV.done ?_
 refine PV.sub [(0, a0), (2, (.lit (.int .i64 (.ofNat 0))))] ⟨rfl, rfl, trivial⟩ ?_
 refine PV.thenN ?_
 refine CV.seq ?_
 refine CV.seq ?_
 refine CV.region ?_
 refine LV.step (VAL.move rfl) rfl rfl rfl ?_
 refine LV.call hS h1 (g38_ok _ _ _ _ ) hP rfl rfl rfl rfl fun x9_1 T1 n1 h2 ρ its hS => ?_
 refine LV.by (V.not h2 rfl) rfl rfl rfl fun x10_2 h3 => ?_
 refine LV.done ?_
 refine PV.sub [(0, a0), (2, (.lit (.int .i64 (.ofNat 0)))), (10, x10_2)] ⟨rfl, rfl, rfl, trivial⟩ ?_
 refine PV.thenN ?_
 refine CV.cond h3 rfl (fun e h4 => ?_) (fun e h4 => ?_)
 ·
  clear h1 h2 h3
  subst e
  refine CV.seq ?_
  refine CV.region ?_
  refine LV.step (VAL.assign rfl) rfl rfl rfl ?_
  refine LV.done ?_
  refine PV.sub [(0, a0), (2, (.lit (.int .i64 (.ofNat 0))))] ⟨rfl, rfl, trivial⟩ ?_
  refine PV.thenN ?_
  refine CV.ret ?_
  refine PV.thenR ?_
  cases h4
  exact PV.ret (by simp) Tryd.results15 hS (RS.tmp rfl RS.nil) rfl
 ·
  clear h1 h2 h3
  subst e
  refine CV.skip ?_
  refine PV.thenN ?_
  refine CV.seq ?_
  refine CV.region ?_
  refine LV.step (VAL.move rfl) rfl rfl rfl ?_
  refine LV.by (V.lenS h4 rfl Trf.ls24) rfl rfl rfl fun x12_3 h5 => ?_
  refine LV.mk hS h5 rfl rfl rfl Trf.el25 rfl rfl rfl rfl fun x13_4 T2 n2 h6 ρ its hS hdr => ?_
  refine LV.step (VAL.assign rfl) rfl rfl rfl ?_
  refine LV.done ?_
  refine PV.sub [(0, a0), (2, (.lit (.int .i64 (.ofNat 0)))), (3, x13_4)] ⟨rfl, rfl, rfl, trivial⟩ ?_
  refine PV.thenN ?_
  refine CV.seq ?_
  refine CV.seq ?_
  refine CV.region ?_
  refine LV.step (VAL.move rfl) rfl rfl rfl ?_
  refine LV.by (V.lenS h6 rfl Trf.ls24) rfl rfl rfl fun x15_5 h7 => ?_
  refine LV.step (VAL.move rfl) rfl rfl rfl ?_
  refine LV.done ?_
  refine PV.sub [(0, a0), (2, (.lit (.int .i64 (.ofNat 0)))), (3, x13_4), (14, a0), (15, x15_5), (16, (.lit (.int .i64 (.ofNat 0))))] ⟨rfl, rfl, rfl, rfl, rfl, rfl, trivial⟩ ?_
  refine PV.thenN ?_
  refine CV.block ?_
  refine CV.loop (E := envE) (ro := ro) (ρ0 := ρ0) (τ := AV × AV × AV × AV × AV × AV × HT × Nat) (fun t => [(0, t.1), (2, t.2.1), (3, t.2.2.1), (14, t.2.2.2.1), (15, t.2.2.2.2.1), (16, t.2.2.2.2.2.1)]) (fun t => t.2.2.2.2.2.2.1) (fun t => t.2.2.2.2.2.2.2) (fun f t => g15_l1 ro f t.1 t.2.1 t.2.2.1 t.2.2.2.1 t.2.2.2.2.1 t.2.2.2.2.2.1 t.2.2.2.2.2.2.1 t.2.2.2.2.2.2.2 = .ok r T' n') 100000 (a0, (.lit (.int .i64 (.ofNat 0))), x13_4, a0, x15_5, (.lit (.int .i64 (.ofNat 0))), T2, n2) hS h7 ⟨rfl, rfl, rfl, rfl, rfl, rfl, trivial⟩ ?_
  rintro (_ | f1) ⟨y0, y2, y3, y14, y15, y16, T3, n3⟩ ρ its hQ h8
  · cases h8
  have hS : EY.ST w0 base envE ρ0 ρ T3 ro n3 its := hQ
  clear hQ
  change CV _ _ _ _ _ _ _ _ [(0, y0), (2, y2), (3, y3), (14, y14), (15, y15), (16, y16)] _
  have h9 : g15_b1 ro (g15_l1 ro f1) y0 y2 y3 y14 y15 y16 T3 n3 = .ok r T' n' := h8
  unfold g15_b1 at h9
  clear h4 h5 h6 h7 h8
  refine CV.seq ?_
  refine CV.region ?_
  refine LV.by (V.lt h9 rfl rfl) rfl rfl rfl fun x17_6 h10 => ?_
  refine LV.done ?_
  refine PV.sub [(0, y0), (2, y2), (3, y3), (14, y14), (15, y15), (16, y16), (17, x17_6)] ⟨rfl, rfl, rfl, rfl, rfl, rfl, rfl, trivial⟩ ?_
  refine PV.thenN ?_
  refine CV.seq ?_
  refine CV.cond h10 rfl (fun e h11 => ?_) (fun e h11 => ?_)
  ·
   clear h9 h10
   subst e
   refine CV.skip ?_
   refine PV.thenN ?_
   refine CV.seq ?_
   refine CV.block ?_
   refine CV.seq ?_
   refine CV.region ?_
   refine LV.step (VAL.move rfl) rfl rfl rfl ?_
   refine LV.by (V.ia h11 rfl rfl Trf.el24) rfl rfl rfl fun x19_7 h12 => ?_
   refine LV.by (V.ldA hS h12 rfl Trf.agg27) rfl rfl rfl fun x20_8 h13 => ?_
   refine LV.alloc hS h13 rfl Trf.zr27 rfl rfl rfl fun x5_9 T4 n4 h14 ρ its hS hdr => ?_
   refine LV.step (VAL.assign rfl) rfl rfl rfl ?_
   refine LV.stA hS h14 rfl rfl rfl Trf.agg27 rfl rfl rfl fun T5 its h15 hS => ?_
   refine LV.done ?_
   refine PV.sub [(0, y0), (2, y2), (3, y3), (4, y16), (5, x5_9), (14, y14), (15, y15), (16, y16)] ⟨rfl, rfl, rfl, rfl, rfl, rfl, rfl, rfl, trivial⟩ ?_
   refine PV.thenN ?_
   refine CV.seq ?_
   refine CV.seq ?_
   refine CV.region ?_
   refine LV.by (V.fa h15 rfl Trf.fo27_4) rfl rfl rfl fun x21_10 h16 => ?_
   refine LV.by (V.ld hS h16 rfl Trf.one25) rfl rfl rfl fun x22_11 h17 => ?_
   refine LV.by (V.lenS h17 rfl Trf.ls25) rfl rfl rfl fun x23_12 h18 => ?_
   refine LV.step (VAL.move rfl) rfl rfl rfl ?_
   refine LV.done ?_
   refine PV.sub [(0, y0), (2, y2), (3, y3), (4, y16), (14, y14), (15, y15), (16, y16), (22, x22_11), (23, x23_12), (24, (.lit (.int .i64 (.ofNat 0))))] ⟨rfl, rfl, rfl, rfl, rfl, rfl, rfl, rfl, rfl, rfl, trivial⟩ ?_
   refine PV.thenN ?_
   refine CV.block ?_
   refine CV.loop (E := envE) (ro := ro) (ρ0 := ρ0) (τ := AV × AV × AV × AV × AV × AV × AV × AV × AV × AV × HT × Nat) (fun t => [(0, t.1), (2, t.2.1), (3, t.2.2.1), (4, t.2.2.2.1), (14, t.2.2.2.2.1), (15, t.2.2.2.2.2.1), (16, t.2.2.2.2.2.2.1), (22, t.2.2.2.2.2.2.2.1), (23, t.2.2.2.2.2.2.2.2.1), (24, t.2.2.2.2.2.2.2.2.2.1)]) (fun t => t.2.2.2.2.2.2.2.2.2.2.1) (fun t => t.2.2.2.2.2.2.2.2.2.2.2) (fun f t => g15_l2 ro (g15_l1 ro f1) f t.1 t.2.1 t.2.2.1 t.2.2.2.1 t.2.2.2.2.1 t.2.2.2.2.2.1 t.2.2.2.2.2.2.1 t.2.2.2.2.2.2.2.1 t.2.2.2.2.2.2.2.2.1 t.2.2.2.2.2.2.2.2.2.1 t.2.2.2.2.2.2.2.2.2.2.1 t.2.2.2.2.2.2.2.2.2.2.2 = .ok r T' n') 100000 (y0, y2, y3, y16, y14, y15, y16, x22_11, x23_12, (.lit (.int .i64 (.ofNat 0))), T5, n4) hS h18 ⟨rfl, rfl, rfl, rfl, rfl, rfl, rfl, rfl, rfl, rfl, trivial⟩ ?_
   rintro (_ | f2) ⟨y0, y2, y3, y4, y14, y15, y16, y22, y23, y24, T6, n6⟩ ρ its hQ h19
   · cases h19
   have hS : EY.ST w0 base envE ρ0 ρ T6 ro n6 its := hQ
   clear hQ
   change CV _ _ _ _ _ _ _ _ [(0, y0), (2, y2), (3, y3), (4, y4), (14, y14), (15, y15), (16, y16), (22, y22), (23, y23), (24, y24)] _
   have h20 : g15_b2 ro (g15_l1 ro f1) (g15_l2 ro (g15_l1 ro f1) f2) y0 y2 y3 y4 y14 y15 y16 y22 y23 y24 T6 n6 = .ok r T' n' := h19
   unfold g15_b2 at h20
   clear h11 h12 h13 h14 h15 h16 h17 h18 h19
   refine CV.seq ?_
   refine CV.region ?_
   refine LV.by (V.lt h20 rfl rfl) rfl rfl rfl fun x25_13 h21 => ?_
   refine LV.done ?_
   refine PV.sub [(0, y0), (2, y2), (3, y3), (4, y4), (14, y14), (15, y15), (16, y16), (22, y22), (23, y23), (24, y24), (25, x25_13)] ⟨rfl, rfl, rfl, rfl, rfl, rfl, rfl, rfl, rfl, rfl, rfl, trivial⟩ ?_
   refine PV.thenN ?_
   refine CV.seq ?_
   refine CV.cond h21 rfl (fun e h22 => ?_) (fun e h22 => ?_)
   ·
    clear h20 h21
    subst e
    refine CV.skip ?_
    refine PV.thenN ?_
    refine CV.seq ?_
    refine CV.block ?_
    refine CV.seq ?_
    refine CV.region ?_
    refine LV.by (V.ia h22 rfl rfl Trf.el25) rfl rfl rfl fun x26_14 h23 => ?_
    refine LV.by (V.ld hS h23 rfl Trf.one3) rfl rfl rfl fun x27_15 h24 => ?_
    refine LV.step (VAL.assign rfl) rfl rfl rfl ?_
    refine LV.done ?_
    refine PV.sub [(0, y0), (2, y2), (3, y3), (4, y4), (7, x27_15), (14, y14), (15, y15), (16, y16), (22, y22), (23, y23), (24, y24)] ⟨rfl, rfl, rfl, rfl, rfl, rfl, rfl, rfl, rfl, rfl, rfl, trivial⟩ ?_
    refine PV.thenN ?_
    refine CV.regionM [(0, .anywhere), (1, .anywhere), (2, .anywhere), (3, .anywhere), (4, .anywhere), (5, .held), (6, .anywhere), (7, .anywhere), (8, .anywhere), (9, .held), (10, .held), (11, .held), (12, .alone)] rfl (fun c a a' w hd hq => PanicOk.root (P := Tryd.prog) (fn := Tryd.f15) (w0 := w0) (base := base) (E := envE) (ro := ro) (r := r) (T' := T') (n' := n') (ρ0 := ρ0) c a a' w hd hq) (by kernel_rfl) ?_
    refine MV.step0 (i := 0) rfl (VAL.move rfl) rfl rfl rfl ?_
    refine MV.step0 (i := 1) rfl (VAL.move rfl) rfl rfl rfl ?_
    refine MV.step0 (i := 2) rfl (VAL.move rfl) rfl rfl rfl ?_
    refine MV.step0 (i := 3) rfl (VAL.move rfl) rfl rfl rfl ?_
    refine MV.lift0 (i := 4) rfl (V.ia h24 rfl rfl Trf.el25) rfl rfl rfl fun x32_16 h25 => ?_
    refine MV.lift1 (i := 5) rfl (fun _ z => z) (V.ld hS h25 rfl Trf.one3) rfl rfl rfl [] (by kernel_rfl) fun x33_17 h26 => ?_
    refine MV.step0 (i := 6) rfl (VAL.move rfl) rfl rfl rfl ?_
    refine MV.step0 (i := 7) rfl (VAL.move rfl) rfl rfl rfl ?_
    refine MV.lift0 (i := 8) rfl (V.ia h26 rfl rfl Trf.el25) rfl rfl rfl fun x36_18 h27 => ?_
    refine MV.lift1 (i := 9) rfl (fun _ z => z) (V.ld hS h27 rfl Trf.one3) rfl rfl rfl [5] (by kernel_rfl) fun x37_19 h28 => ?_
    refine MV.lift1 (i := 10) rfl (fun _ z => z) (V.max h28 rfl rfl) rfl rfl rfl [] (by kernel_rfl) fun x38_20 h29 => ?_
    refine MV.lift1 (i := 11) rfl (fun _ z => z) (V.ia h29 rfl rfl Trf.el25) rfl rfl rfl [] (by kernel_rfl) fun x39_21 h30 => ?_
    refine MV.force (i := 12) rfl ?_
    refine LV.st hS h30 rfl rfl rfl Trf.siz3 rfl rfl fun T7 its h31 hS => ?_
    refine LV.nextM [] (by kernel_rfl) (fun z => absurd rfl z) ?_
    refine MV.sub [(0, y0), (2, y2), (3, y3), (4, y4), (14, y14), (15, y15), (16, y16), (22, y22), (23, y23), (24, y24)] ⟨rfl, rfl, rfl, rfl, rfl, rfl, rfl, rfl, rfl, rfl, trivial⟩ ?_
    refine MV.done ?_
    refine PV.blockN ?_
    refine PV.thenN ?_
    refine CV.region ?_
    refine LV.by (V.add h31 rfl rfl) rfl rfl rfl fun x40_22 h32 => ?_
    refine LV.step (VAL.move rfl) rfl rfl rfl ?_
    refine LV.done ?_
    refine PV.sub [(0, y0), (2, y2), (3, y3), (4, y4), (14, y14), (15, y15), (16, y16), (22, y22), (23, y23), (24, x40_22)] ⟨rfl, rfl, rfl, rfl, rfl, rfl, rfl, rfl, rfl, rfl, trivial⟩ ?_
    exact PV.atSeam (τ := Nat × AV × AV × AV × AV × AV × AV × AV × AV × AV × AV × HT × Nat) (f2, y0, y2, y3, y4, y14, y15, y16, y22, y23, x40_22, T7, n6) hS ⟨Nat.lt_succ_self _, h32⟩ ⟨rfl, rfl, rfl, rfl, rfl, rfl, rfl, rfl, rfl, rfl, trivial⟩
   ·
    clear h20 h21
    subst e
    refine CV.exit ?_
    refine PV.thenE ?_
    refine PV.thenE ?_
    refine PV.blockE ?_
    refine PV.thenN ?_
    refine CV.region ?_
    refine LV.step (VAL.move rfl) rfl rfl rfl ?_
    refine LV.step (VAL.move rfl) rfl rfl rfl ?_
    refine LV.by (V.ia h22 rfl rfl Trf.el25) rfl rfl rfl fun x43_23 h33 => ?_
    refine LV.by (V.ld hS h33 rfl Trf.one3) rfl rfl rfl fun x44_24 h34 => ?_
    refine LV.by (V.add h34 rfl rfl) rfl rfl rfl fun x45_25 h35 => ?_
    refine LV.by (V.ia h35 rfl rfl Trf.el25) rfl rfl rfl fun x46_26 h36 => ?_
    refine LV.st hS h36 rfl rfl rfl Trf.siz3 rfl rfl fun T8 its h37 hS => ?_
    refine LV.done ?_
    refine PV.sub [(0, y0), (2, y2), (3, y3), (14, y14), (15, y15), (16, y16)] ⟨rfl, rfl, rfl, rfl, rfl, rfl, trivial⟩ ?_
    refine PV.blockN ?_
    refine PV.thenN ?_
    refine CV.region ?_
    refine LV.by (V.add h37 rfl rfl) rfl rfl rfl fun x47_27 h38 => ?_
    refine LV.step (VAL.move rfl) rfl rfl rfl ?_
    refine LV.done ?_
    refine PV.sub [(0, y0), (2, y2), (3, y3), (14, y14), (15, y15), (16, x47_27)] ⟨rfl, rfl, rfl, rfl, rfl, rfl, trivial⟩ ?_
    exact PV.atSeam (τ := Nat × AV × AV × AV × AV × AV × AV × HT × Nat) (f1, y0, y2, y3, y14, y15, x47_27, T8, n6) hS ⟨Nat.lt_succ_self _, h38⟩ ⟨rfl, rfl, rfl, rfl, rfl, rfl, trivial⟩
  ·
   clear h9 h10
   subst e
   refine CV.exit ?_
   refine PV.thenE ?_
   refine PV.thenE ?_
   refine PV.blockE ?_
   refine PV.thenN ?_
   refine CV.seq ?_
   refine CV.region ?_
   refine LV.step (VAL.move rfl) rfl rfl rfl ?_
   refine LV.step (VAL.move rfl) rfl rfl rfl ?_
   refine LV.by (V.lenS h11 rfl Trf.ls24) rfl rfl rfl fun x50_28 h39 => ?_
   refine LV.by (V.sub h39 rfl rfl) rfl rfl rfl fun x51_29 h40 => ?_
   refine LV.by (V.ia h40 rfl rfl Trf.el25) rfl rfl rfl fun x52_30 h41 => ?_
   refine LV.by (V.ld hS h41 rfl Trf.one3) rfl rfl rfl fun x53_31 h42 => ?_
   refine LV.step (VAL.assign rfl) rfl rfl rfl ?_
   refine LV.done ?_
   refine PV.sub [(2, x53_31)] ⟨rfl, trivial⟩ ?_
   refine PV.thenN ?_
   refine CV.ret ?_
   cases h42
   exact PV.ret (by simp) Tryd.results15 hS (RS.tmp rfl RS.nil) rfl
noncomputable def g12 (ro : List HT) (T : HT) (nx : Nat) : R :=
 optK 120002 (bld27 [(0, (.lit (.int .i64 (.ofNat 6)))), (3, (.lit (.string ⟨⟨[120]⟩⟩)))]) fun x1_1 =>
 bsK 120003 T nx 1 3 1 [(0, (.lit (.int .i64 (.ofNat 0))))] fun x2_2 T1 n1 =>
 optK 120004 (bld27 [(0, (.lit (.int .i64 (.ofNat 35)))), (4, x2_2)]) fun x3_3 =>
 bsK 120005 T1 n1 1 3 1 [(0, (.lit (.int .i64 (.ofNat 1))))] fun x4_4 T2 n2 =>
 optK 120006 (bld27 [(0, (.lit (.int .i64 (.ofNat 47)))), (4, x4_4)]) fun x5_5 =>
 bsK 120007 T2 n2 3 27 5 [(0, x1_1), (1, x3_3), (2, x5_5)] fun x6_6 T3 n3 =>
 callK (g15 ro x6_6 T3 n3) fun x7_7 T4 n4 =>
 eqK Tryd.prog 3 (.tmp 7) (.const (.int .i64 (.ofNat 3))) 120009 x7_7 (.lit (.int .i64 (.ofNat 3))) fun x8_8 =>
 .ok (.val x8_8) T4 n4
theorem g12_ok (ro : List HT) (T : HT) (nx : Nat) : GOk Tryd.prog envE 12 [] ro T nx (g12 ro T nx) := by
 refine GOk.of_body Tryd.func12 rfl Tryd.ntmps12 (by kernel_rfl) rfl fun r T' n' h1 w0 base ρ0 its hS hP => ?_
 unfold g12 at h1
 refine CV.sub [] trivial ?_
 refine CV.seq ?_
 refine CV.region ?_
 refine LV.step (VAL.assign rfl) rfl rfl rfl ?_
 refine LV.done ?_
 refine PV.sub [(0, (.lit (.bool false)))] ⟨rfl, trivial⟩ ?_
 refine PV.thenN ?_
 refine CV.seq ?_
 refine CV.region ?_
 refine LV.by (V.bld h1 rfl) rfl rfl rfl fun x1_1 h2 => ?_
 refine LV.bslice hS h2 rfl rfl Trf.el25 rfl rfl rfl rfl fun x2_2 T1 n1 h3 ρ its hS hdr => ?_
 refine LV.by (V.bld h3 rfl) rfl rfl rfl fun x3_3 h4 => ?_
 refine LV.bslice hS h4 rfl rfl Trf.el25 rfl rfl rfl rfl fun x4_4 T2 n2 h5 ρ its hS hdr => ?_
 refine LV.by (V.bld h5 rfl) rfl rfl rfl fun x5_5 h6 => ?_
 refine LV.bslice hS h6 rfl rfl Trf.el24 rfl rfl rfl rfl fun x6_6 T3 n3 h7 ρ its hS hdr => ?_
 refine LV.call hS h7 (g15_ok _ _ _ _ ) hP rfl rfl rfl rfl fun x7_7 T4 n4 h8 ρ its hS => ?_
 refine LV.by (V.eq h8 rfl rfl) rfl rfl rfl fun x8_8 h9 => ?_
 refine LV.step (VAL.assign rfl) rfl rfl rfl ?_
 refine LV.done ?_
 refine PV.sub [(0, x8_8)] ⟨rfl, trivial⟩ ?_
 refine PV.thenN ?_
 refine CV.ret ?_
 cases h9
 exact PV.ret (by simp) Tryd.results12 hS (RS.tmp rfl RS.nil) rfl
noncomputable def g13 (ro : List HT) (a0 a1 : AV) (T : HT) (nx : Nat) : R :=
 bin0 Tryd.prog .rem 3 (.tmp 5) (.tmp 6) 130004 a0 a1 fun x7_1 =>
 addK Tryd.prog 3 (.tmp 7) (.tmp 8) 130006 x7_1 a1 fun x9_2 =>
 bin0 Tryd.prog .rem 3 (.tmp 9) (.tmp 10) 130008 x9_2 a1 fun x11_3 =>
 .ok (.val x11_3) T nx
theorem g13_ok (ro : List HT) (a0 a1 : AV) (T : HT) (nx : Nat) : GOk Tryd.prog envE 13 [a0, a1] ro T nx (g13 ro a0 a1 T nx) := by
 refine GOk.of_body Tryd.func13 rfl Tryd.ntmps13 (by kernel_rfl) rfl fun r T' n' h1 w0 base ρ0 its hS hP => ?_
 unfold g13 at h1
 refine CV.sub [(0, a0), (1, a1)] ⟨rfl, rfl, trivial⟩ ?_
 refine CV.seq ?_
 refine CV.region ?_
 refine LV.step (VAL.assign rfl) rfl rfl rfl ?_
 refine LV.done ?_
 refine PV.sub [(0, a0), (1, a1), (4, (.lit (.int .i64 (.ofNat 0))))] ⟨rfl, rfl, rfl, trivial⟩ ?_
 refine PV.thenN ?_
 refine CV.seq ?_
 refine CV.region ?_
 refine LV.step (VAL.move rfl) rfl rfl rfl ?_
 refine LV.step (VAL.move rfl) rfl rfl rfl ?_
 refine LV.by (V.bin0 h1 rfl rfl) rfl rfl rfl fun x7_1 h2 => ?_
 refine LV.step (VAL.move rfl) rfl rfl rfl ?_
 refine LV.by (V.add h2 rfl rfl) rfl rfl rfl fun x9_2 h3 => ?_
 refine LV.step (VAL.move rfl) rfl rfl rfl ?_
 refine LV.by (V.bin0 h3 rfl rfl) rfl rfl rfl fun x11_3 h4 => ?_
 refine LV.step (VAL.assign rfl) rfl rfl rfl ?_
 refine LV.done ?_
 refine PV.sub [(4, x11_3)] ⟨rfl, trivial⟩ ?_
 refine PV.thenN ?_
 refine CV.ret ?_
 cases h4
 exact PV.ret (by simp) Tryd.results13 hS (RS.tmp rfl RS.nil) rfl
noncomputable def g24 (ro : List HT) (T : HT) (nx : Nat) : R :=
 bsK 240002 T nx 17 9 1 [(0, (.lit (.string ⟨⟨[70, 97, 108, 115, 101]⟩⟩))), (1, (.lit (.string ⟨⟨[78, 111, 110, 101]⟩⟩))), (2, (.lit (.string ⟨⟨[84, 114, 117, 101]⟩⟩))), (3, (.lit (.string ⟨⟨[97, 110, 100]⟩⟩))), (4, (.lit (.string ⟨⟨[98, 114, 101, 97, 107]⟩⟩))), (5, (.lit (.string ⟨⟨[99, 111, 110, 116, 105, 110, 117, 101]⟩⟩))), (6, (.lit (.string ⟨⟨[100, 101, 102]⟩⟩))), (7, (.lit (.string ⟨⟨[101, 108, 105, 102]⟩⟩))), (8, (.lit (.string ⟨⟨[101, 108, 115, 101]⟩⟩))), (9, (.lit (.string ⟨⟨[102, 111, 114]⟩⟩))), (10, (.lit (.string ⟨⟨[105, 102]⟩⟩))), (11, (.lit (.string ⟨⟨[105, 110]⟩⟩))), (12, (.lit (.string ⟨⟨[108, 111, 97, 100]⟩⟩))), (13, (.lit (.string ⟨⟨[110, 111, 116]⟩⟩))), (14, (.lit (.string ⟨⟨[111, 114]⟩⟩))), (15, (.lit (.string ⟨⟨[112, 97, 115, 115]⟩⟩))), (16, (.lit (.string ⟨⟨[114, 101, 116, 117, 114, 110]⟩⟩)))] fun x1_1 T1 n1 =>
 .ok (.val x1_1) T1 n1
theorem g24_ok (ro : List HT) (T : HT) (nx : Nat) : GOk Tryd.prog envE 24 [] ro T nx (g24 ro T nx) := by
 refine GOk.of_body Tryd.func24 rfl Tryd.ntmps24 (by kernel_rfl) rfl fun r T' n' h1 w0 base ρ0 its hS hP => ?_
 unfold g24 at h1
 refine CV.sub [] trivial ?_
 refine CV.seq ?_
 refine CV.region ?_
 refine LV.step (VAL.assign rfl) rfl rfl rfl ?_
 refine LV.done ?_
 refine PV.sub [(0, (.lit (.slice none 0 0)))] ⟨rfl, trivial⟩ ?_
 refine PV.thenN ?_
 refine CV.seq ?_
 refine CV.region ?_
 refine LV.bslice hS h1 rfl rfl Trf.el53 rfl rfl rfl rfl fun x1_1 T1 n1 h2 ρ its hS hdr => ?_
 refine LV.step (VAL.assign rfl) rfl rfl rfl ?_
 refine LV.done ?_
 refine PV.sub [(0, x1_1)] ⟨rfl, trivial⟩ ?_
 refine PV.thenN ?_
 refine CV.ret ?_
 cases h2
 exact PV.ret (by simp) Tryd.results24 hS (RS.tmp rfl RS.nil) rfl
noncomputable def g58_k3 (ro : List HT) (y20 : AV) (T3 : HT) (n3 : Nat) : R :=
 .ok (.val y20) T3 n3
noncomputable def g58_k2 (ro : List HT) (y0 y16 : AV) (T2 : HT) (n2 : Nat) : R :=
 condK 580008 y16
 (
  g58_k3 ro (.lit (.bool true)) T2 n2
 )
 (
  eqK Tryd.prog 5 (.tmp 18) (.const (.int .u8 (.ofNat 95))) 580011 y0 (.lit (.int .u8 (.ofNat 95))) fun x19_2 =>
  g58_k3 ro x19_2 T2 n2
 )
noncomputable def g58_k4 (ro : List HT) (y0 y15 : AV) (T4 : HT) (n4 : Nat) : R :=
 g58_k2 ro y0 y15 T4 n4
noncomputable def g58_k1 (ro : List HT) (y0 y8 : AV) (T1 : HT) (n1 : Nat) : R :=
 condK 580013 y8
 (
  g58_k2 ro y0 (.lit (.bool true)) T1 n1
 )
 (
  geK Tryd.prog 5 (.tmp 10) (.const (.int .u8 (.ofNat 65))) 580016 y0 (.lit (.int .u8 (.ofNat 65))) fun x11_3 =>
  condK 580019 x11_3
  (
   leK Tryd.prog 5 (.tmp 13) (.const (.int .u8 (.ofNat 90))) 580021 y0 (.lit (.int .u8 (.ofNat 90))) fun x14_4 =>
   g58_k4 ro y0 x14_4 T1 n1
  )
  (
   g58_k4 ro y0 (.lit (.bool false)) T1 n1
  )
 )
noncomputable def g58 (ro : List HT) (a0 : AV) (T : HT) (nx : Nat) : R :=
 geK Tryd.prog 5 (.tmp 3) (.const (.int .u8 (.ofNat 97))) 580003 a0 (.lit (.int .u8 (.ofNat 97))) fun x4_1 =>
 condK 580024 x4_1
 (
  leK Tryd.prog 5 (.tmp 6) (.const (.int .u8 (.ofNat 122))) 580026 a0 (.lit (.int .u8 (.ofNat 122))) fun x7_5 =>
  g58_k1 ro a0 x7_5 T nx
 )
 (
  g58_k1 ro a0 (.lit (.bool false)) T nx
 )
theorem g58_ok (ro : List HT) (a0 : AV) (T : HT) (nx : Nat) : GOk Tryd.prog envE 58 [a0] ro T nx (g58 ro a0 T nx) := by
 refine GOk.of_body Tryd.func58 rfl Tryd.ntmps58 (by kernel_rfl) rfl fun r T' n' h1 w0 base ρ0 its hS hP => ?_
 unfold g58 at h1
 refine CV.sub [(0, a0)] ⟨rfl, trivial⟩ ?_
 refine CV.seq ?_
 refine CV.region ?_
 refine LV.step (VAL.assign rfl) rfl rfl rfl ?_
 refine LV.done ?_
 refine PV.sub [(0, a0), (2, (.lit (.bool false)))] ⟨rfl, rfl, trivial⟩ ?_
 refine PV.thenN ?_
 refine CV.seq ?_
 refine CV.region ?_
 refine LV.step (VAL.move rfl) rfl rfl rfl ?_
 refine LV.by (V.ge h1 rfl rfl) rfl rfl rfl fun x4_1 h2 => ?_
 refine LV.step (VAL.move rfl) rfl rfl rfl ?_
 refine LV.seam (E := envE) (ro := ro) (ρ0 := ρ0) (τ := AV × AV × HT × Nat) (fun t => [(0, t.1), (8, t.2.1), (2, (.lit (.bool false)))]) (fun t => t.2.2.1) (fun t => t.2.2.2) (fun t => g58_k1 ro  t.1 t.2.1 t.2.2.1 t.2.2.2 = .ok r T' n') 3 ?_ ?_
 ·
  rcases condK_inv h2 with ⟨e, h17⟩ | ⟨e, h17⟩
  ·
   clear h1 h2
   subst e
   refine LV.step (VAL.move rfl) rfl rfl rfl ?_
   refine LV.by (V.le h17 rfl rfl) rfl rfl rfl fun x7_5 h18 => ?_
   refine LV.step (VAL.pure rfl) rfl rfl rfl ?_
   exact LV.atSeam (a0, x7_5, T, nx) hS h18 ⟨rfl, rfl, rfl, trivial⟩
  ·
   clear h1 h2
   subst e
   refine LV.skip rfl rfl rfl ?_
   refine LV.skip rfl rfl rfl ?_
   refine LV.step (VAL.pure rfl) rfl rfl rfl ?_
   exact LV.atSeam (a0, (.lit (.bool false)), T, nx) hS h17 ⟨rfl, rfl, rfl, trivial⟩
 ·
  rintro ⟨y0, y8, T1, n1⟩ ρ its hQ h3
  have hS : EY.ST w0 base envE ρ0 ρ T1 ro n1 its := hQ
  clear hQ
  change LV _ _ _ _ _ _ _ _ _ [(0, y0), (8, y8), (2, (.lit (.bool false)))] _
  have h4 : g58_k1 ro y0 y8 T1 n1 = .ok r T' n' := h3
  unfold g58_k1 at h4
  clear h1 h2 h3
  refine LV.step (VAL.move rfl) rfl rfl rfl ?_
  refine LV.seam (E := envE) (ro := ro) (ρ0 := ρ0) (τ := AV × AV × HT × Nat) (fun t => [(0, t.1), (16, t.2.1), (2, (.lit (.bool false)))]) (fun t => t.2.2.1) (fun t => t.2.2.2) (fun t => g58_k2 ro  t.1 t.2.1 t.2.2.1 t.2.2.2 = .ok r T' n') 7 ?_ ?_
  ·
   rcases condK_inv h4 with ⟨e, h11⟩ | ⟨e, h11⟩
   ·
    clear h4
    subst e
    refine LV.skip rfl rfl rfl ?_
    refine LV.skip rfl rfl rfl ?_
    refine LV.skip rfl rfl rfl ?_
    refine LV.skip rfl rfl rfl ?_
    refine LV.skip rfl rfl rfl ?_
    refine LV.skip rfl rfl rfl ?_
    refine LV.step (VAL.pure rfl) rfl rfl rfl ?_
    exact LV.atSeam (y0, (.lit (.bool true)), T1, n1) hS h11 ⟨rfl, rfl, rfl, trivial⟩
   ·
    clear h4
    subst e
    refine LV.step (VAL.move rfl) rfl rfl rfl ?_
    refine LV.by (V.ge h11 rfl rfl) rfl rfl rfl fun x11_3 h12 => ?_
    refine LV.step (VAL.move rfl) rfl rfl rfl ?_
    refine LV.seam (E := envE) (ro := ro) (ρ0 := ρ0) (τ := AV × AV × HT × Nat) (fun t => [(0, t.1), (15, t.2.1), (2, (.lit (.bool false))), (9, (.lit (.bool false)))]) (fun t => t.2.2.1) (fun t => t.2.2.2) (fun t => g58_k4 ro  t.1 t.2.1 t.2.2.1 t.2.2.2 = .ok r T' n') 3 ?_ ?_
    ·
     rcases condK_inv h12 with ⟨e, h15⟩ | ⟨e, h15⟩
     ·
      clear h11 h12
      subst e
      refine LV.step (VAL.move rfl) rfl rfl rfl ?_
      refine LV.by (V.le h15 rfl rfl) rfl rfl rfl fun x14_4 h16 => ?_
      refine LV.step (VAL.pure rfl) rfl rfl rfl ?_
      exact LV.atSeam (y0, x14_4, T1, n1) hS h16 ⟨rfl, rfl, rfl, rfl, trivial⟩
     ·
      clear h11 h12
      subst e
      refine LV.skip rfl rfl rfl ?_
      refine LV.skip rfl rfl rfl ?_
      refine LV.step (VAL.pure rfl) rfl rfl rfl ?_
      exact LV.atSeam (y0, (.lit (.bool false)), T1, n1) hS h15 ⟨rfl, rfl, rfl, rfl, trivial⟩
    ·
     rintro ⟨y0, y15, T4, n4⟩ ρ its hQ h13
     have hS : EY.ST w0 base envE ρ0 ρ T4 ro n4 its := hQ
     clear hQ
     change LV _ _ _ _ _ _ _ _ _ [(0, y0), (15, y15), (2, (.lit (.bool false))), (9, (.lit (.bool false)))] _
     have h14 : g58_k4 ro y0 y15 T4 n4 = .ok r T' n' := h13
     unfold g58_k4 at h14
     clear h11 h12 h13
     refine LV.step (VAL.pure rfl) rfl rfl rfl ?_
     exact LV.atSeam (y0, y15, T4, n4) hS h14 ⟨rfl, rfl, rfl, trivial⟩
  ·
   rintro ⟨y0, y16, T2, n2⟩ ρ its hQ h5
   have hS : EY.ST w0 base envE ρ0 ρ T2 ro n2 its := hQ
   clear hQ
   change LV _ _ _ _ _ _ _ _ _ [(0, y0), (16, y16), (2, (.lit (.bool false)))] _
   have h6 : g58_k2 ro y0 y16 T2 n2 = .ok r T' n' := h5
   unfold g58_k2 at h6
   clear h4 h5
   refine LV.step (VAL.move rfl) rfl rfl rfl ?_
   refine LV.seam (E := envE) (ro := ro) (ρ0 := ρ0) (τ := AV × HT × Nat) (fun t => [(20, t.1), (2, (.lit (.bool false)))]) (fun t => t.2.1) (fun t => t.2.2) (fun t => g58_k3 ro  t.1 t.2.1 t.2.2 = .ok r T' n') 3 ?_ ?_
   ·
    rcases condK_inv h6 with ⟨e, h9⟩ | ⟨e, h9⟩
    ·
     clear h6
     subst e
     refine LV.skip rfl rfl rfl ?_
     refine LV.skip rfl rfl rfl ?_
     refine LV.step (VAL.pure rfl) rfl rfl rfl ?_
     exact LV.atSeam ((.lit (.bool true)), T2, n2) hS h9 ⟨rfl, rfl, trivial⟩
    ·
     clear h6
     subst e
     refine LV.step (VAL.move rfl) rfl rfl rfl ?_
     refine LV.by (V.eq h9 rfl rfl) rfl rfl rfl fun x19_2 h10 => ?_
     refine LV.step (VAL.pure rfl) rfl rfl rfl ?_
     exact LV.atSeam (x19_2, T2, n2) hS h10 ⟨rfl, rfl, trivial⟩
   ·
    rintro ⟨y20, T3, n3⟩ ρ its hQ h7
    have hS : EY.ST w0 base envE ρ0 ρ T3 ro n3 its := hQ
    clear hQ
    change LV _ _ _ _ _ _ _ _ _ [(20, y20), (2, (.lit (.bool false)))] _
    have h8 : g58_k3 ro y20 T3 n3 = .ok r T' n' := h7
    unfold g58_k3 at h8
    clear h6 h7
    refine LV.step (VAL.assign rfl) rfl rfl rfl ?_
    refine LV.done ?_
    refine PV.sub [(2, y20)] ⟨rfl, trivial⟩ ?_
    refine PV.thenN ?_
    refine CV.ret ?_
    cases h8
    exact PV.ret (by simp) Tryd.results58 hS (RS.tmp rfl RS.nil) rfl
noncomputable def g59_k1 (ro : List HT) (y8 : AV) (T1 : HT) (n1 : Nat) : R :=
 .ok (.val y8) T1 n1
noncomputable def g59 (ro : List HT) (a0 : AV) (T : HT) (nx : Nat) : R :=
 geK Tryd.prog 5 (.tmp 3) (.const (.int .u8 (.ofNat 48))) 590003 a0 (.lit (.int .u8 (.ofNat 48))) fun x4_1 =>
 condK 590006 x4_1
 (
  leK Tryd.prog 5 (.tmp 6) (.const (.int .u8 (.ofNat 57))) 590008 a0 (.lit (.int .u8 (.ofNat 57))) fun x7_2 =>
  g59_k1 ro x7_2 T nx
 )
 (
  g59_k1 ro (.lit (.bool false)) T nx
 )
theorem g59_ok (ro : List HT) (a0 : AV) (T : HT) (nx : Nat) : GOk Tryd.prog envE 59 [a0] ro T nx (g59 ro a0 T nx) := by
 refine GOk.of_body Tryd.func59 rfl Tryd.ntmps59 (by kernel_rfl) rfl fun r T' n' h1 w0 base ρ0 its hS hP => ?_
 unfold g59 at h1
 refine CV.sub [(0, a0)] ⟨rfl, trivial⟩ ?_
 refine CV.seq ?_
 refine CV.region ?_
 refine LV.step (VAL.assign rfl) rfl rfl rfl ?_
 refine LV.done ?_
 refine PV.sub [(0, a0), (2, (.lit (.bool false)))] ⟨rfl, rfl, trivial⟩ ?_
 refine PV.thenN ?_
 refine CV.seq ?_
 refine CV.region ?_
 refine LV.step (VAL.move rfl) rfl rfl rfl ?_
 refine LV.by (V.ge h1 rfl rfl) rfl rfl rfl fun x4_1 h2 => ?_
 refine LV.step (VAL.move rfl) rfl rfl rfl ?_
 refine LV.seam (E := envE) (ro := ro) (ρ0 := ρ0) (τ := AV × HT × Nat) (fun t => [(8, t.1), (2, (.lit (.bool false)))]) (fun t => t.2.1) (fun t => t.2.2) (fun t => g59_k1 ro  t.1 t.2.1 t.2.2 = .ok r T' n') 3 ?_ ?_
 ·
  rcases condK_inv h2 with ⟨e, h5⟩ | ⟨e, h5⟩
  ·
   clear h1 h2
   subst e
   refine LV.step (VAL.move rfl) rfl rfl rfl ?_
   refine LV.by (V.le h5 rfl rfl) rfl rfl rfl fun x7_2 h6 => ?_
   refine LV.step (VAL.pure rfl) rfl rfl rfl ?_
   exact LV.atSeam (x7_2, T, nx) hS h6 ⟨rfl, rfl, trivial⟩
  ·
   clear h1 h2
   subst e
   refine LV.skip rfl rfl rfl ?_
   refine LV.skip rfl rfl rfl ?_
   refine LV.step (VAL.pure rfl) rfl rfl rfl ?_
   exact LV.atSeam ((.lit (.bool false)), T, nx) hS h5 ⟨rfl, rfl, trivial⟩
 ·
  rintro ⟨y8, T1, n1⟩ ρ its hQ h3
  have hS : EY.ST w0 base envE ρ0 ρ T1 ro n1 its := hQ
  clear hQ
  change LV _ _ _ _ _ _ _ _ _ [(8, y8), (2, (.lit (.bool false)))] _
  have h4 : g59_k1 ro y8 T1 n1 = .ok r T' n' := h3
  unfold g59_k1 at h4
  clear h1 h2 h3
  refine LV.step (VAL.assign rfl) rfl rfl rfl ?_
  refine LV.done ?_
  refine PV.sub [(2, y8)] ⟨rfl, trivial⟩ ?_
  refine PV.thenN ?_
  refine CV.ret ?_
  cases h4
  exact PV.ret (by simp) Tryd.results59 hS (RS.tmp rfl RS.nil) rfl
noncomputable def g78_b1 (ro : List HT) (lp1 : AV → AV → AV → AV → AV → HT → Nat → R) (y0 y1 y4 y7 y8 : AV) (T1 : HT) (n1 : Nat) : R :=
 ltK Tryd.prog 3 (.tmp 8) (.tmp 7) 780005 y8 y7 fun x9_2 =>
 condK 780006 x9_2
 (
  iaK 780012 y0 y8 1 fun x14_3 =>
  ldK 780013 T1 ro x14_3 fun x15_4 =>
  eqSK Tryd.prog 9 (.tmp 11) (.tmp 15) 780014 y1 x15_4 fun x16_5 =>
  condK 780015 x16_5
  (
   .ok (.val y8) T1 n1
  )
  (
   addK Tryd.prog 3 (.tmp 8) (.const (.int .i64 (.ofNat 1))) 780018 y8 (.lit (.int .i64 (.ofNat 1))) fun x18_6 =>
   lp1 y0 y1 y4 y7 x18_6 T1 n1
  )
 )
 (
  .ok (.val (.lit (.int .i64 (.negSucc 0)))) T1 n1
 )
noncomputable def g78_l1 (ro : List HT) (fuel : Nat) : AV → AV → AV → AV → AV → HT → Nat → R :=
  Nat.rec (motive := fun _ => AV → AV → AV → AV → AV → HT → Nat → R) (fun _ _ _ _ _ _ _ => .bad 780021) (fun _ lp => g78_b1 ro lp) fuel
noncomputable def g78 (ro : List HT) (a0 a1 : AV) (T : HT) (nx : Nat) : R :=
 lenSK 780003 a0 fun x7_1 =>
 g78_l1 ro 100000 a0 a1 (.lit (.int .i64 (.ofNat 0))) x7_1 (.lit (.int .i64 (.ofNat 0))) T nx
theorem g78_ok (ro : List HT) (a0 a1 : AV) (T : HT) (nx : Nat) : GOk Tryd.prog envE 78 [a0, a1] ro T nx (g78 ro a0 a1 T nx) := by
 refine GOk.of_body Tryd.func78 rfl Tryd.ntmps78 (by kernel_rfl) rfl fun r T' n' h1 w0 base ρ0 its hS hP => ?_
 unfold g78 at h1
 refine CV.sub [(0, a0), (1, a1)] ⟨rfl, rfl, trivial⟩ ?_
 refine CV.seq ?_
 refine CV.region ?_
 refine LV.step (VAL.assign rfl) rfl rfl rfl ?_
 refine LV.done ?_
 refine PV.sub [(0, a0), (1, a1), (4, (.lit (.int .i64 (.ofNat 0))))] ⟨rfl, rfl, rfl, trivial⟩ ?_
 refine PV.thenN ?_
 refine CV.seq ?_
 refine CV.seq ?_
 refine CV.region ?_
 refine LV.step (VAL.move rfl) rfl rfl rfl ?_
 refine LV.by (V.lenS h1 rfl Trf.ls53) rfl rfl rfl fun x7_1 h2 => ?_
 refine LV.step (VAL.move rfl) rfl rfl rfl ?_
 refine LV.done ?_
 refine PV.sub [(0, a0), (1, a1), (4, (.lit (.int .i64 (.ofNat 0)))), (7, x7_1), (8, (.lit (.int .i64 (.ofNat 0))))] ⟨rfl, rfl, rfl, rfl, rfl, trivial⟩ ?_
 refine PV.thenN ?_
 refine CV.block ?_
 refine CV.loop (E := envE) (ro := ro) (ρ0 := ρ0) (τ := AV × AV × AV × AV × AV × HT × Nat) (fun t => [(0, t.1), (1, t.2.1), (4, t.2.2.1), (7, t.2.2.2.1), (8, t.2.2.2.2.1)]) (fun t => t.2.2.2.2.2.1) (fun t => t.2.2.2.2.2.2) (fun f t => g78_l1 ro f t.1 t.2.1 t.2.2.1 t.2.2.2.1 t.2.2.2.2.1 t.2.2.2.2.2.1 t.2.2.2.2.2.2 = .ok r T' n') 100000 (a0, a1, (.lit (.int .i64 (.ofNat 0))), x7_1, (.lit (.int .i64 (.ofNat 0))), T, nx) hS h2 ⟨rfl, rfl, rfl, rfl, rfl, trivial⟩ ?_
 rintro (_ | f1) ⟨y0, y1, y4, y7, y8, T1, n1⟩ ρ its hQ h3
 · cases h3
 have hS : EY.ST w0 base envE ρ0 ρ T1 ro n1 its := hQ
 clear hQ
 change CV _ _ _ _ _ _ _ _ [(0, y0), (1, y1), (4, y4), (7, y7), (8, y8)] _
 have h4 : g78_b1 ro (g78_l1 ro f1) y0 y1 y4 y7 y8 T1 n1 = .ok r T' n' := h3
 unfold g78_b1 at h4
 clear h1 h2 h3
 refine CV.seq ?_
 refine CV.region ?_
 refine LV.by (V.lt h4 rfl rfl) rfl rfl rfl fun x9_2 h5 => ?_
 refine LV.done ?_
 refine PV.sub [(0, y0), (1, y1), (4, y4), (7, y7), (8, y8), (9, x9_2)] ⟨rfl, rfl, rfl, rfl, rfl, rfl, trivial⟩ ?_
 refine PV.thenN ?_
 refine CV.seq ?_
 refine CV.cond h5 rfl (fun e h6 => ?_) (fun e h6 => ?_)
 ·
  clear h4 h5
  subst e
  refine CV.skip ?_
  refine PV.thenN ?_
  refine CV.seq ?_
  refine CV.block ?_
  refine CV.seq ?_
  refine CV.region ?_
  refine LV.step (VAL.move rfl) rfl rfl rfl ?_
  refine LV.step (VAL.assign rfl) rfl rfl rfl ?_
  refine LV.done ?_
  refine PV.sub [(0, y0), (1, y1), (4, y4), (5, y8), (7, y7), (8, y8)] ⟨rfl, rfl, rfl, rfl, rfl, rfl, trivial⟩ ?_
  refine PV.thenN ?_
  refine CV.seq ?_
  refine CV.region ?_
  refine LV.step (VAL.move rfl) rfl rfl rfl ?_
  refine LV.step (VAL.move rfl) rfl rfl rfl ?_
  refine LV.step (VAL.move rfl) rfl rfl rfl ?_
  refine LV.by (V.ia h6 rfl rfl Trf.el53) rfl rfl rfl fun x14_3 h7 => ?_
  refine LV.by (V.ld hS h7 rfl Trf.one9) rfl rfl rfl fun x15_4 h8 => ?_
  refine LV.by (V.eqS h8 rfl rfl) rfl rfl rfl fun x16_5 h9 => ?_
  refine LV.done ?_
  refine PV.sub [(0, y0), (1, y1), (4, y4), (5, y8), (7, y7), (8, y8), (16, x16_5)] ⟨rfl, rfl, rfl, rfl, rfl, rfl, rfl, trivial⟩ ?_
  refine PV.thenN ?_
  refine CV.cond h9 rfl (fun e h10 => ?_) (fun e h10 => ?_)
  ·
   clear h6 h7 h8 h9
   subst e
   refine CV.seq ?_
   refine CV.region ?_
   refine LV.step (VAL.move rfl) rfl rfl rfl ?_
   refine LV.step (VAL.assign rfl) rfl rfl rfl ?_
   refine LV.done ?_
   refine PV.sub [(0, y0), (1, y1), (4, y8), (7, y7), (8, y8)] ⟨rfl, rfl, rfl, rfl, rfl, trivial⟩ ?_
   refine PV.thenN ?_
   refine CV.ret ?_
   refine PV.blockR ?_
   refine PV.thenR ?_
   refine PV.thenR ?_
   refine PV.blockR ?_
   refine PV.thenR ?_
   cases h10
   exact PV.ret (by simp) Tryd.results78 hS (RS.tmp rfl RS.nil) rfl
  ·
   clear h6 h7 h8 h9
   subst e
   refine CV.skip ?_
   refine PV.blockN ?_
   refine PV.thenN ?_
   refine CV.region ?_
   refine LV.by (V.add h10 rfl rfl) rfl rfl rfl fun x18_6 h11 => ?_
   refine LV.step (VAL.move rfl) rfl rfl rfl ?_
   refine LV.done ?_
   refine PV.sub [(0, y0), (1, y1), (4, y4), (7, y7), (8, x18_6)] ⟨rfl, rfl, rfl, rfl, rfl, trivial⟩ ?_
   exact PV.atSeam (τ := Nat × AV × AV × AV × AV × AV × HT × Nat) (f1, y0, y1, y4, y7, x18_6, T1, n1) hS ⟨Nat.lt_succ_self _, h11⟩ ⟨rfl, rfl, rfl, rfl, rfl, trivial⟩
 ·
  clear h4 h5
  subst e
  refine CV.exit ?_
  refine PV.thenE ?_
  refine PV.thenE ?_
  refine PV.blockE ?_
  refine PV.thenN ?_
  refine CV.seq ?_
  refine CV.region ?_
  refine LV.step (VAL.assign rfl) rfl rfl rfl ?_
  refine LV.done ?_
  refine PV.sub [(4, (.lit (.int .i64 (.negSucc 0))))] ⟨rfl, trivial⟩ ?_
  refine PV.thenN ?_
  refine CV.ret ?_
  cases h6
  exact PV.ret (by simp) Tryd.results78 hS (RS.tmp rfl RS.nil) rfl
noncomputable def g60 (ro : List HT) (a0 a1 : AV) (T : HT) (nx : Nat) : R :=
 callK (g78 ro a0 a1 T nx) fun x7_1 T1 n1 =>
 geK Tryd.prog 3 (.tmp 7) (.const (.int .i64 (.ofNat 0))) 600005 x7_1 (.lit (.int .i64 (.ofNat 0))) fun x8_2 =>
 .ok (.val x8_2) T1 n1
theorem g60_ok (ro : List HT) (a0 a1 : AV) (T : HT) (nx : Nat) : GOk Tryd.prog envE 60 [a0, a1] ro T nx (g60 ro a0 a1 T nx) := by
 refine GOk.of_body Tryd.func60 rfl Tryd.ntmps60 (by kernel_rfl) rfl fun r T' n' h1 w0 base ρ0 its hS hP => ?_
 unfold g60 at h1
 refine CV.sub [(0, a0), (1, a1)] ⟨rfl, rfl, trivial⟩ ?_
 refine CV.seq ?_
 refine CV.region ?_
 refine LV.step (VAL.assign rfl) rfl rfl rfl ?_
 refine LV.done ?_
 refine PV.sub [(0, a0), (1, a1), (4, (.lit (.bool false)))] ⟨rfl, rfl, rfl, trivial⟩ ?_
 refine PV.thenN ?_
 refine CV.seq ?_
 refine CV.region ?_
 refine LV.step (VAL.move rfl) rfl rfl rfl ?_
 refine LV.step (VAL.move rfl) rfl rfl rfl ?_
 refine LV.call hS h1 (g78_ok _ _ _ _ _ ) hP rfl rfl rfl rfl fun x7_1 T1 n1 h2 ρ its hS => ?_
 refine LV.by (V.ge h2 rfl rfl) rfl rfl rfl fun x8_2 h3 => ?_
 refine LV.step (VAL.assign rfl) rfl rfl rfl ?_
 refine LV.done ?_
 refine PV.sub [(4, x8_2)] ⟨rfl, trivial⟩ ?_
 refine PV.thenN ?_
 refine CV.ret ?_
 cases h3
 exact PV.ret (by simp) Tryd.results60 hS (RS.tmp rfl RS.nil) rfl
noncomputable def g25_k2 (ro : List HT) (lp1 : AV → AV → AV → AV → HT → Nat → R) (y0 y2 y5 y6 y24 : AV) (T3 : HT) (n3 : Nat) : R :=
 condK 250015 y24
 (
  .ok (.val (.lit (.bool false))) T3 n3
 )
 (
  addK Tryd.prog 3 (.tmp 6) (.const (.int .i64 (.ofNat 1))) 250017 y6 (.lit (.int .i64 (.ofNat 1))) fun x25_6 =>
  lp1 y0 y2 y5 x25_6 T3 n3
 )
noncomputable def g25_k3 (ro : List HT) (lp1 : AV → AV → AV → AV → HT → Nat → R) (y0 y2 y5 y6 y23 : AV) (T4 : HT) (n4 : Nat) : R :=
 g25_k2 ro lp1 y0 y2 y5 y6 y23 T4 n4
noncomputable def g25_k4 (ro : List HT) (y2 y33 : AV) (T6 : HT) (n6 : Nat) : R :=
 .ok (.val y33) T6 n6
noncomputable def g25_b1 (ro : List HT) (lp1 : AV → AV → AV → AV → HT → Nat → R) (y0 y2 y5 y6 : AV) (T1 : HT) (n1 : Nat) : R :=
 ltK Tryd.prog 3 (.tmp 6) (.tmp 5) 250005 y6 y5 fun x7_2 =>
 condK 250006 x7_2
 (
  ixK 250011 y0 y6 fun x11_3 =>
  callK (g58 ro x11_3 T1 n1) fun x12_4 T2 n2 =>
  notK 250013 x12_4 fun x13_5 =>
  condK 250019 x13_5
  (
   eqK Tryd.prog 3 (.tmp 15) (.const (.int .i64 (.ofNat 0))) 250021 y6 (.lit (.int .i64 (.ofNat 0))) fun x16_7 =>
   condK 250024 x16_7
   (
    g25_k3 ro lp1 y0 y2 y5 y6 (.lit (.bool true)) T2 n2
   )
   (
    ixK 250028 y0 y6 fun x20_8 =>
    callK (g59 ro x20_8 T2 n2) fun x21_9 T5 n5 =>
    notK 250030 x21_9 fun x22_10 =>
    g25_k3 ro lp1 y0 y2 y5 y6 x22_10 T5 n5
   )
  )
  (
   g25_k2 ro lp1 y0 y2 y5 y6 (.lit (.bool false)) T2 n2
  )
 )
 (
  neSK Tryd.prog 9 (.tmp 26) (.const (.string ⟨⟨[]⟩⟩)) 250034 y0 (.lit (.string ⟨⟨[]⟩⟩)) fun x27_11 =>
  condK 250037 x27_11
  (
   callK (g24 ro T1 n1) fun x29_12 T7 n7 =>
   callK (g60 ro x29_12 y0 T7 n7) fun x31_13 T8 n8 =>
   notK 250041 x31_13 fun x32_14 =>
   g25_k4 ro y2 x32_14 T8 n8
  )
  (
   g25_k4 ro y2 (.lit (.bool false)) T1 n1
  )
 )
noncomputable def g25_l1 (ro : List HT) (fuel : Nat) : AV → AV → AV → AV → HT → Nat → R :=
  Nat.rec (motive := fun _ => AV → AV → AV → AV → HT → Nat → R) (fun _ _ _ _ _ _ => .bad 250044) (fun _ lp => g25_b1 ro lp) fuel
noncomputable def g25 (ro : List HT) (a0 : AV) (T : HT) (nx : Nat) : R :=
 lenTK 250003 a0 fun x5_1 =>
 g25_l1 ro 100000 a0 (.lit (.bool false)) x5_1 (.lit (.int .i64 (.ofNat 0))) T nx
theorem g25_ok (ro : List HT) (a0 : AV) (T : HT) (nx : Nat) : GOk Tryd.prog envE 25 [a0] ro T nx (g25 ro a0 T nx) := by
 refine GOk.of_body Tryd.func25 rfl Tryd.ntmps25 (by kernel_rfl) rfl fun r T' n' h1 w0 base ρ0 its hS hP => ?_
 unfold g25 at h1
 refine CV.sub [(0, a0)] ⟨rfl, trivial⟩ ?_
 refine CV.seq ?_
 refine CV.region ?_
 refine LV.step (VAL.assign rfl) rfl rfl rfl ?_
 refine LV.done ?_
 refine PV.sub [(0, a0), (2, (.lit (.bool false)))] ⟨rfl, rfl, trivial⟩ ?_
 refine PV.thenN ?_
 refine CV.seq ?_
 refine CV.seq ?_
 refine CV.region ?_
 refine LV.step (VAL.move rfl) rfl rfl rfl ?_
 refine LV.by (V.lenT h1 rfl Trf.ls9) rfl rfl rfl fun x5_1 h2 => ?_
 refine LV.step (VAL.move rfl) rfl rfl rfl ?_
 refine LV.done ?_
 refine PV.sub [(0, a0), (2, (.lit (.bool false))), (5, x5_1), (6, (.lit (.int .i64 (.ofNat 0))))] ⟨rfl, rfl, rfl, rfl, trivial⟩ ?_
 refine PV.thenN ?_
 refine CV.block ?_
 refine CV.loop (E := envE) (ro := ro) (ρ0 := ρ0) (τ := AV × AV × AV × AV × HT × Nat) (fun t => [(0, t.1), (2, t.2.1), (5, t.2.2.1), (6, t.2.2.2.1)]) (fun t => t.2.2.2.2.1) (fun t => t.2.2.2.2.2) (fun f t => g25_l1 ro f t.1 t.2.1 t.2.2.1 t.2.2.2.1 t.2.2.2.2.1 t.2.2.2.2.2 = .ok r T' n') 100000 (a0, (.lit (.bool false)), x5_1, (.lit (.int .i64 (.ofNat 0))), T, nx) hS h2 ⟨rfl, rfl, rfl, rfl, trivial⟩ ?_
 rintro (_ | f1) ⟨y0, y2, y5, y6, T1, n1⟩ ρ its hQ h3
 · cases h3
 have hS : EY.ST w0 base envE ρ0 ρ T1 ro n1 its := hQ
 clear hQ
 change CV _ _ _ _ _ _ _ _ [(0, y0), (2, y2), (5, y5), (6, y6)] _
 have h4 : g25_b1 ro (g25_l1 ro f1) y0 y2 y5 y6 T1 n1 = .ok r T' n' := h3
 unfold g25_b1 at h4
 clear h1 h2 h3
 refine CV.seq ?_
 refine CV.region ?_
 refine LV.by (V.lt h4 rfl rfl) rfl rfl rfl fun x7_2 h5 => ?_
 refine LV.done ?_
 refine PV.sub [(0, y0), (2, y2), (5, y5), (6, y6), (7, x7_2)] ⟨rfl, rfl, rfl, rfl, rfl, trivial⟩ ?_
 refine PV.thenN ?_
 refine CV.seq ?_
 refine CV.cond h5 rfl (fun e h6 => ?_) (fun e h6 => ?_)
 ·
  clear h4 h5
  subst e
  refine CV.skip ?_
  refine PV.thenN ?_
  refine CV.seq ?_
  refine CV.block ?_
  refine CV.seq ?_
  refine CV.region ?_
  refine LV.step (VAL.move rfl) rfl rfl rfl ?_
  refine LV.step (VAL.assign rfl) rfl rfl rfl ?_
  refine LV.done ?_
  refine PV.sub [(0, y0), (2, y2), (3, y6), (5, y5), (6, y6)] ⟨rfl, rfl, rfl, rfl, rfl, trivial⟩ ?_
  refine PV.thenN ?_
  refine CV.seq ?_
  refine CV.region ?_
  refine LV.step (VAL.move rfl) rfl rfl rfl ?_
  refine LV.step (VAL.move rfl) rfl rfl rfl ?_
  refine LV.by (V.ix h6 rfl rfl Trf.st9) rfl rfl rfl fun x11_3 h7 => ?_
  refine LV.call hS h7 (g58_ok _ _ _ _ ) hP rfl rfl rfl rfl fun x12_4 T2 n2 h8 ρ its hS => ?_
  refine LV.by (V.not h8 rfl) rfl rfl rfl fun x13_5 h9 => ?_
  refine LV.step (VAL.move rfl) rfl rfl rfl ?_
  refine LV.seam (E := envE) (ro := ro) (ρ0 := ρ0) (τ := AV × AV × AV × AV × AV × HT × Nat) (fun t => [(0, t.1), (2, t.2.1), (5, t.2.2.1), (6, t.2.2.2.1), (24, t.2.2.2.2.1)]) (fun t => t.2.2.2.2.2.1) (fun t => t.2.2.2.2.2.2) (fun t => g25_k2 ro (g25_l1 ro f1)  t.1 t.2.1 t.2.2.1 t.2.2.2.1 t.2.2.2.2.1 t.2.2.2.2.2.1 t.2.2.2.2.2.2 = .ok r T' n') 10 ?_ ?_
  ·
   rcases condK_inv h9 with ⟨e, h14⟩ | ⟨e, h14⟩
   ·
    clear h6 h7 h8 h9
    subst e
    refine LV.step (VAL.move rfl) rfl rfl rfl ?_
    refine LV.by (V.eq h14 rfl rfl) rfl rfl rfl fun x16_7 h15 => ?_
    refine LV.step (VAL.move rfl) rfl rfl rfl ?_
    refine LV.seam (E := envE) (ro := ro) (ρ0 := ρ0) (τ := AV × AV × AV × AV × AV × HT × Nat) (fun t => [(0, t.1), (2, t.2.1), (5, t.2.2.1), (6, t.2.2.2.1), (23, t.2.2.2.2.1), (14, (.lit (.bool true)))]) (fun t => t.2.2.2.2.2.1) (fun t => t.2.2.2.2.2.2) (fun t => g25_k3 ro (g25_l1 ro f1)  t.1 t.2.1 t.2.2.1 t.2.2.2.1 t.2.2.2.2.1 t.2.2.2.2.2.1 t.2.2.2.2.2.2 = .ok r T' n') 6 ?_ ?_
    ·
     rcases condK_inv h15 with ⟨e, h18⟩ | ⟨e, h18⟩
     ·
      clear h14 h15
      subst e
      refine LV.skip rfl rfl rfl ?_
      refine LV.skip rfl rfl rfl ?_
      refine LV.skip rfl rfl rfl ?_
      refine LV.skip rfl rfl rfl ?_
      refine LV.skip rfl rfl rfl ?_
      refine LV.step (VAL.pure rfl) rfl rfl rfl ?_
      exact LV.atSeam (y0, y2, y5, y6, (.lit (.bool true)), T2, n2) hS h18 ⟨rfl, rfl, rfl, rfl, rfl, rfl, trivial⟩
     ·
      clear h14 h15
      subst e
      refine LV.step (VAL.move rfl) rfl rfl rfl ?_
      refine LV.step (VAL.move rfl) rfl rfl rfl ?_
      refine LV.by (V.ix h18 rfl rfl Trf.st9) rfl rfl rfl fun x20_8 h19 => ?_
      refine LV.call hS h19 (g59_ok _ _ _ _ ) hP rfl rfl rfl rfl fun x21_9 T5 n5 h20 ρ its hS => ?_
      refine LV.by (V.not h20 rfl) rfl rfl rfl fun x22_10 h21 => ?_
      refine LV.step (VAL.pure rfl) rfl rfl rfl ?_
      exact LV.atSeam (y0, y2, y5, y6, x22_10, T5, n5) hS h21 ⟨rfl, rfl, rfl, rfl, rfl, rfl, trivial⟩
    ·
     rintro ⟨y0, y2, y5, y6, y23, T4, n4⟩ ρ its hQ h16
     have hS : EY.ST w0 base envE ρ0 ρ T4 ro n4 its := hQ
     clear hQ
     change LV _ _ _ _ _ _ _ _ _ [(0, y0), (2, y2), (5, y5), (6, y6), (23, y23), (14, (.lit (.bool true)))] _
     have h17 : g25_k3 ro (g25_l1 ro f1) y0 y2 y5 y6 y23 T4 n4 = .ok r T' n' := h16
     unfold g25_k3 at h17
     clear h14 h15 h16
     refine LV.step (VAL.pure rfl) rfl rfl rfl ?_
     exact LV.atSeam (y0, y2, y5, y6, y23, T4, n4) hS h17 ⟨rfl, rfl, rfl, rfl, rfl, trivial⟩
   ·
    clear h6 h7 h8 h9
    subst e
    refine LV.skip rfl rfl rfl ?_
    refine LV.skip rfl rfl rfl ?_
    refine LV.skip rfl rfl rfl ?_
    refine LV.skip rfl rfl rfl ?_
    refine LV.skip rfl rfl rfl ?_
    refine LV.skip rfl rfl rfl ?_
    refine LV.skip rfl rfl rfl ?_
    refine LV.skip rfl rfl rfl ?_
    refine LV.skip rfl rfl rfl ?_
    refine LV.step (VAL.pure rfl) rfl rfl rfl ?_
    exact LV.atSeam (y0, y2, y5, y6, (.lit (.bool false)), T2, n2) hS h14 ⟨rfl, rfl, rfl, rfl, rfl, trivial⟩
  ·
   rintro ⟨y0, y2, y5, y6, y24, T3, n3⟩ ρ its hQ h10
   have hS : EY.ST w0 base envE ρ0 ρ T3 ro n3 its := hQ
   clear hQ
   change LV _ _ _ _ _ _ _ _ _ [(0, y0), (2, y2), (5, y5), (6, y6), (24, y24)] _
   have h11 : g25_k2 ro (g25_l1 ro f1) y0 y2 y5 y6 y24 T3 n3 = .ok r T' n' := h10
   unfold g25_k2 at h11
   clear h6 h7 h8 h9 h10
   refine LV.done ?_
   refine PV.sub [(0, y0), (2, y2), (5, y5), (6, y6), (24, y24)] ⟨rfl, rfl, rfl, rfl, rfl, trivial⟩ ?_
   refine PV.thenN ?_
   refine CV.cond h11 rfl (fun e h12 => ?_) (fun e h12 => ?_)
   ·
    clear h11
    subst e
    refine CV.seq ?_
    refine CV.region ?_
    refine LV.step (VAL.assign rfl) rfl rfl rfl ?_
    refine LV.done ?_
    refine PV.sub [(0, y0), (2, (.lit (.bool false))), (5, y5), (6, y6)] ⟨rfl, rfl, rfl, rfl, trivial⟩ ?_
    refine PV.thenN ?_
    refine CV.ret ?_
    refine PV.blockR ?_
    refine PV.thenR ?_
    refine PV.thenR ?_
    refine PV.blockR ?_
    refine PV.thenR ?_
    cases h12
    exact PV.ret (by simp) Tryd.results25 hS (RS.tmp rfl RS.nil) rfl
   ·
    clear h11
    subst e
    refine CV.skip ?_
    refine PV.blockN ?_
    refine PV.thenN ?_
    refine CV.region ?_
    refine LV.by (V.add h12 rfl rfl) rfl rfl rfl fun x25_6 h13 => ?_
    refine LV.step (VAL.move rfl) rfl rfl rfl ?_
    refine LV.done ?_
    refine PV.sub [(0, y0), (2, y2), (5, y5), (6, x25_6)] ⟨rfl, rfl, rfl, rfl, trivial⟩ ?_
    exact PV.atSeam (τ := Nat × AV × AV × AV × AV × HT × Nat) (f1, y0, y2, y5, x25_6, T3, n3) hS ⟨Nat.lt_succ_self _, h13⟩ ⟨rfl, rfl, rfl, rfl, trivial⟩
 ·
  clear h4 h5
  subst e
  refine CV.exit ?_
  refine PV.thenE ?_
  refine PV.thenE ?_
  refine PV.blockE ?_
  refine PV.thenN ?_
  refine CV.seq ?_
  refine CV.region ?_
  refine LV.step (VAL.move rfl) rfl rfl rfl ?_
  refine LV.by (V.neS h6 rfl rfl) rfl rfl rfl fun x27_11 h22 => ?_
  refine LV.step (VAL.move rfl) rfl rfl rfl ?_
  refine LV.seam (E := envE) (ro := ro) (ρ0 := ρ0) (τ := AV × AV × HT × Nat) (fun t => [(2, t.1), (33, t.2.1)]) (fun t => t.2.2.1) (fun t => t.2.2.2) (fun t => g25_k4 ro  t.1 t.2.1 t.2.2.1 t.2.2.2 = .ok r T' n') 5 ?_ ?_
  ·
   rcases condK_inv h22 with ⟨e, h25⟩ | ⟨e, h25⟩
   ·
    clear h6 h22
    subst e
    refine LV.call hS h25 (g24_ok _ _ _ ) hP rfl rfl rfl rfl fun x29_12 T7 n7 h26 ρ its hS => ?_
    refine LV.step (VAL.move rfl) rfl rfl rfl ?_
    refine LV.call hS h26 (g60_ok _ _ _ _ _ ) hP rfl rfl rfl rfl fun x31_13 T8 n8 h27 ρ its hS => ?_
    refine LV.by (V.not h27 rfl) rfl rfl rfl fun x32_14 h28 => ?_
    refine LV.step (VAL.pure rfl) rfl rfl rfl ?_
    exact LV.atSeam (y2, x32_14, T8, n8) hS h28 ⟨rfl, rfl, trivial⟩
   ·
    clear h6 h22
    subst e
    refine LV.skip rfl rfl rfl ?_
    refine LV.skip rfl rfl rfl ?_
    refine LV.skip rfl rfl rfl ?_
    refine LV.skip rfl rfl rfl ?_
    refine LV.step (VAL.pure rfl) rfl rfl rfl ?_
    exact LV.atSeam (y2, (.lit (.bool false)), T1, n1) hS h25 ⟨rfl, rfl, trivial⟩
  ·
   rintro ⟨y2, y33, T6, n6⟩ ρ its hQ h23
   have hS : EY.ST w0 base envE ρ0 ρ T6 ro n6 its := hQ
   clear hQ
   change LV _ _ _ _ _ _ _ _ _ [(2, y2), (33, y33)] _
   have h24 : g25_k4 ro y2 y33 T6 n6 = .ok r T' n' := h23
   unfold g25_k4 at h24
   clear h6 h22 h23
   refine LV.step (VAL.assign rfl) rfl rfl rfl ?_
   refine LV.done ?_
   refine PV.sub [(2, y33)] ⟨rfl, trivial⟩ ?_
   refine PV.thenN ?_
   refine CV.ret ?_
   cases h24
   exact PV.ret (by simp) Tryd.results25 hS (RS.tmp rfl RS.nil) rfl
noncomputable def g85_k3 (ro : List HT) (y16 : AV) (T3 : HT) (n3 : Nat) : R :=
 .ok (.val y16) T3 n3
noncomputable def g85_k2 (ro : List HT) (y0 y12 : AV) (T2 : HT) (n2 : Nat) : R :=
 condK 850008 y12
 (
  neK Tryd.prog 3 (.tmp 14) (.const (.int .i64 (.ofNat 15))) 850010 y0 (.lit (.int .i64 (.ofNat 15))) fun x15_2 =>
  g85_k3 ro x15_2 T2 n2
 )
 (
  g85_k3 ro (.lit (.bool false)) T2 n2
 )
noncomputable def g85_k1 (ro : List HT) (y0 y8 : AV) (T1 : HT) (n1 : Nat) : R :=
 condK 850013 y8
 (
  neK Tryd.prog 3 (.tmp 10) (.const (.int .i64 (.ofNat 11))) 850015 y0 (.lit (.int .i64 (.ofNat 11))) fun x11_3 =>
  g85_k2 ro y0 x11_3 T1 n1
 )
 (
  g85_k2 ro y0 (.lit (.bool false)) T1 n1
 )
noncomputable def g85 (ro : List HT) (a0 : AV) (T : HT) (nx : Nat) : R :=
 geK Tryd.prog 3 (.tmp 3) (.const (.int .i64 (.ofNat 1))) 850003 a0 (.lit (.int .i64 (.ofNat 1))) fun x4_1 =>
 condK 850018 x4_1
 (
  leK Tryd.prog 3 (.tmp 6) (.const (.int .i64 (.ofNat 34))) 850020 a0 (.lit (.int .i64 (.ofNat 34))) fun x7_4 =>
  g85_k1 ro a0 x7_4 T nx
 )
 (
  g85_k1 ro a0 (.lit (.bool false)) T nx
 )
theorem g85_ok (ro : List HT) (a0 : AV) (T : HT) (nx : Nat) : GOk Tryd.prog envE 85 [a0] ro T nx (g85 ro a0 T nx) := by
 refine GOk.of_body Tryd.func85 rfl Tryd.ntmps85 (by kernel_rfl) rfl fun r T' n' h1 w0 base ρ0 its hS hP => ?_
 unfold g85 at h1
 refine CV.sub [(0, a0)] ⟨rfl, trivial⟩ ?_
 refine CV.seq ?_
 refine CV.region ?_
 refine LV.step (VAL.assign rfl) rfl rfl rfl ?_
 refine LV.done ?_
 refine PV.sub [(0, a0), (2, (.lit (.bool false)))] ⟨rfl, rfl, trivial⟩ ?_
 refine PV.thenN ?_
 refine CV.seq ?_
 refine CV.region ?_
 refine LV.step (VAL.move rfl) rfl rfl rfl ?_
 refine LV.by (V.ge h1 rfl rfl) rfl rfl rfl fun x4_1 h2 => ?_
 refine LV.step (VAL.move rfl) rfl rfl rfl ?_
 refine LV.seam (E := envE) (ro := ro) (ρ0 := ρ0) (τ := AV × AV × HT × Nat) (fun t => [(0, t.1), (8, t.2.1), (2, (.lit (.bool false)))]) (fun t => t.2.2.1) (fun t => t.2.2.2) (fun t => g85_k1 ro  t.1 t.2.1 t.2.2.1 t.2.2.2 = .ok r T' n') 3 ?_ ?_
 ·
  rcases condK_inv h2 with ⟨e, h13⟩ | ⟨e, h13⟩
  ·
   clear h1 h2
   subst e
   refine LV.step (VAL.move rfl) rfl rfl rfl ?_
   refine LV.by (V.le h13 rfl rfl) rfl rfl rfl fun x7_4 h14 => ?_
   refine LV.step (VAL.pure rfl) rfl rfl rfl ?_
   exact LV.atSeam (a0, x7_4, T, nx) hS h14 ⟨rfl, rfl, rfl, trivial⟩
  ·
   clear h1 h2
   subst e
   refine LV.skip rfl rfl rfl ?_
   refine LV.skip rfl rfl rfl ?_
   refine LV.step (VAL.pure rfl) rfl rfl rfl ?_
   exact LV.atSeam (a0, (.lit (.bool false)), T, nx) hS h13 ⟨rfl, rfl, rfl, trivial⟩
 ·
  rintro ⟨y0, y8, T1, n1⟩ ρ its hQ h3
  have hS : EY.ST w0 base envE ρ0 ρ T1 ro n1 its := hQ
  clear hQ
  change LV _ _ _ _ _ _ _ _ _ [(0, y0), (8, y8), (2, (.lit (.bool false)))] _
  have h4 : g85_k1 ro y0 y8 T1 n1 = .ok r T' n' := h3
  unfold g85_k1 at h4
  clear h1 h2 h3
  refine LV.step (VAL.move rfl) rfl rfl rfl ?_
  refine LV.seam (E := envE) (ro := ro) (ρ0 := ρ0) (τ := AV × AV × HT × Nat) (fun t => [(0, t.1), (12, t.2.1), (2, (.lit (.bool false)))]) (fun t => t.2.2.1) (fun t => t.2.2.2) (fun t => g85_k2 ro  t.1 t.2.1 t.2.2.1 t.2.2.2 = .ok r T' n') 3 ?_ ?_
  ·
   rcases condK_inv h4 with ⟨e, h11⟩ | ⟨e, h11⟩
   ·
    clear h4
    subst e
    refine LV.step (VAL.move rfl) rfl rfl rfl ?_
    refine LV.by (V.ne h11 rfl rfl) rfl rfl rfl fun x11_3 h12 => ?_
    refine LV.step (VAL.pure rfl) rfl rfl rfl ?_
    exact LV.atSeam (y0, x11_3, T1, n1) hS h12 ⟨rfl, rfl, rfl, trivial⟩
   ·
    clear h4
    subst e
    refine LV.skip rfl rfl rfl ?_
    refine LV.skip rfl rfl rfl ?_
    refine LV.step (VAL.pure rfl) rfl rfl rfl ?_
    exact LV.atSeam (y0, (.lit (.bool false)), T1, n1) hS h11 ⟨rfl, rfl, rfl, trivial⟩
  ·
   rintro ⟨y0, y12, T2, n2⟩ ρ its hQ h5
   have hS : EY.ST w0 base envE ρ0 ρ T2 ro n2 its := hQ
   clear hQ
   change LV _ _ _ _ _ _ _ _ _ [(0, y0), (12, y12), (2, (.lit (.bool false)))] _
   have h6 : g85_k2 ro y0 y12 T2 n2 = .ok r T' n' := h5
   unfold g85_k2 at h6
   clear h4 h5
   refine LV.step (VAL.move rfl) rfl rfl rfl ?_
   refine LV.seam (E := envE) (ro := ro) (ρ0 := ρ0) (τ := AV × HT × Nat) (fun t => [(16, t.1), (2, (.lit (.bool false)))]) (fun t => t.2.1) (fun t => t.2.2) (fun t => g85_k3 ro  t.1 t.2.1 t.2.2 = .ok r T' n') 3 ?_ ?_
   ·
    rcases condK_inv h6 with ⟨e, h9⟩ | ⟨e, h9⟩
    ·
     clear h6
     subst e
     refine LV.step (VAL.move rfl) rfl rfl rfl ?_
     refine LV.by (V.ne h9 rfl rfl) rfl rfl rfl fun x15_2 h10 => ?_
     refine LV.step (VAL.pure rfl) rfl rfl rfl ?_
     exact LV.atSeam (x15_2, T2, n2) hS h10 ⟨rfl, rfl, trivial⟩
    ·
     clear h6
     subst e
     refine LV.skip rfl rfl rfl ?_
     refine LV.skip rfl rfl rfl ?_
     refine LV.step (VAL.pure rfl) rfl rfl rfl ?_
     exact LV.atSeam ((.lit (.bool false)), T2, n2) hS h9 ⟨rfl, rfl, trivial⟩
   ·
    rintro ⟨y16, T3, n3⟩ ρ its hQ h7
    have hS : EY.ST w0 base envE ρ0 ρ T3 ro n3 its := hQ
    clear hQ
    change LV _ _ _ _ _ _ _ _ _ [(16, y16), (2, (.lit (.bool false)))] _
    have h8 : g85_k3 ro y16 T3 n3 = .ok r T' n' := h7
    unfold g85_k3 at h8
    clear h6 h7
    refine LV.step (VAL.assign rfl) rfl rfl rfl ?_
    refine LV.done ?_
    refine PV.sub [(2, y16)] ⟨rfl, trivial⟩ ?_
    refine PV.thenN ?_
    refine CV.ret ?_
    cases h8
    exact PV.ret (by simp) Tryd.results85 hS (RS.tmp rfl RS.nil) rfl
noncomputable def g84_k1 (ro : List HT) (y10 : AV) (T3 : HT) (n3 : Nat) : R :=
 .ok (.val y10) T3 n3
noncomputable def g84 (ro : List HT) (a0 : AV) (T : HT) (nx : Nat) : R :=
 boxK 840001 T nx a0 27 fun x1_1 T1 n1 =>
 faK 840003 x1_1 0 fun x3_2 =>
 ldK 840004 T1 ro x3_2 fun x4_3 =>
 callK (g85 ro x4_3 T1 n1) fun x5_4 T2 n2 =>
 condK 840008 x5_4
 (
  g84_k1 ro (.lit (.bool true)) T2 n2
 )
 (
  faK 840010 x1_1 0 fun x7_5 =>
  ldK 840011 T2 ro x7_5 fun x8_6 =>
  eqK Tryd.prog 3 (.tmp 8) (.const (.int .i64 (.ofNat 15))) 840012 x8_6 (.lit (.int .i64 (.ofNat 15))) fun x9_7 =>
  g84_k1 ro x9_7 T2 n2
 )
theorem g84_ok (ro : List HT) (a0 : AV) (T : HT) (nx : Nat) : GOk Tryd.prog envE 84 [a0] ro T nx (g84 ro a0 T nx) := by
 refine GOk.of_body Tryd.func84 rfl Tryd.ntmps84 (by kernel_rfl) rfl fun r T' n' h1 w0 base ρ0 its hS hP => ?_
 unfold g84 at h1
 refine CV.sub [(0, a0)] ⟨rfl, trivial⟩ ?_
 refine CV.seq ?_
 refine CV.region ?_
 refine LV.box hS h1 rfl rfl rfl rfl rfl fun x1_1 T1 n1 h2 ρ its hS hdr => ?_
 refine LV.step (VAL.assign rfl) rfl rfl rfl ?_
 refine LV.done ?_
 refine PV.sub [(1, x1_1), (2, (.lit (.bool false)))] ⟨rfl, rfl, trivial⟩ ?_
 refine PV.thenN ?_
 refine CV.seq ?_
 refine CV.region ?_
 refine LV.by (V.fa h2 rfl Trf.fo27_0) rfl rfl rfl fun x3_2 h3 => ?_
 refine LV.by (V.ld hS h3 rfl Trf.one3) rfl rfl rfl fun x4_3 h4 => ?_
 refine LV.call hS h4 (g85_ok _ _ _ _ ) hP rfl rfl rfl rfl fun x5_4 T2 n2 h5 ρ its hS => ?_
 refine LV.step (VAL.move rfl) rfl rfl rfl ?_
 refine LV.seam (E := envE) (ro := ro) (ρ0 := ρ0) (τ := AV × HT × Nat) (fun t => [(10, t.1), (2, (.lit (.bool false)))]) (fun t => t.2.1) (fun t => t.2.2) (fun t => g84_k1 ro  t.1 t.2.1 t.2.2 = .ok r T' n') 4 ?_ ?_
 ·
  rcases condK_inv h5 with ⟨e, h8⟩ | ⟨e, h8⟩
  ·
   clear h1 h2 h3 h4 h5
   subst e
   refine LV.skip rfl rfl rfl ?_
   refine LV.skip rfl rfl rfl ?_
   refine LV.skip rfl rfl rfl ?_
   refine LV.step (VAL.pure rfl) rfl rfl rfl ?_
   exact LV.atSeam ((.lit (.bool true)), T2, n2) hS h8 ⟨rfl, rfl, trivial⟩
  ·
   clear h1 h2 h3 h4 h5
   subst e
   refine LV.by (V.fa h8 rfl Trf.fo27_0) rfl rfl rfl fun x7_5 h9 => ?_
   refine LV.by (V.ld hS h9 rfl Trf.one3) rfl rfl rfl fun x8_6 h10 => ?_
   refine LV.by (V.eq h10 rfl rfl) rfl rfl rfl fun x9_7 h11 => ?_
   refine LV.step (VAL.pure rfl) rfl rfl rfl ?_
   exact LV.atSeam (x9_7, T2, n2) hS h11 ⟨rfl, rfl, trivial⟩
 ·
  rintro ⟨y10, T3, n3⟩ ρ its hQ h6
  have hS : EY.ST w0 base envE ρ0 ρ T3 ro n3 its := hQ
  clear hQ
  change LV _ _ _ _ _ _ _ _ _ [(10, y10), (2, (.lit (.bool false)))] _
  have h7 : g84_k1 ro y10 T3 n3 = .ok r T' n' := h6
  unfold g84_k1 at h7
  clear h1 h2 h3 h4 h5 h6
  refine LV.step (VAL.assign rfl) rfl rfl rfl ?_
  refine LV.done ?_
  refine PV.sub [(2, y10)] ⟨rfl, trivial⟩ ?_
  refine PV.thenN ?_
  refine CV.ret ?_
  cases h7
  exact PV.ret (by simp) Tryd.results84 hS (RS.tmp rfl RS.nil) rfl
noncomputable def g89 (ro : List HT) (a0 a1 a2 : AV) (T : HT) (nx : Nat) : R :=
 ncK 890003 a0 fun x8_1 =>
 faK 890004 x8_1 0 fun x9_2 =>
 ldK 890005 T ro x9_2 fun x10_3 =>
 iaK 890007 x10_3 a1 5 fun x12_4 =>
 faK 890008 x12_4 0 fun x13_5 =>
 ldK 890009 T ro x13_5 fun x14_6 =>
 eqK Tryd.prog 3 (.tmp 14) (.tmp 15) 890011 x14_6 a2 fun x16_7 =>
 .ok (.val x16_7) T nx
theorem g89_ok (ro : List HT) (a0 a1 a2 : AV) (T : HT) (nx : Nat) : GOk Tryd.prog envE 89 [a0, a1, a2] ro T nx (g89 ro a0 a1 a2 T nx) := by
 refine GOk.of_body Tryd.func89 rfl Tryd.ntmps89 (by kernel_rfl) rfl fun r T' n' h1 w0 base ρ0 its hS hP => ?_
 unfold g89 at h1
 refine CV.sub [(0, a0), (1, a1), (2, a2)] ⟨rfl, rfl, rfl, trivial⟩ ?_
 refine CV.seq ?_
 refine CV.region ?_
 refine LV.step (VAL.assign rfl) rfl rfl rfl ?_
 refine LV.done ?_
 refine PV.sub [(0, a0), (1, a1), (2, a2), (6, (.lit (.bool false)))] ⟨rfl, rfl, rfl, rfl, trivial⟩ ?_
 refine PV.thenN ?_
 refine CV.seq ?_
 refine CV.region ?_
 refine LV.step (VAL.move rfl) rfl rfl rfl ?_
 refine LV.by (V.nc h1 rfl) rfl rfl rfl fun x8_1 h2 => ?_
 refine LV.by (V.fa h2 rfl Trf.fo63_0) rfl rfl rfl fun x9_2 h3 => ?_
 refine LV.by (V.ld hS h3 rfl Trf.one24) rfl rfl rfl fun x10_3 h4 => ?_
 refine LV.step (VAL.move rfl) rfl rfl rfl ?_
 refine LV.by (V.ia h4 rfl rfl Trf.el24) rfl rfl rfl fun x12_4 h5 => ?_
 refine LV.by (V.fa h5 rfl Trf.fo27_0) rfl rfl rfl fun x13_5 h6 => ?_
 refine LV.by (V.ld hS h6 rfl Trf.one3) rfl rfl rfl fun x14_6 h7 => ?_
 refine LV.step (VAL.move rfl) rfl rfl rfl ?_
 refine LV.by (V.eq h7 rfl rfl) rfl rfl rfl fun x16_7 h8 => ?_
 refine LV.step (VAL.assign rfl) rfl rfl rfl ?_
 refine LV.done ?_
 refine PV.sub [(6, x16_7)] ⟨rfl, trivial⟩ ?_
 refine PV.thenN ?_
 refine CV.ret ?_
 cases h8
 exact PV.ret (by simp) Tryd.results89 hS (RS.tmp rfl RS.nil) rfl
noncomputable def g87_k2 (ro : List HT) (y21 : AV) (T3 : HT) (n3 : Nat) : R :=
 .ok (.val y21) T3 n3
noncomputable def g87_k1 (ro : List HT) (y0 y3 y13 : AV) (T2 : HT) (n2 : Nat) : R :=
 condK 870009 y13
 (
  faK 870011 y3 4 fun x16_5 =>
  ldK 870012 T2 ro x16_5 fun x17_6 =>
  iaK 870013 x17_6 (.lit (.int .i64 (.ofNat 0))) 1 fun x18_7 =>
  ldK 870014 T2 ro x18_7 fun x19_8 =>
  callK (g89 ro y0 x19_8 (.lit (.int .i64 (.ofNat 5))) T2 n2) fun x20_9 T4 n4 =>
  g87_k2 ro x20_9 T4 n4
 )
 (
  g87_k2 ro (.lit (.bool false)) T2 n2
 )
noncomputable def g87 (ro : List HT) (a0 a1 : AV) (T : HT) (nx : Nat) : R :=
 boxK 870001 T nx a1 27 fun x3_1 T1 n1 =>
 faK 870003 x3_1 0 fun x5_2 =>
 ldK 870004 T1 ro x5_2 fun x6_3 =>
 eqK Tryd.prog 3 (.tmp 6) (.const (.int .i64 (.ofNat 46))) 870005 x6_3 (.lit (.int .i64 (.ofNat 46))) fun x7_4 =>
 condK 870018 x7_4
 (
  faK 870019 x3_1 4 fun x9_10 =>
  ldK 870020 T1 ro x9_10 fun x10_11 =>
  lenSK 870021 x10_11 fun x11_12 =>
  eqK Tryd.prog 3 (.tmp 11) (.const (.int .i64 (.ofNat 1))) 870022 x11_12 (.lit (.int .i64 (.ofNat 1))) fun x12_13 =>
  g87_k1 ro a0 x3_1 x12_13 T1 n1
 )
 (
  g87_k1 ro a0 x3_1 (.lit (.bool false)) T1 n1
 )
theorem g87_ok (ro : List HT) (a0 a1 : AV) (T : HT) (nx : Nat) : GOk Tryd.prog envE 87 [a0, a1] ro T nx (g87 ro a0 a1 T nx) := by
 refine GOk.of_body Tryd.func87 rfl Tryd.ntmps87 (by kernel_rfl) rfl fun r T' n' h1 w0 base ρ0 its hS hP => ?_
 unfold g87 at h1
 refine CV.sub [(0, a0), (1, a1)] ⟨rfl, rfl, trivial⟩ ?_
 refine CV.seq ?_
 refine CV.region ?_
 refine LV.box hS h1 rfl rfl rfl rfl rfl fun x3_1 T1 n1 h2 ρ its hS hdr => ?_
 refine LV.step (VAL.assign rfl) rfl rfl rfl ?_
 refine LV.done ?_
 refine PV.sub [(0, a0), (3, x3_1), (4, (.lit (.bool false)))] ⟨rfl, rfl, rfl, trivial⟩ ?_
 refine PV.thenN ?_
 refine CV.seq ?_
 refine CV.region ?_
 refine LV.by (V.fa h2 rfl Trf.fo27_0) rfl rfl rfl fun x5_2 h3 => ?_
 refine LV.by (V.ld hS h3 rfl Trf.one3) rfl rfl rfl fun x6_3 h4 => ?_
 refine LV.by (V.eq h4 rfl rfl) rfl rfl rfl fun x7_4 h5 => ?_
 refine LV.step (VAL.move rfl) rfl rfl rfl ?_
 refine LV.seam (E := envE) (ro := ro) (ρ0 := ρ0) (τ := AV × AV × AV × HT × Nat) (fun t => [(0, t.1), (3, t.2.1), (13, t.2.2.1), (4, (.lit (.bool false)))]) (fun t => t.2.2.2.1) (fun t => t.2.2.2.2) (fun t => g87_k1 ro  t.1 t.2.1 t.2.2.1 t.2.2.2.1 t.2.2.2.2 = .ok r T' n') 5 ?_ ?_
 ·
  rcases condK_inv h5 with ⟨e, h16⟩ | ⟨e, h16⟩
  ·
   clear h1 h2 h3 h4 h5
   subst e
   refine LV.by (V.fa h16 rfl Trf.fo27_4) rfl rfl rfl fun x9_10 h17 => ?_
   refine LV.by (V.ld hS h17 rfl Trf.one25) rfl rfl rfl fun x10_11 h18 => ?_
   refine LV.by (V.lenS h18 rfl Trf.ls25) rfl rfl rfl fun x11_12 h19 => ?_
   refine LV.by (V.eq h19 rfl rfl) rfl rfl rfl fun x12_13 h20 => ?_
   refine LV.step (VAL.pure rfl) rfl rfl rfl ?_
   exact LV.atSeam (a0, x3_1, x12_13, T1, n1) hS h20 ⟨rfl, rfl, rfl, rfl, trivial⟩
  ·
   clear h1 h2 h3 h4 h5
   subst e
   refine LV.skip rfl rfl rfl ?_
   refine LV.skip rfl rfl rfl ?_
   refine LV.skip rfl rfl rfl ?_
   refine LV.skip rfl rfl rfl ?_
   refine LV.step (VAL.pure rfl) rfl rfl rfl ?_
   exact LV.atSeam (a0, x3_1, (.lit (.bool false)), T1, n1) hS h16 ⟨rfl, rfl, rfl, rfl, trivial⟩
 ·
  rintro ⟨y0, y3, y13, T2, n2⟩ ρ its hQ h6
  have hS : EY.ST w0 base envE ρ0 ρ T2 ro n2 its := hQ
  clear hQ
  change LV _ _ _ _ _ _ _ _ _ [(0, y0), (3, y3), (13, y13), (4, (.lit (.bool false)))] _
  have h7 : g87_k1 ro y0 y3 y13 T2 n2 = .ok r T' n' := h6
  unfold g87_k1 at h7
  clear h1 h2 h3 h4 h5 h6
  refine LV.step (VAL.move rfl) rfl rfl rfl ?_
  refine LV.seam (E := envE) (ro := ro) (ρ0 := ρ0) (τ := AV × HT × Nat) (fun t => [(21, t.1), (4, (.lit (.bool false)))]) (fun t => t.2.1) (fun t => t.2.2) (fun t => g87_k2 ro  t.1 t.2.1 t.2.2 = .ok r T' n') 7 ?_ ?_
  ·
   rcases condK_inv h7 with ⟨e, h10⟩ | ⟨e, h10⟩
   ·
    clear h7
    subst e
    refine LV.step (VAL.move rfl) rfl rfl rfl ?_
    refine LV.by (V.fa h10 rfl Trf.fo27_4) rfl rfl rfl fun x16_5 h11 => ?_
    refine LV.by (V.ld hS h11 rfl Trf.one25) rfl rfl rfl fun x17_6 h12 => ?_
    refine LV.by (V.ia h12 rfl rfl Trf.el25) rfl rfl rfl fun x18_7 h13 => ?_
    refine LV.by (V.ld hS h13 rfl Trf.one3) rfl rfl rfl fun x19_8 h14 => ?_
    refine LV.call hS h14 (g89_ok _ _ _ _ _ _ ) hP rfl rfl rfl rfl fun x20_9 T4 n4 h15 ρ its hS => ?_
    refine LV.step (VAL.pure rfl) rfl rfl rfl ?_
    exact LV.atSeam (x20_9, T4, n4) hS h15 ⟨rfl, rfl, trivial⟩
   ·
    clear h7
    subst e
    refine LV.skip rfl rfl rfl ?_
    refine LV.skip rfl rfl rfl ?_
    refine LV.skip rfl rfl rfl ?_
    refine LV.skip rfl rfl rfl ?_
    refine LV.skip rfl rfl rfl ?_
    refine LV.skip rfl rfl rfl ?_
    refine LV.step (VAL.pure rfl) rfl rfl rfl ?_
    exact LV.atSeam ((.lit (.bool false)), T2, n2) hS h10 ⟨rfl, rfl, trivial⟩
  ·
   rintro ⟨y21, T3, n3⟩ ρ its hQ h8
   have hS : EY.ST w0 base envE ρ0 ρ T3 ro n3 its := hQ
   clear hQ
   change LV _ _ _ _ _ _ _ _ _ [(21, y21), (4, (.lit (.bool false)))] _
   have h9 : g87_k2 ro y21 T3 n3 = .ok r T' n' := h8
   unfold g87_k2 at h9
   clear h7 h8
   refine LV.step (VAL.assign rfl) rfl rfl rfl ?_
   refine LV.done ?_
   refine PV.sub [(4, y21)] ⟨rfl, trivial⟩ ?_
   refine PV.thenN ?_
   refine CV.ret ?_
   cases h9
   exact PV.ret (by simp) Tryd.results87 hS (RS.tmp rfl RS.nil) rfl
noncomputable def g88 (ro : List HT) (a0 : AV) (T : HT) (nx : Nat) : R :=
 boxK 880001 T nx a0 27 fun x1_1 T1 n1 =>
 faK 880003 x1_1 0 fun x3_2 =>
 ldK 880004 T1 ro x3_2 fun x4_3 =>
 eqK Tryd.prog 3 (.tmp 4) (.const (.int .i64 (.ofNat 46))) 880005 x4_3 (.lit (.int .i64 (.ofNat 46))) fun x5_4 =>
 .ok (.val x5_4) T1 n1
theorem g88_ok (ro : List HT) (a0 : AV) (T : HT) (nx : Nat) : GOk Tryd.prog envE 88 [a0] ro T nx (g88 ro a0 T nx) := by
 refine GOk.of_body Tryd.func88 rfl Tryd.ntmps88 (by kernel_rfl) rfl fun r T' n' h1 w0 base ρ0 its hS hP => ?_
 unfold g88 at h1
 refine CV.sub [(0, a0)] ⟨rfl, trivial⟩ ?_
 refine CV.seq ?_
 refine CV.region ?_
 refine LV.box hS h1 rfl rfl rfl rfl rfl fun x1_1 T1 n1 h2 ρ its hS hdr => ?_
 refine LV.step (VAL.assign rfl) rfl rfl rfl ?_
 refine LV.done ?_
 refine PV.sub [(1, x1_1), (2, (.lit (.bool false)))] ⟨rfl, rfl, trivial⟩ ?_
 refine PV.thenN ?_
 refine CV.seq ?_
 refine CV.region ?_
 refine LV.by (V.fa h2 rfl Trf.fo27_0) rfl rfl rfl fun x3_2 h3 => ?_
 refine LV.by (V.ld hS h3 rfl Trf.one3) rfl rfl rfl fun x4_3 h4 => ?_
 refine LV.by (V.eq h4 rfl rfl) rfl rfl rfl fun x5_4 h5 => ?_
 refine LV.step (VAL.assign rfl) rfl rfl rfl ?_
 refine LV.done ?_
 refine PV.sub [(2, x5_4)] ⟨rfl, trivial⟩ ?_
 refine PV.thenN ?_
 refine CV.ret ?_
 cases h5
 exact PV.ret (by simp) Tryd.results88 hS (RS.tmp rfl RS.nil) rfl
noncomputable def g91_k1 (ro : List HT) (y8 : AV) (T1 : HT) (n1 : Nat) : R :=
 .ok (.val y8) T1 n1
noncomputable def g91 (ro : List HT) (a0 : AV) (T : HT) (nx : Nat) : R :=
 geK Tryd.prog 3 (.tmp 3) (.const (.int .i64 (.ofNat 35))) 910003 a0 (.lit (.int .i64 (.ofNat 35))) fun x4_1 =>
 condK 910006 x4_1
 (
  leK Tryd.prog 3 (.tmp 6) (.const (.int .i64 (.ofNat 45))) 910008 a0 (.lit (.int .i64 (.ofNat 45))) fun x7_2 =>
  g91_k1 ro x7_2 T nx
 )
 (
  g91_k1 ro (.lit (.bool false)) T nx
 )
theorem g91_ok (ro : List HT) (a0 : AV) (T : HT) (nx : Nat) : GOk Tryd.prog envE 91 [a0] ro T nx (g91 ro a0 T nx) := by
 refine GOk.of_body Tryd.func91 rfl Tryd.ntmps91 (by kernel_rfl) rfl fun r T' n' h1 w0 base ρ0 its hS hP => ?_
 unfold g91 at h1
 refine CV.sub [(0, a0)] ⟨rfl, trivial⟩ ?_
 refine CV.seq ?_
 refine CV.region ?_
 refine LV.step (VAL.assign rfl) rfl rfl rfl ?_
 refine LV.done ?_
 refine PV.sub [(0, a0), (2, (.lit (.bool false)))] ⟨rfl, rfl, trivial⟩ ?_
 refine PV.thenN ?_
 refine CV.seq ?_
 refine CV.region ?_
 refine LV.step (VAL.move rfl) rfl rfl rfl ?_
 refine LV.by (V.ge h1 rfl rfl) rfl rfl rfl fun x4_1 h2 => ?_
 refine LV.step (VAL.move rfl) rfl rfl rfl ?_
 refine LV.seam (E := envE) (ro := ro) (ρ0 := ρ0) (τ := AV × HT × Nat) (fun t => [(8, t.1), (2, (.lit (.bool false)))]) (fun t => t.2.1) (fun t => t.2.2) (fun t => g91_k1 ro  t.1 t.2.1 t.2.2 = .ok r T' n') 3 ?_ ?_
 ·
  rcases condK_inv h2 with ⟨e, h5⟩ | ⟨e, h5⟩
  ·
   clear h1 h2
   subst e
   refine LV.step (VAL.move rfl) rfl rfl rfl ?_
   refine LV.by (V.le h5 rfl rfl) rfl rfl rfl fun x7_2 h6 => ?_
   refine LV.step (VAL.pure rfl) rfl rfl rfl ?_
   exact LV.atSeam (x7_2, T, nx) hS h6 ⟨rfl, rfl, trivial⟩
  ·
   clear h1 h2
   subst e
   refine LV.skip rfl rfl rfl ?_
   refine LV.skip rfl rfl rfl ?_
   refine LV.step (VAL.pure rfl) rfl rfl rfl ?_
   exact LV.atSeam ((.lit (.bool false)), T, nx) hS h5 ⟨rfl, rfl, trivial⟩
 ·
  rintro ⟨y8, T1, n1⟩ ρ its hQ h3
  have hS : EY.ST w0 base envE ρ0 ρ T1 ro n1 its := hQ
  clear hQ
  change LV _ _ _ _ _ _ _ _ _ [(8, y8), (2, (.lit (.bool false)))] _
  have h4 : g91_k1 ro y8 T1 n1 = .ok r T' n' := h3
  unfold g91_k1 at h4
  clear h1 h2 h3
  refine LV.step (VAL.assign rfl) rfl rfl rfl ?_
  refine LV.done ?_
  refine PV.sub [(2, y8)] ⟨rfl, trivial⟩ ?_
  refine PV.thenN ?_
  refine CV.ret ?_
  cases h4
  exact PV.ret (by simp) Tryd.results91 hS (RS.tmp rfl RS.nil) rfl
noncomputable def g90 (ro : List HT) (a0 : AV) (T : HT) (nx : Nat) : R :=
 boxK 900001 T nx a0 27 fun x1_1 T1 n1 =>
 faK 900003 x1_1 0 fun x3_2 =>
 ldK 900004 T1 ro x3_2 fun x4_3 =>
 callK (g91 ro x4_3 T1 n1) fun x5_4 T2 n2 =>
 .ok (.val x5_4) T2 n2
theorem g90_ok (ro : List HT) (a0 : AV) (T : HT) (nx : Nat) : GOk Tryd.prog envE 90 [a0] ro T nx (g90 ro a0 T nx) := by
 refine GOk.of_body Tryd.func90 rfl Tryd.ntmps90 (by kernel_rfl) rfl fun r T' n' h1 w0 base ρ0 its hS hP => ?_
 unfold g90 at h1
 refine CV.sub [(0, a0)] ⟨rfl, trivial⟩ ?_
 refine CV.seq ?_
 refine CV.region ?_
 refine LV.box hS h1 rfl rfl rfl rfl rfl fun x1_1 T1 n1 h2 ρ its hS hdr => ?_
 refine LV.step (VAL.assign rfl) rfl rfl rfl ?_
 refine LV.done ?_
 refine PV.sub [(1, x1_1), (2, (.lit (.bool false)))] ⟨rfl, rfl, trivial⟩ ?_
 refine PV.thenN ?_
 refine CV.seq ?_
 refine CV.region ?_
 refine LV.by (V.fa h2 rfl Trf.fo27_0) rfl rfl rfl fun x3_2 h3 => ?_
 refine LV.by (V.ld hS h3 rfl Trf.one3) rfl rfl rfl fun x4_3 h4 => ?_
 refine LV.call hS h4 (g91_ok _ _ _ _ ) hP rfl rfl rfl rfl fun x5_4 T2 n2 h5 ρ its hS => ?_
 refine LV.step (VAL.assign rfl) rfl rfl rfl ?_
 refine LV.done ?_
 refine PV.sub [(2, x5_4)] ⟨rfl, trivial⟩ ?_
 refine PV.thenN ?_
 refine CV.ret ?_
 cases h5
 exact PV.ret (by simp) Tryd.results90 hS (RS.tmp rfl RS.nil) rfl
noncomputable def g111 (ro : List HT) (a0 : AV) (T : HT) (nx : Nat) : R :=
 boxK 1110001 T nx a0 27 fun x1_1 T1 n1 =>
 faK 1110003 x1_1 0 fun x3_2 =>
 ldK 1110004 T1 ro x3_2 fun x4_3 =>
 callK (g85 ro x4_3 T1 n1) fun x5_4 T2 n2 =>
 .ok (.val x5_4) T2 n2
theorem g111_ok (ro : List HT) (a0 : AV) (T : HT) (nx : Nat) : GOk Tryd.prog envE 111 [a0] ro T nx (g111 ro a0 T nx) := by
 refine GOk.of_body Tryd.func111 rfl Tryd.ntmps111 (by kernel_rfl) rfl fun r T' n' h1 w0 base ρ0 its hS hP => ?_
 unfold g111 at h1
 refine CV.sub [(0, a0)] ⟨rfl, trivial⟩ ?_
 refine CV.seq ?_
 refine CV.region ?_
 refine LV.box hS h1 rfl rfl rfl rfl rfl fun x1_1 T1 n1 h2 ρ its hS hdr => ?_
 refine LV.step (VAL.assign rfl) rfl rfl rfl ?_
 refine LV.done ?_
 refine PV.sub [(1, x1_1), (2, (.lit (.bool false)))] ⟨rfl, rfl, trivial⟩ ?_
 refine PV.thenN ?_
 refine CV.seq ?_
 refine CV.region ?_
 refine LV.by (V.fa h2 rfl Trf.fo27_0) rfl rfl rfl fun x3_2 h3 => ?_
 refine LV.by (V.ld hS h3 rfl Trf.one3) rfl rfl rfl fun x4_3 h4 => ?_
 refine LV.call hS h4 (g85_ok _ _ _ _ ) hP rfl rfl rfl rfl fun x5_4 T2 n2 h5 ρ its hS => ?_
 refine LV.step (VAL.assign rfl) rfl rfl rfl ?_
 refine LV.done ?_
 refine PV.sub [(2, x5_4)] ⟨rfl, trivial⟩ ?_
 refine PV.thenN ?_
 refine CV.ret ?_
 cases h5
 exact PV.ret (by simp) Tryd.results111 hS (RS.tmp rfl RS.nil) rfl
noncomputable def g112 (ro : List HT) (a0 : AV) (T : HT) (nx : Nat) : R :=
 boxK 1120001 T nx a0 27 fun x1_1 T1 n1 =>
 faK 1120003 x1_1 0 fun x3_2 =>
 ldK 1120004 T1 ro x3_2 fun x4_3 =>
 eqK Tryd.prog 3 (.tmp 4) (.const (.int .i64 (.ofNat 47))) 1120005 x4_3 (.lit (.int .i64 (.ofNat 47))) fun x5_4 =>
 .ok (.val x5_4) T1 n1
theorem g112_ok (ro : List HT) (a0 : AV) (T : HT) (nx : Nat) : GOk Tryd.prog envE 112 [a0] ro T nx (g112 ro a0 T nx) := by
 refine GOk.of_body Tryd.func112 rfl Tryd.ntmps112 (by kernel_rfl) rfl fun r T' n' h1 w0 base ρ0 its hS hP => ?_
 unfold g112 at h1
 refine CV.sub [(0, a0)] ⟨rfl, trivial⟩ ?_
 refine CV.seq ?_
 refine CV.region ?_
 refine LV.box hS h1 rfl rfl rfl rfl rfl fun x1_1 T1 n1 h2 ρ its hS hdr => ?_
 refine LV.step (VAL.assign rfl) rfl rfl rfl ?_
 refine LV.done ?_
 refine PV.sub [(1, x1_1), (2, (.lit (.bool false)))] ⟨rfl, rfl, trivial⟩ ?_
 refine PV.thenN ?_
 refine CV.seq ?_
 refine CV.region ?_
 refine LV.by (V.fa h2 rfl Trf.fo27_0) rfl rfl rfl fun x3_2 h3 => ?_
 refine LV.by (V.ld hS h3 rfl Trf.one3) rfl rfl rfl fun x4_3 h4 => ?_
 refine LV.by (V.eq h4 rfl rfl) rfl rfl rfl fun x5_4 h5 => ?_
 refine LV.step (VAL.assign rfl) rfl rfl rfl ?_
 refine LV.done ?_
 refine PV.sub [(2, x5_4)] ⟨rfl, trivial⟩ ?_
 refine PV.thenN ?_
 refine CV.ret ?_
 cases h5
 exact PV.ret (by simp) Tryd.results112 hS (RS.tmp rfl RS.nil) rfl
noncomputable def dynF (ro : List HT) (f : FuncId) (args : List AV) (T : HT) (nx : Nat) : R :=
  bif Nat.beq f 84 then (match args with | [a0] => g84 ro a0 T nx | _ => .bad 1) else bif Nat.beq f 87 then (match args with | [a0, a1] => g87 ro a0 a1 T nx | _ => .bad 1) else bif Nat.beq f 88 then (match args with | [a0] => g88 ro a0 T nx | _ => .bad 1) else bif Nat.beq f 90 then (match args with | [a0] => g90 ro a0 T nx | _ => .bad 1) else bif Nat.beq f 111 then (match args with | [a0] => g111 ro a0 T nx | _ => .bad 1) else bif Nat.beq f 112 then (match args with | [a0] => g112 ro a0 T nx | _ => .bad 1) else .bad 2
theorem dynF_ok (ro : List HT) (f : FuncId) (args : List AV) (T : HT) (nx : Nat) : GOk Tryd.prog envE f args ro T nx (dynF ro f args T nx) := by
  unfold dynF
  refine bif_go (fun hb => ?_) (fun _ => ?_)
  · obtain rfl := beqT hb
    split
    · exact g84_ok _ _ _ _ 
    · exact GOk.bad
  refine bif_go (fun hb => ?_) (fun _ => ?_)
  · obtain rfl := beqT hb
    split
    · exact g87_ok _ _ _ _ _ 
    · exact GOk.bad
  refine bif_go (fun hb => ?_) (fun _ => ?_)
  · obtain rfl := beqT hb
    split
    · exact g88_ok _ _ _ _ 
    · exact GOk.bad
  refine bif_go (fun hb => ?_) (fun _ => ?_)
  · obtain rfl := beqT hb
    split
    · exact g90_ok _ _ _ _ 
    · exact GOk.bad
  refine bif_go (fun hb => ?_) (fun _ => ?_)
  · obtain rfl := beqT hb
    split
    · exact g111_ok _ _ _ _ 
    · exact GOk.bad
  refine bif_go (fun hb => ?_) (fun _ => ?_)
  · obtain rfl := beqT hb
    split
    · exact g112_ok _ _ _ _ 
    · exact GOk.bad
  exact GOk.bad
noncomputable def g83_b1 (ro : List HT) (lp1 : AV → AV → AV → AV → AV → AV → HT → Nat → R) (y0 y2 y6 y9 y10 y11 : AV) (T1 : HT) (n1 : Nat) : R :=
 ltK Tryd.prog 3 (.tmp 11) (.tmp 10) 830005 y11 y10 fun x12_2 =>
 condK 830006 x12_2
 (
  iaK 830007 y9 y11 1 fun x13_3 =>
  ldK 830008 T1 ro x13_3 fun x14_4 =>
  ncK 830012 y0 fun x17_5 =>
  faK 830013 x17_5 0 fun x18_6 =>
  ldK 830014 T1 ro x18_6 fun x19_7 =>
  iaK 830016 x19_7 x14_4 5 fun x21_8 =>
  ldAK 830017 T1 ro x21_8 5 fun x22_9 =>
  dynK 830018 y2 fun f p q => callK (dynF ro f (p ++ ([x22_9] ++ q)) T1 n1) fun x23_10 T2 n2 =>
  notK 830019 x23_10 fun x24_11 =>
  condK 830020 x24_11
  (
   .ok (.val (.lit (.bool false))) T2 n2
  )
  (
   addK Tryd.prog 3 (.tmp 11) (.const (.int .i64 (.ofNat 1))) 830022 y11 (.lit (.int .i64 (.ofNat 1))) fun x25_12 =>
   lp1 y0 y2 y6 y9 y10 x25_12 T2 n2
  )
 )
 (
  .ok (.val (.lit (.bool true))) T1 n1
 )
noncomputable def g83_l1 (ro : List HT) (fuel : Nat) : AV → AV → AV → AV → AV → AV → HT → Nat → R :=
  Nat.rec (motive := fun _ => AV → AV → AV → AV → AV → AV → HT → Nat → R) (fun _ _ _ _ _ _ _ _ => .bad 830025) (fun _ lp => g83_b1 ro lp) fuel
noncomputable def g83 (ro : List HT) (a0 a1 a2 : AV) (T : HT) (nx : Nat) : R :=
 lenSK 830003 a1 fun x10_1 =>
 g83_l1 ro 100000 a0 a2 (.lit (.bool false)) a1 x10_1 (.lit (.int .i64 (.ofNat 0))) T nx
theorem g83_ok (ro : List HT) (a0 a1 a2 : AV) (T : HT) (nx : Nat) : GOk Tryd.prog envE 83 [a0, a1, a2] ro T nx (g83 ro a0 a1 a2 T nx) := by
 refine GOk.of_body Tryd.func83 rfl Tryd.ntmps83 (by kernel_rfl) rfl fun r T' n' h1 w0 base ρ0 its hS hP => ?_
 unfold g83 at h1
 refine CV.sub [(0, a0), (1, a1), (2, a2)] ⟨rfl, rfl, rfl, trivial⟩ ?_
 refine CV.seq ?_
 refine CV.region ?_
 refine LV.step (VAL.assign rfl) rfl rfl rfl ?_
 refine LV.done ?_
 refine PV.sub [(0, a0), (1, a1), (2, a2), (6, (.lit (.bool false)))] ⟨rfl, rfl, rfl, rfl, trivial⟩ ?_
 refine PV.thenN ?_
 refine CV.seq ?_
 refine CV.seq ?_
 refine CV.region ?_
 refine LV.step (VAL.move rfl) rfl rfl rfl ?_
 refine LV.by (V.lenS h1 rfl Trf.ls25) rfl rfl rfl fun x10_1 h2 => ?_
 refine LV.step (VAL.move rfl) rfl rfl rfl ?_
 refine LV.done ?_
 refine PV.sub [(0, a0), (2, a2), (6, (.lit (.bool false))), (9, a1), (10, x10_1), (11, (.lit (.int .i64 (.ofNat 0))))] ⟨rfl, rfl, rfl, rfl, rfl, rfl, trivial⟩ ?_
 refine PV.thenN ?_
 refine CV.block ?_
 refine CV.loop (E := envE) (ro := ro) (ρ0 := ρ0) (τ := AV × AV × AV × AV × AV × AV × HT × Nat) (fun t => [(0, t.1), (2, t.2.1), (6, t.2.2.1), (9, t.2.2.2.1), (10, t.2.2.2.2.1), (11, t.2.2.2.2.2.1)]) (fun t => t.2.2.2.2.2.2.1) (fun t => t.2.2.2.2.2.2.2) (fun f t => g83_l1 ro f t.1 t.2.1 t.2.2.1 t.2.2.2.1 t.2.2.2.2.1 t.2.2.2.2.2.1 t.2.2.2.2.2.2.1 t.2.2.2.2.2.2.2 = .ok r T' n') 100000 (a0, a2, (.lit (.bool false)), a1, x10_1, (.lit (.int .i64 (.ofNat 0))), T, nx) hS h2 ⟨rfl, rfl, rfl, rfl, rfl, rfl, trivial⟩ ?_
 rintro (_ | f1) ⟨y0, y2, y6, y9, y10, y11, T1, n1⟩ ρ its hQ h3
 · cases h3
 have hS : EY.ST w0 base envE ρ0 ρ T1 ro n1 its := hQ
 clear hQ
 change CV _ _ _ _ _ _ _ _ [(0, y0), (2, y2), (6, y6), (9, y9), (10, y10), (11, y11)] _
 have h4 : g83_b1 ro (g83_l1 ro f1) y0 y2 y6 y9 y10 y11 T1 n1 = .ok r T' n' := h3
 unfold g83_b1 at h4
 clear h1 h2 h3
 refine CV.seq ?_
 refine CV.region ?_
 refine LV.by (V.lt h4 rfl rfl) rfl rfl rfl fun x12_2 h5 => ?_
 refine LV.done ?_
 refine PV.sub [(0, y0), (2, y2), (6, y6), (9, y9), (10, y10), (11, y11), (12, x12_2)] ⟨rfl, rfl, rfl, rfl, rfl, rfl, rfl, trivial⟩ ?_
 refine PV.thenN ?_
 refine CV.seq ?_
 refine CV.cond h5 rfl (fun e h6 => ?_) (fun e h6 => ?_)
 ·
  clear h4 h5
  subst e
  refine CV.skip ?_
  refine PV.thenN ?_
  refine CV.seq ?_
  refine CV.block ?_
  refine CV.seq ?_
  refine CV.region ?_
  refine LV.by (V.ia h6 rfl rfl Trf.el25) rfl rfl rfl fun x13_3 h7 => ?_
  refine LV.by (V.ld hS h7 rfl Trf.one3) rfl rfl rfl fun x14_4 h8 => ?_
  refine LV.step (VAL.assign rfl) rfl rfl rfl ?_
  refine LV.done ?_
  refine PV.sub [(0, y0), (2, y2), (6, y6), (8, x14_4), (9, y9), (10, y10), (11, y11)] ⟨rfl, rfl, rfl, rfl, rfl, rfl, rfl, trivial⟩ ?_
  refine PV.thenN ?_
  refine CV.seq ?_
  refine CV.region ?_
  refine LV.step (VAL.move rfl) rfl rfl rfl ?_
  refine LV.step (VAL.move rfl) rfl rfl rfl ?_
  refine LV.by (V.nc h8 rfl) rfl rfl rfl fun x17_5 h9 => ?_
  refine LV.by (V.fa h9 rfl Trf.fo63_0) rfl rfl rfl fun x18_6 h10 => ?_
  refine LV.by (V.ld hS h10 rfl Trf.one24) rfl rfl rfl fun x19_7 h11 => ?_
  refine LV.step (VAL.move rfl) rfl rfl rfl ?_
  refine LV.by (V.ia h11 rfl rfl Trf.el24) rfl rfl rfl fun x21_8 h12 => ?_
  refine LV.by (V.ldA hS h12 rfl Trf.agg27) rfl rfl rfl fun x22_9 h13 => ?_
  refine LV.callD (G := fun f gs => dynF ro f gs T1 n1) (qs := [x22_9]) hS h13 (fun f gs => dynF_ok _ _ _ _ _) hP rfl rfl rfl rfl rfl rfl rfl fun x23_10 T2 n2 h14 ρ its hS => ?_
  refine LV.by (V.not h14 rfl) rfl rfl rfl fun x24_11 h15 => ?_
  refine LV.done ?_
  refine PV.sub [(0, y0), (2, y2), (6, y6), (9, y9), (10, y10), (11, y11), (24, x24_11)] ⟨rfl, rfl, rfl, rfl, rfl, rfl, rfl, trivial⟩ ?_
  refine PV.thenN ?_
  refine CV.cond h15 rfl (fun e h16 => ?_) (fun e h16 => ?_)
  ·
   clear h6 h7 h8 h9 h10 h11 h12 h13 h14 h15
   subst e
   refine CV.seq ?_
   refine CV.region ?_
   refine LV.step (VAL.assign rfl) rfl rfl rfl ?_
   refine LV.done ?_
   refine PV.sub [(0, y0), (2, y2), (6, (.lit (.bool false))), (9, y9), (10, y10), (11, y11)] ⟨rfl, rfl, rfl, rfl, rfl, rfl, trivial⟩ ?_
   refine PV.thenN ?_
   refine CV.ret ?_
   refine PV.blockR ?_
   refine PV.thenR ?_
   refine PV.thenR ?_
   refine PV.blockR ?_
   refine PV.thenR ?_
   cases h16
   exact PV.ret (by simp) Tryd.results83 hS (RS.tmp rfl RS.nil) rfl
  ·
   clear h6 h7 h8 h9 h10 h11 h12 h13 h14 h15
   subst e
   refine CV.skip ?_
   refine PV.blockN ?_
   refine PV.thenN ?_
   refine CV.region ?_
   refine LV.by (V.add h16 rfl rfl) rfl rfl rfl fun x25_12 h17 => ?_
   refine LV.step (VAL.move rfl) rfl rfl rfl ?_
   refine LV.done ?_
   refine PV.sub [(0, y0), (2, y2), (6, y6), (9, y9), (10, y10), (11, x25_12)] ⟨rfl, rfl, rfl, rfl, rfl, rfl, trivial⟩ ?_
   exact PV.atSeam (τ := Nat × AV × AV × AV × AV × AV × AV × HT × Nat) (f1, y0, y2, y6, y9, y10, x25_12, T2, n2) hS ⟨Nat.lt_succ_self _, h17⟩ ⟨rfl, rfl, rfl, rfl, rfl, rfl, trivial⟩
 ·
  clear h4 h5
  subst e
  refine CV.exit ?_
  refine PV.thenE ?_
  refine PV.thenE ?_
  refine PV.blockE ?_
  refine PV.thenN ?_
  refine CV.seq ?_
  refine CV.region ?_
  refine LV.step (VAL.assign rfl) rfl rfl rfl ?_
  refine LV.done ?_
  refine PV.sub [(6, (.lit (.bool true)))] ⟨rfl, trivial⟩ ?_
  refine PV.thenN ?_
  refine CV.ret ?_
  cases h6
  exact PV.ret (by simp) Tryd.results83 hS (RS.tmp rfl RS.nil) rfl

end Go.Proofs.YtggoogbloaennaaDoor.Tr
