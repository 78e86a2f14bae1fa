/-
  Proved here: plain functions that do what the program's functions do, each with its proof.
-/
import Derived.Test.YtggoogbloaennaaDoorTra
namespace Go.Proofs.YtggoogbloaennaaDoor.Tr
open Go.EY Go.EX Go.SX Go.RowKit
noncomputable def g81_k2 (ro : List HT) (y23 : AV) (T2 : HT) (n2 : Nat) : R :=
 .ok (.val y23) T2 n2
noncomputable def g81_k1 (ro : List HT) (y0 y1 y18 : AV) (T1 : HT) (n1 : Nat) : R :=
 condK 810009 y18
 (
  callK (g83 ro y0 y1 (.lit (.func (.func 111) #[] #[])) T1 n1) fun x22_3 T3 n3 =>
  g81_k2 ro x22_3 T3 n3
 )
 (
  g81_k2 ro (.lit (.bool false)) T1 n1
 )
noncomputable def g81 (ro : List HT) (a0 a1 a2 a3 : AV) (T : HT) (nx : Nat) : R :=
 lenSK 810003 a1 fun x10_1 =>
 geK Tryd.prog 3 (.tmp 10) (.tmp 11) 810005 x10_1 a2 fun x12_2 =>
 condK 810015 x12_2
 (
  lenSK 810017 a1 fun x15_4 =>
  leK Tryd.prog 3 (.tmp 15) (.tmp 16) 810019 x15_4 a3 fun x17_5 =>
  g81_k1 ro a0 a1 x17_5 T nx
 )
 (
  g81_k1 ro a0 a1 (.lit (.bool false)) T nx
 )
theorem g81_ok (ro : List HT) (a0 a1 a2 a3 : AV) (T : HT) (nx : Nat) : GOk Tryd.prog envE 81 [a0, a1, a2, a3] ro T nx (g81 ro a0 a1 a2 a3 T nx) := by
 refine GOk.of_body Tryd.func81 rfl Tryd.ntmps81 (by kernel_rfl) rfl fun r T' n' h1 w0 base ρ0 its hS hP => ?_
 unfold g81 at h1
 refine CV.sub [(0, a0), (1, a1), (2, a2), (3, a3)] ⟨rfl, rfl, rfl, rfl, trivial⟩ ?_
 refine CV.seq ?_
 refine CV.region ?_
 refine LV.step (VAL.assign rfl) rfl rfl rfl ?_
 refine LV.done ?_
 refine PV.sub [(0, a0), (1, a1), (2, a2), (3, a3), (8, (.lit (.bool false)))] ⟨rfl, rfl, rfl, rfl, rfl, trivial⟩ ?_
 refine PV.thenN ?_
 refine CV.seq ?_
 refine CV.region ?_
 refine LV.step (VAL.move rfl) rfl rfl rfl ?_
 refine LV.by (V.lenS h1 rfl Trf.ls25) rfl rfl rfl fun x10_1 h2 => ?_
 refine LV.step (VAL.move rfl) rfl rfl rfl ?_
 refine LV.by (V.ge h2 rfl rfl) rfl rfl rfl fun x12_2 h3 => ?_
 refine LV.step (VAL.move rfl) rfl rfl rfl ?_
 refine LV.seam (E := envE) (ro := ro) (ρ0 := ρ0) (τ := AV × AV × AV × HT × Nat) (fun t => [(0, t.1), (1, t.2.1), (18, t.2.2.1), (8, (.lit (.bool false)))]) (fun t => t.2.2.2.1) (fun t => t.2.2.2.2) (fun t => g81_k1 ro  t.1 t.2.1 t.2.2.1 t.2.2.2.1 t.2.2.2.2 = .ok r T' n') 5 ?_ ?_
 ·
  rcases condK_inv h3 with ⟨e, h10⟩ | ⟨e, h10⟩
  ·
   clear h1 h2 h3
   subst e
   refine LV.step (VAL.move rfl) rfl rfl rfl ?_
   refine LV.by (V.lenS h10 rfl Trf.ls25) rfl rfl rfl fun x15_4 h11 => ?_
   refine LV.step (VAL.move rfl) rfl rfl rfl ?_
   refine LV.by (V.le h11 rfl rfl) rfl rfl rfl fun x17_5 h12 => ?_
   refine LV.step (VAL.pure rfl) rfl rfl rfl ?_
   exact LV.atSeam (a0, a1, x17_5, T, nx) hS h12 ⟨rfl, rfl, rfl, rfl, trivial⟩
  ·
   clear h1 h2 h3
   subst e
   refine LV.skip rfl rfl rfl ?_
   refine LV.skip rfl rfl rfl ?_
   refine LV.skip rfl rfl rfl ?_
   refine LV.skip rfl rfl rfl ?_
   refine LV.step (VAL.pure rfl) rfl rfl rfl ?_
   exact LV.atSeam (a0, a1, (.lit (.bool false)), T, nx) hS h10 ⟨rfl, rfl, rfl, rfl, trivial⟩
 ·
  rintro ⟨y0, y1, y18, T1, n1⟩ ρ its hQ h4
  have hS : EY.ST w0 base envE ρ0 ρ T1 ro n1 its := hQ
  clear hQ
  change LV _ _ _ _ _ _ _ _ _ [(0, y0), (1, y1), (18, y18), (8, (.lit (.bool false)))] _
  have h5 : g81_k1 ro y0 y1 y18 T1 n1 = .ok r T' n' := h4
  unfold g81_k1 at h5
  clear h1 h2 h3 h4
  refine LV.step (VAL.move rfl) rfl rfl rfl ?_
  refine LV.seam (E := envE) (ro := ro) (ρ0 := ρ0) (τ := AV × HT × Nat) (fun t => [(23, t.1), (8, (.lit (.bool false)))]) (fun t => t.2.1) (fun t => t.2.2) (fun t => g81_k2 ro  t.1 t.2.1 t.2.2 = .ok r T' n') 4 ?_ ?_
  ·
   rcases condK_inv h5 with ⟨e, h8⟩ | ⟨e, h8⟩
   ·
    clear h5
    subst e
    refine LV.step (VAL.move rfl) rfl rfl rfl ?_
    refine LV.step (VAL.move rfl) rfl rfl rfl ?_
    refine LV.call hS h8 (g83_ok _ _ _ _ _ _ ) hP rfl rfl rfl rfl fun x22_3 T3 n3 h9 ρ its hS => ?_
    refine LV.step (VAL.pure rfl) rfl rfl rfl ?_
    exact LV.atSeam (x22_3, T3, n3) hS h9 ⟨rfl, rfl, trivial⟩
   ·
    clear h5
    subst e
    refine LV.skip rfl rfl rfl ?_
    refine LV.skip rfl rfl rfl ?_
    refine LV.skip rfl rfl rfl ?_
    refine LV.step (VAL.pure rfl) rfl rfl rfl ?_
    exact LV.atSeam ((.lit (.bool false)), T1, n1) hS h8 ⟨rfl, rfl, trivial⟩
  ·
   rintro ⟨y23, T2, n2⟩ ρ its hQ h6
   have hS : EY.ST w0 base envE ρ0 ρ T2 ro n2 its := hQ
   clear hQ
   change LV _ _ _ _ _ _ _ _ _ [(23, y23), (8, (.lit (.bool false)))] _
   have h7 : g81_k2 ro y23 T2 n2 = .ok r T' n' := h6
   unfold g81_k2 at h7
   clear h5 h6
   refine LV.step (VAL.assign rfl) rfl rfl rfl ?_
   refine LV.done ?_
   refine PV.sub [(8, y23)] ⟨rfl, trivial⟩ ?_
   refine PV.thenN ?_
   refine CV.ret ?_
   cases h7
   exact PV.ret (by simp) Tryd.results81 hS (RS.tmp rfl RS.nil) rfl
noncomputable def g82_k2 (ro : List HT) (lp1 : AV → AV → AV → AV → AV → AV → HT → Nat → R) (y0 y4 y5 y8 y9 y10 : AV) (T2 : HT) (n2 : Nat) : R :=
 addK Tryd.prog 3 (.tmp 10) (.const (.int .i64 (.ofNat 1))) 820008 y10 (.lit (.int .i64 (.ofNat 1))) fun x33_3 =>
 lp1 y0 y4 y5 y8 y9 x33_3 T2 n2
noncomputable def g82_k3 (ro : List HT) (lp1 : AV → AV → AV → AV → AV → AV → HT → Nat → R) (y0 y4 y5 y8 y9 y10 y32 : AV) (T4 : HT) (n4 : Nat) : R :=
 condK 820026 y32
 (
  .ok (.val (.lit (.bool false))) T4 n4
 )
 (
  g82_k2 ro lp1 y0 y4 y5 y8 y9 y10 T4 n4
 )
noncomputable def g82_b1 (ro : List HT) (lp1 : AV → AV → AV → AV → AV → AV → HT → Nat → R) (y0 y4 y5 y8 y9 y10 : AV) (T1 : HT) (n1 : Nat) : R :=
 ltK Tryd.prog 3 (.tmp 10) (.tmp 9) 820006 y10 y9 fun x11_2 =>
 condK 820007 x11_2
 (
  iaK 820011 y8 y10 1 fun x13_4 =>
  ldK 820012 T1 ro x13_4 fun x14_5 =>
  callK (g89 ro y0 x14_5 (.lit (.int .i64 (.ofNat 11))) T1 n1) fun x17_6 T3 n3 =>
  condK 820018 x17_6
  (
   eqK Tryd.prog 3 (.tmp 18) (.const (.int .i64 (.ofNat 0))) 820021 y10 (.lit (.int .i64 (.ofNat 0))) fun x19_7 =>
   condK 820022 x19_7
   (
    .ok (.val (.lit (.bool false))) T3 n3
   )
   (
    g82_k2 ro lp1 y0 y4 (.lit (.bool true)) y8 y9 y10 T3 n3
   )
  )
  (
   condK 820028 y5
   (
    g82_k3 ro lp1 y0 y4 (.lit (.bool true)) y8 y9 y10 (.lit (.bool true)) T3 n3
   )
   (
    ncK 820031 y0 fun x23_8 =>
    faK 820032 x23_8 0 fun x24_9 =>
    ldK 820033 T3 ro x24_9 fun x25_10 =>
    iaK 820035 x25_10 x14_5 5 fun x27_11 =>
    faK 820036 x27_11 0 fun x28_12 =>
    ldK 820037 T3 ro x28_12 fun x29_13 =>
    callK (g85 ro x29_13 T3 n3) fun x30_14 T5 n5 =>
    notK 820039 x30_14 fun x31_15 =>
    g82_k3 ro lp1 y0 y4 (.lit (.bool false)) y8 y9 y10 x31_15 T5 n5
   )
  )
 )
 (
  .ok (.val (.lit (.bool true))) T1 n1
 )
noncomputable def g82_l1 (ro : List HT) (fuel : Nat) : AV → AV → AV → AV → AV → AV → HT → Nat → R :=
  Nat.rec (motive := fun _ => AV → AV → AV → AV → AV → AV → HT → Nat → R) (fun _ _ _ _ _ _ _ _ => .bad 820042) (fun _ lp => g82_b1 ro lp) fuel
noncomputable def g82 (ro : List HT) (a0 a1 : AV) (T : HT) (nx : Nat) : R :=
 lenSK 820004 a1 fun x9_1 =>
 g82_l1 ro 100000 a0 (.lit (.bool false)) (.lit (.bool false)) a1 x9_1 (.lit (.int .i64 (.ofNat 0))) T nx
theorem g82_ok (ro : List HT) (a0 a1 : AV) (T : HT) (nx : Nat) : GOk Tryd.prog envE 82 [a0, a1] ro T nx (g82 ro a0 a1 T nx) := by
 refine GOk.of_body Tryd.func82 rfl Tryd.ntmps82 (by kernel_rfl) rfl fun r T' n' h1 w0 base ρ0 its hS hP => ?_
 unfold g82 at h1
 refine CV.sub [(0, a0), (1, a1)] ⟨rfl, rfl, trivial⟩ ?_
 refine CV.seq ?_
 refine CV.region ?_
 refine LV.step (VAL.assign rfl) rfl rfl rfl ?_
 refine LV.done ?_
 refine PV.sub [(0, a0), (1, a1), (4, (.lit (.bool false)))] ⟨rfl, rfl, rfl, trivial⟩ ?_
 refine PV.thenN ?_
 refine CV.seq ?_
 refine CV.region ?_
 refine LV.step (VAL.assign rfl) rfl rfl rfl ?_
 refine LV.done ?_
 refine PV.sub [(0, a0), (1, a1), (4, (.lit (.bool false))), (5, (.lit (.bool false)))] ⟨rfl, rfl, rfl, rfl, trivial⟩ ?_
 refine PV.thenN ?_
 refine CV.seq ?_
 refine CV.seq ?_
 refine CV.region ?_
 refine LV.step (VAL.move rfl) rfl rfl rfl ?_
 refine LV.by (V.lenS h1 rfl Trf.ls25) rfl rfl rfl fun x9_1 h2 => ?_
 refine LV.step (VAL.move rfl) rfl rfl rfl ?_
 refine LV.done ?_
 refine PV.sub [(0, a0), (4, (.lit (.bool false))), (5, (.lit (.bool false))), (8, a1), (9, x9_1), (10, (.lit (.int .i64 (.ofNat 0))))] ⟨rfl, rfl, rfl, rfl, rfl, rfl, trivial⟩ ?_
 refine PV.thenN ?_
 refine CV.block ?_
 refine CV.loop (E := envE) (ro := ro) (ρ0 := ρ0) (τ := AV × AV × AV × AV × AV × AV × HT × Nat) (fun t => [(0, t.1), (4, t.2.1), (5, t.2.2.1), (8, t.2.2.2.1), (9, t.2.2.2.2.1), (10, t.2.2.2.2.2.1)]) (fun t => t.2.2.2.2.2.2.1) (fun t => t.2.2.2.2.2.2.2) (fun f t => g82_l1 ro f t.1 t.2.1 t.2.2.1 t.2.2.2.1 t.2.2.2.2.1 t.2.2.2.2.2.1 t.2.2.2.2.2.2.1 t.2.2.2.2.2.2.2 = .ok r T' n') 100000 (a0, (.lit (.bool false)), (.lit (.bool false)), a1, x9_1, (.lit (.int .i64 (.ofNat 0))), T, nx) hS h2 ⟨rfl, rfl, rfl, rfl, rfl, rfl, trivial⟩ ?_
 rintro (_ | f1) ⟨y0, y4, y5, y8, y9, y10, T1, n1⟩ ρ its hQ h3
 · cases h3
 have hS : EY.ST w0 base envE ρ0 ρ T1 ro n1 its := hQ
 clear hQ
 change CV _ _ _ _ _ _ _ _ [(0, y0), (4, y4), (5, y5), (8, y8), (9, y9), (10, y10)] _
 have h4 : g82_b1 ro (g82_l1 ro f1) y0 y4 y5 y8 y9 y10 T1 n1 = .ok r T' n' := h3
 unfold g82_b1 at h4
 clear h1 h2 h3
 refine CV.seq ?_
 refine CV.region ?_
 refine LV.by (V.lt h4 rfl rfl) rfl rfl rfl fun x11_2 h5 => ?_
 refine LV.done ?_
 refine PV.sub [(0, y0), (4, y4), (5, y5), (8, y8), (9, y9), (10, y10), (11, x11_2)] ⟨rfl, rfl, rfl, rfl, rfl, rfl, rfl, trivial⟩ ?_
 refine PV.thenN ?_
 refine CV.seq ?_
 refine CV.cond h5 rfl (fun e h6 => ?_) (fun e h6 => ?_)
 ·
  clear h4 h5
  subst e
  refine CV.skip ?_
  refine PV.thenN ?_
  refine CV.seam (E := envE) (ro := ro) (ρ0 := ρ0) (τ := AV × AV × AV × AV × AV × AV × HT × Nat) (fun t => [(0, t.1), (4, t.2.1), (5, t.2.2.1), (8, t.2.2.2.1), (9, t.2.2.2.2.1), (10, t.2.2.2.2.2.1)]) (fun t => t.2.2.2.2.2.2.1) (fun t => t.2.2.2.2.2.2.2) (fun t => g82_k2 ro (g82_l1 ro f1)  t.1 t.2.1 t.2.2.1 t.2.2.2.1 t.2.2.2.2.1 t.2.2.2.2.2.1 t.2.2.2.2.2.2.1 t.2.2.2.2.2.2.2 = .ok r T' n') ?_ ?_
  ·
   refine CV.block ?_
   refine CV.seq ?_
   refine CV.region ?_
   refine LV.step (VAL.move rfl) rfl rfl rfl ?_
   refine LV.by (V.ia h6 rfl rfl Trf.el25) rfl rfl rfl fun x13_4 h10 => ?_
   refine LV.by (V.ld hS h10 rfl Trf.one3) rfl rfl rfl fun x14_5 h11 => ?_
   refine LV.step (VAL.assign rfl) rfl rfl rfl ?_
   refine LV.step (VAL.assign rfl) rfl rfl rfl ?_
   refine LV.done ?_
   refine PV.sub [(0, y0), (4, y4), (5, y5), (6, y10), (7, x14_5), (8, y8), (9, y9), (10, y10)] ⟨rfl, rfl, rfl, rfl, rfl, rfl, rfl, rfl, trivial⟩ ?_
   refine PV.thenN ?_
   refine CV.seq ?_
   refine CV.seq ?_
   refine CV.region ?_
   refine LV.step (VAL.move rfl) rfl rfl rfl ?_
   refine LV.step (VAL.move rfl) rfl rfl rfl ?_
   refine LV.call hS h11 (g89_ok _ _ _ _ _ _ ) hP rfl rfl rfl rfl fun x17_6 T3 n3 h12 ρ its hS => ?_
   refine LV.done ?_
   refine PV.sub [(0, y0), (4, y4), (5, y5), (6, y10), (7, x14_5), (8, y8), (9, y9), (10, y10), (17, x17_6)] ⟨rfl, rfl, rfl, rfl, rfl, rfl, rfl, rfl, rfl, trivial⟩ ?_
   refine PV.thenN ?_
   refine CV.cond h12 rfl (fun e h13 => ?_) (fun e h13 => ?_)
   ·
    clear h6 h10 h11 h12
    subst e
    refine CV.seq ?_
    refine CV.region ?_
    refine LV.step (VAL.assign rfl) rfl rfl rfl ?_
    refine LV.done ?_
    refine PV.sub [(0, y0), (4, y4), (5, (.lit (.bool true))), (6, y10), (7, x14_5), (8, y8), (9, y9), (10, y10)] ⟨rfl, rfl, rfl, rfl, rfl, rfl, rfl, rfl, trivial⟩ ?_
    refine PV.thenN ?_
    refine CV.seq ?_
    refine CV.seq ?_
    refine CV.region ?_
    refine LV.step (VAL.move rfl) rfl rfl rfl ?_
    refine LV.by (V.eq h13 rfl rfl) rfl rfl rfl fun x19_7 h14 => ?_
    refine LV.done ?_
    refine PV.sub [(0, y0), (4, y4), (5, (.lit (.bool true))), (7, x14_5), (8, y8), (9, y9), (10, y10), (19, x19_7)] ⟨rfl, rfl, rfl, rfl, rfl, rfl, rfl, rfl, trivial⟩ ?_
    refine PV.thenN ?_
    refine CV.cond h14 rfl (fun e h15 => ?_) (fun e h15 => ?_)
    ·
     clear h13 h14
     subst e
     refine CV.seq ?_
     refine CV.region ?_
     refine LV.step (VAL.assign rfl) rfl rfl rfl ?_
     refine LV.done ?_
     refine PV.sub [(0, y0), (4, (.lit (.bool false))), (5, (.lit (.bool true))), (7, x14_5), (8, y8), (9, y9), (10, y10)] ⟨rfl, rfl, rfl, rfl, rfl, rfl, rfl, trivial⟩ ?_
     refine PV.thenN ?_
     refine CV.ret ?_
     refine PV.thenR ?_
     refine PV.thenR ?_
     refine PV.blockR ?_
     refine PV.thenR ?_
     refine PV.thenR ?_
     refine PV.blockR ?_
     refine PV.thenR ?_
     cases h15
     exact PV.ret (by simp) Tryd.results82 hS (RS.tmp rfl RS.nil) rfl
    ·
     clear h13 h14
     subst e
     refine CV.skip ?_
     refine PV.thenN ?_
     refine CV.exit ?_
     refine PV.thenE ?_
     refine PV.blockE ?_
     exact PV.atSeam (y0, y4, (.lit (.bool true)), y8, y9, y10, T3, n3) hS h15 ⟨rfl, rfl, rfl, rfl, rfl, rfl, trivial⟩
   ·
    clear h6 h10 h11 h12
    subst e
    refine CV.skip ?_
    refine PV.thenN ?_
    refine CV.seq ?_
    refine CV.region ?_
    refine LV.step (VAL.move rfl) rfl rfl rfl ?_
    refine LV.step (VAL.move rfl) rfl rfl rfl ?_
    refine LV.seam (E := envE) (ro := ro) (ρ0 := ρ0) (τ := AV × AV × AV × AV × AV × AV × AV × HT × Nat) (fun t => [(0, t.1), (4, t.2.1), (5, t.2.2.1), (8, t.2.2.2.1), (9, t.2.2.2.2.1), (10, t.2.2.2.2.2.1), (32, t.2.2.2.2.2.2.1)]) (fun t => t.2.2.2.2.2.2.2.1) (fun t => t.2.2.2.2.2.2.2.2) (fun t => g82_k3 ro (g82_l1 ro f1)  t.1 t.2.1 t.2.2.1 t.2.2.2.1 t.2.2.2.2.1 t.2.2.2.2.2.1 t.2.2.2.2.2.2.1 t.2.2.2.2.2.2.2.1 t.2.2.2.2.2.2.2.2 = .ok r T' n') 11 ?_ ?_
    ·
     rcases condK_inv h13 with ⟨e, h19⟩ | ⟨e, h19⟩
     ·
      clear h13
      subst e
      refine LV.skip rfl rfl rfl ?_
      refine LV.skip rfl rfl rfl ?_
      refine LV.skip rfl rfl rfl ?_
      refine LV.skip rfl rfl rfl ?_
      refine LV.skip rfl rfl rfl ?_
      refine LV.skip rfl rfl rfl ?_
      refine LV.skip rfl rfl rfl ?_
      refine LV.skip rfl rfl rfl ?_
      refine LV.skip rfl rfl rfl ?_
      refine LV.skip rfl rfl rfl ?_
      refine LV.step (VAL.pure rfl) rfl rfl rfl ?_
      exact LV.atSeam (y0, y4, (.lit (.bool true)), y8, y9, y10, (.lit (.bool true)), T3, n3) hS h19 ⟨rfl, rfl, rfl, rfl, rfl, rfl, rfl, trivial⟩
     ·
      clear h13
      subst e
      refine LV.step (VAL.move rfl) rfl rfl rfl ?_
      refine LV.by (V.nc h19 rfl) rfl rfl rfl fun x23_8 h20 => ?_
      refine LV.by (V.fa h20 rfl Trf.fo63_0) rfl rfl rfl fun x24_9 h21 => ?_
      refine LV.by (V.ld hS h21 rfl Trf.one24) rfl rfl rfl fun x25_10 h22 => ?_
      refine LV.step (VAL.move rfl) rfl rfl rfl ?_
      refine LV.by (V.ia h22 rfl rfl Trf.el24) rfl rfl rfl fun x27_11 h23 => ?_
      refine LV.by (V.fa h23 rfl Trf.fo27_0) rfl rfl rfl fun x28_12 h24 => ?_
      refine LV.by (V.ld hS h24 rfl Trf.one3) rfl rfl rfl fun x29_13 h25 => ?_
      refine LV.call hS h25 (g85_ok _ _ _ _ ) hP rfl rfl rfl rfl fun x30_14 T5 n5 h26 ρ its hS => ?_
      refine LV.by (V.not h26 rfl) rfl rfl rfl fun x31_15 h27 => ?_
      refine LV.step (VAL.pure rfl) rfl rfl rfl ?_
      exact LV.atSeam (y0, y4, (.lit (.bool false)), y8, y9, y10, x31_15, T5, n5) hS h27 ⟨rfl, rfl, rfl, rfl, rfl, rfl, rfl, trivial⟩
    ·
     rintro ⟨y0, y4, y5, y8, y9, y10, y32, T4, n4⟩ ρ its hQ h16
     have hS : EY.ST w0 base envE ρ0 ρ T4 ro n4 its := hQ
     clear hQ
     change LV _ _ _ _ _ _ _ _ _ [(0, y0), (4, y4), (5, y5), (8, y8), (9, y9), (10, y10), (32, y32)] _
     have h17 : g82_k3 ro (g82_l1 ro f1) y0 y4 y5 y8 y9 y10 y32 T4 n4 = .ok r T' n' := h16
     unfold g82_k3 at h17
     clear h13 h16
     refine LV.done ?_
     refine PV.sub [(0, y0), (4, y4), (5, y5), (8, y8), (9, y9), (10, y10), (32, y32)] ⟨rfl, rfl, rfl, rfl, rfl, rfl, rfl, trivial⟩ ?_
     refine PV.thenN ?_
     refine CV.cond h17 rfl (fun e h18 => ?_) (fun e h18 => ?_)
     ·
      clear h17
      subst e
      refine CV.seq ?_
      refine CV.region ?_
      refine LV.step (VAL.assign rfl) rfl rfl rfl ?_
      refine LV.done ?_
      refine PV.sub [(0, y0), (4, (.lit (.bool false))), (5, y5), (8, y8), (9, y9), (10, y10)] ⟨rfl, rfl, rfl, rfl, rfl, rfl, trivial⟩ ?_
      refine PV.thenN ?_
      refine CV.ret ?_
      refine PV.blockR ?_
      refine PV.thenR ?_
      refine PV.thenR ?_
      refine PV.blockR ?_
      refine PV.thenR ?_
      cases h18
      exact PV.ret (by simp) Tryd.results82 hS (RS.tmp rfl RS.nil) rfl
     ·
      clear h17
      subst e
      refine CV.skip ?_
      refine PV.blockN ?_
      exact PV.atSeam (y0, y4, y5, y8, y9, y10, T4, n4) hS h18 ⟨rfl, rfl, rfl, rfl, rfl, rfl, trivial⟩
  ·
   rintro ⟨y0, y4, y5, y8, y9, y10, T2, n2⟩ ρ its hQ h7
   have hS : EY.ST w0 base envE ρ0 ρ T2 ro n2 its := hQ
   clear hQ
   change CV _ _ _ _ _ _ _ _ [(0, y0), (4, y4), (5, y5), (8, y8), (9, y9), (10, y10)] _
   have h8 : g82_k2 ro (g82_l1 ro f1) y0 y4 y5 y8 y9 y10 T2 n2 = .ok r T' n' := h7
   unfold g82_k2 at h8
   clear h6 h7
   refine CV.region ?_
   refine LV.by (V.add h8 rfl rfl) rfl rfl rfl fun x33_3 h9 => ?_
   refine LV.step (VAL.move rfl) rfl rfl rfl ?_
   refine LV.done ?_
   refine PV.sub [(0, y0), (4, y4), (5, y5), (8, y8), (9, y9), (10, x33_3)] ⟨rfl, rfl, rfl, rfl, rfl, rfl, trivial⟩ ?_
   exact PV.atSeam (τ := Nat × AV × AV × AV × AV × AV × AV × HT × Nat) (f1, y0, y4, y5, y8, y9, x33_3, T2, n2) hS ⟨Nat.lt_succ_self _, h9⟩ ⟨rfl, rfl, rfl, rfl, rfl, rfl, trivial⟩
 ·
  clear h4 h5
  subst e
  refine CV.exit ?_
  refine PV.thenE ?_
  refine PV.thenE ?_
  refine PV.blockE ?_
  refine PV.thenN ?_
  refine CV.seq ?_
  refine CV.region ?_
  refine LV.step (VAL.assign rfl) rfl rfl rfl ?_
  refine LV.done ?_
  refine PV.sub [(4, (.lit (.bool true)))] ⟨rfl, trivial⟩ ?_
  refine PV.thenN ?_
  refine CV.ret ?_
  cases h6
  exact PV.ret (by simp) Tryd.results82 hS (RS.tmp rfl RS.nil) rfl
noncomputable def g86_k1 (ih : FuncId → List HT → List AV → HT → Nat → R) (ro : List HT) (y0 y5 y25 : AV) (T3 : HT) (n3 : Nat) : R :=
 .ok (.val y25) T3 n3
noncomputable def g86_b2 (ih : FuncId → List HT → List AV → HT → Nat → R) (ro : List HT) (lp2 : AV → AV → AV → AV → AV → AV → HT → Nat → R) (y0 y4 y5 y27 y28 y29 : AV) (T4 : HT) (n4 : Nat) : R :=
 ltK Tryd.prog 3 (.tmp 29) (.tmp 28) 860030 y29 y28 fun x30_19 =>
 condK 860031 x30_19
 (
  iaK 860032 y27 y29 1 fun x31_20 =>
  ldK 860033 T4 ro x31_20 fun x32_21 =>
  callK (ih 86 ro [y0, x32_21] T4 n4) fun x35_22 T5 n5 =>
  notK 860038 x35_22 fun x36_23 =>
  condK 860039 x36_23
  (
   .ok (.val (.lit (.bool false))) T5 n5
  )
  (
   addK Tryd.prog 3 (.tmp 29) (.const (.int .i64 (.ofNat 1))) 860041 y29 (.lit (.int .i64 (.ofNat 1))) fun x37_24 =>
   lp2 y0 y4 y5 y27 y28 x37_24 T5 n5
  )
 )
 (
  faK 860043 y5 4 fun x38_25 =>
  ldK 860044 T4 ro x38_25 fun x39_26 =>
  lenSK 860045 x39_26 fun x40_27 =>
  gtK Tryd.prog 3 (.tmp 40) (.const (.int .i64 (.ofNat 0))) 860046 x40_27 (.lit (.int .i64 (.ofNat 0))) fun x41_28 =>
  .ok (.val x41_28) T4 n4
 )
noncomputable def g86_l2 (ih : FuncId → List HT → List AV → HT → Nat → R) (ro : List HT) (fuel : Nat) : AV → AV → AV → AV → AV → AV → HT → Nat → R :=
  Nat.rec (motive := fun _ => AV → AV → AV → AV → AV → AV → HT → Nat → R) (fun _ _ _ _ _ _ _ _ => .bad 860048) (fun _ lp => g86_b2 ih ro lp) fuel
noncomputable def g86 (ih : FuncId → List HT → List AV → HT → Nat → R) (ro : List HT) (a0 a1 : AV) (T : HT) (nx : Nat) : R :=
 ncK 860003 a0 fun x9_1 =>
 faK 860004 x9_1 0 fun x10_2 =>
 ldK 860005 T ro x10_2 fun x11_3 =>
 iaK 860007 x11_3 a1 5 fun x13_4 =>
 ldAK 860008 T ro x13_4 5 fun x14_5 =>
 newK T nx (.obj [.lit (.int .i64 0), .lit (.int .i64 0), .lit (.int .i64 0), .lit (.string ⟨#[]⟩), .lit (.slice none 0 0)] 27) fun x5_6 T1 n1 =>
 stAK 860010 T1 x5_6 x14_5 5 fun T2 =>
 faK 860011 x5_6 0 fun x15_7 =>
 ldK 860012 T2 ro x15_7 fun x16_8 =>
 neK Tryd.prog 3 (.tmp 16) (.const (.int .i64 (.ofNat 8))) 860013 x16_8 (.lit (.int .i64 (.ofNat 8))) fun x17_9 =>
 condK 860014 x17_9
 (
  faK 860015 x5_6 0 fun x18_10 =>
  ldK 860016 T2 ro x18_10 fun x19_11 =>
  eqK Tryd.prog 3 (.tmp 19) (.const (.int .i64 (.ofNat 6))) 860017 x19_11 (.lit (.int .i64 (.ofNat 6))) fun x20_12 =>
  condK 860020 x20_12
  (
   g86_k1 ih ro a0 x5_6 (.lit (.bool true)) T2 n1
  )
  (
   faK 860022 x5_6 0 fun x22_13 =>
   ldK 860023 T2 ro x22_13 fun x23_14 =>
   eqK Tryd.prog 3 (.tmp 23) (.const (.int .i64 (.ofNat 13))) 860024 x23_14 (.lit (.int .i64 (.ofNat 13))) fun x24_15 =>
   g86_k1 ih ro a0 x5_6 x24_15 T2 n1
  )
 )
 (
  faK 860026 x5_6 4 fun x26_16 =>
  ldK 860027 T2 ro x26_16 fun x27_17 =>
  lenSK 860028 x27_17 fun x28_18 =>
  g86_l2 ih ro 100000 a0 (.lit (.bool false)) x5_6 x27_17 x28_18 (.lit (.int .i64 (.ofNat 0))) T2 n1
 )
theorem g86_ok (ih : FuncId → List HT → List AV → HT → Nat → R) (hI : ∀ f ro args T nx, GOk Tryd.prog envE f args ro T nx (ih f ro args T nx)) (ro : List HT) (a0 a1 : AV) (T : HT) (nx : Nat) : GOk Tryd.prog envE 86 [a0, a1] ro T nx (g86 ih ro a0 a1 T nx) := by
 refine GOk.of_body Tryd.func86 rfl Tryd.ntmps86 (by kernel_rfl) rfl fun r T' n' h1 w0 base ρ0 its hS hP => ?_
 unfold g86 at h1
 refine CV.sub [(0, a0), (1, a1)] ⟨rfl, rfl, trivial⟩ ?_
 refine CV.seq ?_
 refine CV.region ?_
 refine LV.step (VAL.assign rfl) rfl rfl rfl ?_
 refine LV.done ?_
 refine PV.sub [(0, a0), (1, a1), (4, (.lit (.bool false)))] ⟨rfl, rfl, rfl, trivial⟩ ?_
 refine PV.thenN ?_
 refine CV.seq ?_
 refine CV.region ?_
 refine LV.step (VAL.move rfl) rfl rfl rfl ?_
 refine LV.by (V.nc h1 rfl) rfl rfl rfl fun x9_1 h2 => ?_
 refine LV.by (V.fa h2 rfl Trf.fo63_0) rfl rfl rfl fun x10_2 h3 => ?_
 refine LV.by (V.ld hS h3 rfl Trf.one24) rfl rfl rfl fun x11_3 h4 => ?_
 refine LV.step (VAL.move rfl) rfl rfl rfl ?_
 refine LV.by (V.ia h4 rfl rfl Trf.el24) rfl rfl rfl fun x13_4 h5 => ?_
 refine LV.by (V.ldA hS h5 rfl Trf.agg27) rfl rfl rfl fun x14_5 h6 => ?_
 refine LV.alloc hS h6 rfl Trf.zr27 rfl rfl rfl fun x5_6 T1 n1 h7 ρ its hS hdr => ?_
 refine LV.stA hS h7 rfl rfl rfl Trf.agg27 rfl rfl rfl fun T2 its h8 hS => ?_
 refine LV.done ?_
 refine PV.sub [(0, a0), (4, (.lit (.bool false))), (5, x5_6)] ⟨rfl, rfl, rfl, trivial⟩ ?_
 refine PV.thenN ?_
 refine CV.seq ?_
 refine CV.seq ?_
 refine CV.region ?_
 refine LV.by (V.fa h8 rfl Trf.fo27_0) rfl rfl rfl fun x15_7 h9 => ?_
 refine LV.by (V.ld hS h9 rfl Trf.one3) rfl rfl rfl fun x16_8 h10 => ?_
 refine LV.by (V.ne h10 rfl rfl) rfl rfl rfl fun x17_9 h11 => ?_
 refine LV.done ?_
 refine PV.sub [(0, a0), (4, (.lit (.bool false))), (5, x5_6), (17, x17_9)] ⟨rfl, rfl, rfl, rfl, trivial⟩ ?_
 refine PV.thenN ?_
 refine CV.cond h11 rfl (fun e h12 => ?_) (fun e h12 => ?_)
 ·
  clear h1 h2 h3 h4 h5 h6 h7 h8 h9 h10 h11
  subst e
  refine CV.seq ?_
  refine CV.region ?_
  refine LV.by (V.fa h12 rfl Trf.fo27_0) rfl rfl rfl fun x18_10 h13 => ?_
  refine LV.by (V.ld hS h13 rfl Trf.one3) rfl rfl rfl fun x19_11 h14 => ?_
  refine LV.by (V.eq h14 rfl rfl) rfl rfl rfl fun x20_12 h15 => ?_
  refine LV.step (VAL.move rfl) rfl rfl rfl ?_
  refine LV.seam (E := envE) (ro := ro) (ρ0 := ρ0) (τ := AV × AV × AV × HT × Nat) (fun t => [(0, t.1), (5, t.2.1), (25, t.2.2.1), (4, (.lit (.bool false)))]) (fun t => t.2.2.2.1) (fun t => t.2.2.2.2) (fun t => g86_k1 ih ro  t.1 t.2.1 t.2.2.1 t.2.2.2.1 t.2.2.2.2 = .ok r T' n') 4 ?_ ?_
  ·
   rcases condK_inv h15 with ⟨e, h18⟩ | ⟨e, h18⟩
   ·
    clear h12 h13 h14 h15
    subst e
    refine LV.skip rfl rfl rfl ?_
    refine LV.skip rfl rfl rfl ?_
    refine LV.skip rfl rfl rfl ?_
    refine LV.step (VAL.pure rfl) rfl rfl rfl ?_
    exact LV.atSeam (a0, x5_6, (.lit (.bool true)), T2, n1) hS h18 ⟨rfl, rfl, rfl, rfl, trivial⟩
   ·
    clear h12 h13 h14 h15
    subst e
    refine LV.by (V.fa h18 rfl Trf.fo27_0) rfl rfl rfl fun x22_13 h19 => ?_
    refine LV.by (V.ld hS h19 rfl Trf.one3) rfl rfl rfl fun x23_14 h20 => ?_
    refine LV.by (V.eq h20 rfl rfl) rfl rfl rfl fun x24_15 h21 => ?_
    refine LV.step (VAL.pure rfl) rfl rfl rfl ?_
    exact LV.atSeam (a0, x5_6, x24_15, T2, n1) hS h21 ⟨rfl, rfl, rfl, rfl, trivial⟩
  ·
   rintro ⟨y0, y5, y25, T3, n3⟩ ρ its hQ h16
   have hS : EY.ST w0 base envE ρ0 ρ T3 ro n3 its := hQ
   clear hQ
   change LV _ _ _ _ _ _ _ _ _ [(0, y0), (5, y5), (25, y25), (4, (.lit (.bool false)))] _
   have h17 : g86_k1 ih ro y0 y5 y25 T3 n3 = .ok r T' n' := h16
   unfold g86_k1 at h17
   clear h12 h13 h14 h15 h16
   refine LV.step (VAL.assign rfl) rfl rfl rfl ?_
   refine LV.done ?_
   refine PV.sub [(0, y0), (4, y25), (5, y5)] ⟨rfl, rfl, rfl, trivial⟩ ?_
   refine PV.thenN ?_
   refine CV.ret ?_
   refine PV.thenR ?_
   cases h17
   exact PV.ret (by simp) Tryd.results86 hS (RS.tmp rfl RS.nil) rfl
 ·
  clear h1 h2 h3 h4 h5 h6 h7 h8 h9 h10 h11
  subst e
  refine CV.skip ?_
  refine PV.thenN ?_
  refine CV.seq ?_
  refine CV.seq ?_
  refine CV.region ?_
  refine LV.by (V.fa h12 rfl Trf.fo27_4) rfl rfl rfl fun x26_16 h22 => ?_
  refine LV.by (V.ld hS h22 rfl Trf.one25) rfl rfl rfl fun x27_17 h23 => ?_
  refine LV.by (V.lenS h23 rfl Trf.ls25) rfl rfl rfl fun x28_18 h24 => ?_
  refine LV.step (VAL.move rfl) rfl rfl rfl ?_
  refine LV.done ?_
  refine PV.sub [(0, a0), (4, (.lit (.bool false))), (5, x5_6), (27, x27_17), (28, x28_18), (29, (.lit (.int .i64 (.ofNat 0))))] ⟨rfl, rfl, rfl, rfl, rfl, rfl, trivial⟩ ?_
  refine PV.thenN ?_
  refine CV.block ?_
  refine CV.loop (E := envE) (ro := ro) (ρ0 := ρ0) (τ := AV × AV × AV × AV × AV × AV × HT × Nat) (fun t => [(0, t.1), (4, t.2.1), (5, t.2.2.1), (27, t.2.2.2.1), (28, t.2.2.2.2.1), (29, t.2.2.2.2.2.1)]) (fun t => t.2.2.2.2.2.2.1) (fun t => t.2.2.2.2.2.2.2) (fun f t => g86_l2 ih ro f t.1 t.2.1 t.2.2.1 t.2.2.2.1 t.2.2.2.2.1 t.2.2.2.2.2.1 t.2.2.2.2.2.2.1 t.2.2.2.2.2.2.2 = .ok r T' n') 100000 (a0, (.lit (.bool false)), x5_6, x27_17, x28_18, (.lit (.int .i64 (.ofNat 0))), T2, n1) hS h24 ⟨rfl, rfl, rfl, rfl, rfl, rfl, trivial⟩ ?_
  rintro (_ | f2) ⟨y0, y4, y5, y27, y28, y29, T4, n4⟩ ρ its hQ h25
  · cases h25
  have hS : EY.ST w0 base envE ρ0 ρ T4 ro n4 its := hQ
  clear hQ
  change CV _ _ _ _ _ _ _ _ [(0, y0), (4, y4), (5, y5), (27, y27), (28, y28), (29, y29)] _
  have h26 : g86_b2 ih ro (g86_l2 ih ro f2) y0 y4 y5 y27 y28 y29 T4 n4 = .ok r T' n' := h25
  unfold g86_b2 at h26
  clear h12 h22 h23 h24 h25
  refine CV.seq ?_
  refine CV.region ?_
  refine LV.by (V.lt h26 rfl rfl) rfl rfl rfl fun x30_19 h27 => ?_
  refine LV.done ?_
  refine PV.sub [(0, y0), (4, y4), (5, y5), (27, y27), (28, y28), (29, y29), (30, x30_19)] ⟨rfl, rfl, rfl, rfl, rfl, rfl, rfl, trivial⟩ ?_
  refine PV.thenN ?_
  refine CV.seq ?_
  refine CV.cond h27 rfl (fun e h28 => ?_) (fun e h28 => ?_)
  ·
   clear h26 h27
   subst e
   refine CV.skip ?_
   refine PV.thenN ?_
   refine CV.seq ?_
   refine CV.block ?_
   refine CV.seq ?_
   refine CV.region ?_
   refine LV.by (V.ia h28 rfl rfl Trf.el25) rfl rfl rfl fun x31_20 h29 => ?_
   refine LV.by (V.ld hS h29 rfl Trf.one3) rfl rfl rfl fun x32_21 h30 => ?_
   refine LV.step (VAL.assign rfl) rfl rfl rfl ?_
   refine LV.done ?_
   refine PV.sub [(0, y0), (4, y4), (5, y5), (7, x32_21), (27, y27), (28, y28), (29, y29)] ⟨rfl, rfl, rfl, rfl, rfl, rfl, rfl, trivial⟩ ?_
   refine PV.thenN ?_
   refine CV.seq ?_
   refine CV.region ?_
   refine LV.step (VAL.move rfl) rfl rfl rfl ?_
   refine LV.step (VAL.move rfl) rfl rfl rfl ?_
   refine LV.call hS h30 (hI _ _ _ _ _) hP rfl rfl rfl rfl fun x35_22 T5 n5 h31 ρ its hS => ?_
   refine LV.by (V.not h31 rfl) rfl rfl rfl fun x36_23 h32 => ?_
   refine LV.done ?_
   refine PV.sub [(0, y0), (4, y4), (5, y5), (27, y27), (28, y28), (29, y29), (36, x36_23)] ⟨rfl, rfl, rfl, rfl, rfl, rfl, rfl, trivial⟩ ?_
   refine PV.thenN ?_
   refine CV.cond h32 rfl (fun e h33 => ?_) (fun e h33 => ?_)
   ·
    clear h28 h29 h30 h31 h32
    subst e
    refine CV.seq ?_
    refine CV.region ?_
    refine LV.step (VAL.assign rfl) rfl rfl rfl ?_
    refine LV.done ?_
    refine PV.sub [(0, y0), (4, (.lit (.bool false))), (5, y5), (27, y27), (28, y28), (29, y29)] ⟨rfl, rfl, rfl, rfl, rfl, rfl, trivial⟩ ?_
    refine PV.thenN ?_
    refine CV.ret ?_
    refine PV.blockR ?_
    refine PV.thenR ?_
    refine PV.thenR ?_
    refine PV.blockR ?_
    refine PV.thenR ?_
    cases h33
    exact PV.ret (by simp) Tryd.results86 hS (RS.tmp rfl RS.nil) rfl
   ·
    clear h28 h29 h30 h31 h32
    subst e
    refine CV.skip ?_
    refine PV.blockN ?_
    refine PV.thenN ?_
    refine CV.region ?_
    refine LV.by (V.add h33 rfl rfl) rfl rfl rfl fun x37_24 h34 => ?_
    refine LV.step (VAL.move rfl) rfl rfl rfl ?_
    refine LV.done ?_
    refine PV.sub [(0, y0), (4, y4), (5, y5), (27, y27), (28, y28), (29, x37_24)] ⟨rfl, rfl, rfl, rfl, rfl, rfl, trivial⟩ ?_
    exact PV.atSeam (τ := Nat × AV × AV × AV × AV × AV × AV × HT × Nat) (f2, y0, y4, y5, y27, y28, x37_24, T5, n5) hS ⟨Nat.lt_succ_self _, h34⟩ ⟨rfl, rfl, rfl, rfl, rfl, rfl, trivial⟩
  ·
   clear h26 h27
   subst e
   refine CV.exit ?_
   refine PV.thenE ?_
   refine PV.thenE ?_
   refine PV.blockE ?_
   refine PV.thenN ?_
   refine CV.seq ?_
   refine CV.region ?_
   refine LV.by (V.fa h28 rfl Trf.fo27_4) rfl rfl rfl fun x38_25 h35 => ?_
   refine LV.by (V.ld hS h35 rfl Trf.one25) rfl rfl rfl fun x39_26 h36 => ?_
   refine LV.by (V.lenS h36 rfl Trf.ls25) rfl rfl rfl fun x40_27 h37 => ?_
   refine LV.by (V.gt h37 rfl rfl) rfl rfl rfl fun x41_28 h38 => ?_
   refine LV.step (VAL.assign rfl) rfl rfl rfl ?_
   refine LV.done ?_
   refine PV.sub [(4, x41_28)] ⟨rfl, trivial⟩ ?_
   refine PV.thenN ?_
   refine CV.ret ?_
   cases h38
   exact PV.ret (by simp) Tryd.results86 hS (RS.tmp rfl RS.nil) rfl
noncomputable def ap1 (ih : FuncId → List HT → List AV → HT → Nat → R) (f : FuncId) (ro : List HT) (args : List AV) (T : HT) (nx : Nat) : R :=
  bif Nat.beq f 86 then (match args with | [a0, a1] => g86 ih ro a0 a1 T nx | _ => .bad 1) else .bad 2
noncomputable def scc1 (fuel : Nat) : FuncId → List HT → List AV → HT → Nat → R :=
  Nat.rec (motive := fun _ => FuncId → List HT → List AV → HT → Nat → R) (fun _ _ _ _ _ => .bad 3) (fun _ ih => ap1 ih) fuel
theorem ap1_ok (ih : FuncId → List HT → List AV → HT → Nat → R) (hI : ∀ f ro args T nx, GOk Tryd.prog envE f args ro T nx (ih f ro args T nx)) (f : FuncId) (ro : List HT) (args : List AV) (T : HT) (nx : Nat) : GOk Tryd.prog envE f args ro T nx (ap1 ih f ro args T nx) := by
  unfold ap1
  refine bif_go (fun hb => ?_) (fun _ => ?_)
  · obtain rfl := beqT hb
    split
    · exact g86_ok _ hI _ _ _ _ _ 
    · exact GOk.bad
  exact GOk.bad
theorem scc1_ok : ∀ (fuel : Nat) (f : FuncId) (ro : List HT) (args : List AV) (T : HT) (nx : Nat), GOk Tryd.prog envE f args ro T nx (scc1 fuel f ro args T nx)
  | 0, _, _, _, _, _ => GOk.bad
  | fuel + 1, f, ro, args, T, nx => ap1_ok (scc1 fuel) (scc1_ok fuel) f ro args T nx
noncomputable def g92_k2 (ro : List HT) (y0 y1 y2 y26 : AV) (T2 : HT) (n2 : Nat) : R :=
 .ok (.val y26) T2 n2
noncomputable def g92_k1 (ro : List HT) (y0 y1 y2 y20 : AV) (T1 : HT) (n1 : Nat) : R :=
 condK 920012 y20
 (
  cutLoFK 920015 T1 ro y2 (.lit (.int .i64 (.ofNat 1))) 1 fun x24_4 =>
  callK (g81 ro y0 x24_4 (.lit (.int .i64 (.ofNat 1))) (.lit (.int .i64 (.ofNat 1))) T1 n1) fun x25_5 T3 n3 =>
  g92_k2 ro y0 y1 y2 x25_5 T3 n3
 )
 (
  g92_k2 ro y0 y1 y2 (.lit (.bool false)) T1 n1
 )
noncomputable def g92_k4 (ro : List HT) (y0 y1 y2 y51 : AV) (T6 : HT) (n6 : Nat) : R :=
 .ok (.val y51) T6 n6
noncomputable def g92_k3 (ro : List HT) (y0 y1 y2 y45 : AV) (T5 : HT) (n5 : Nat) : R :=
 condK 920036 y45
 (
  cutLoFK 920039 T5 ro y2 (.lit (.int .i64 (.ofNat 1))) 1 fun x49_12 =>
  callK (g81 ro y0 x49_12 (.lit (.int .i64 (.ofNat 1))) (.lit (.int .i64 (.ofNat 1))) T5 n5) fun x50_13 T7 n7 =>
  g92_k4 ro y0 y1 y2 x50_13 T7 n7
 )
 (
  g92_k4 ro y0 y1 y2 (.lit (.bool false)) T5 n5
 )
noncomputable def g92_k5 (ro : List HT) (y0 y1 y2 y44 : AV) (T9 : HT) (n9 : Nat) : R :=
 g92_k3 ro y0 y1 y2 y44 T9 n9
noncomputable def g92_k8 (ro : List HT) (y0 y1 y2 y73 : AV) (T13 : HT) (n13 : Nat) : R :=
 .ok (.val y73) T13 n13
noncomputable def g92_k7 (ro : List HT) (y0 y1 y2 y67 : AV) (T12 : HT) (n12 : Nat) : R :=
 condK 920070 y67
 (
  cutLoFK 920073 T12 ro y2 (.lit (.int .i64 (.ofNat 1))) 1 fun x71_23 =>
  callK (g83 ro y0 x71_23 (.lit (.func (.func 112) #[] #[])) T12 n12) fun x72_24 T14 n14 =>
  g92_k8 ro y0 y1 y2 x72_24 T14 n14
 )
 (
  g92_k8 ro y0 y1 y2 (.lit (.bool false)) T12 n12
 )
noncomputable def g92_k6 (ro : List HT) (y0 y1 y2 y61 : AV) (T11 : HT) (n11 : Nat) : R :=
 condK 920077 y61
 (
  cutHiK 920080 T11 ro y2 (.lit (.int .i64 (.ofNat 1))) fun x65_25 =>
  callK (g81 ro y0 x65_25 (.lit (.int .i64 (.ofNat 1))) (.lit (.int .i64 (.ofNat 1))) T11 n11) fun x66_26 T15 n15 =>
  g92_k7 ro y0 y1 y2 x66_26 T15 n15
 )
 (
  g92_k7 ro y0 y1 y2 (.lit (.bool false)) T11 n11
 )
noncomputable def g92_k11 (ro : List HT) (y0 y1 y2 y98 : AV) (T18 : HT) (n18 : Nat) : R :=
 .ok (.val y98) T18 n18
noncomputable def g92_k10 (ro : List HT) (y0 y1 y2 y91 : AV) (T17 : HT) (n17 : Nat) : R :=
 condK 920100 y91
 (
  iaK 920103 y2 (.lit (.int .i64 (.ofNat 2))) 1 fun x95_32 =>
  ldK 920104 T17 ro x95_32 fun x96_33 =>
  callK (g89 ro y0 x96_33 (.lit (.int .i64 (.ofNat 47))) T17 n17) fun x97_34 T19 n19 =>
  g92_k11 ro y0 y1 y2 x97_34 T19 n19
 )
 (
  g92_k11 ro y0 y1 y2 (.lit (.bool false)) T17 n17
 )
noncomputable def g92_k9 (ro : List HT) (y0 y1 y2 y85 : AV) (T16 : HT) (n16 : Nat) : R :=
 condK 920108 y85
 (
  cutBoK 920111 T16 ro y2 (.lit (.int .i64 (.ofNat 1))) (.lit (.int .i64 (.ofNat 2))) 1 fun x89_35 =>
  callK (g81 ro y0 x89_35 (.lit (.int .i64 (.ofNat 1))) (.lit (.int .i64 (.ofNat 1))) T16 n16) fun x90_36 T20 n20 =>
  g92_k10 ro y0 y1 y2 x90_36 T20 n20
 )
 (
  g92_k10 ro y0 y1 y2 (.lit (.bool false)) T16 n16
 )
noncomputable def g92_k15 (ro : List HT) (y122 : AV) (T25 : HT) (n25 : Nat) : R :=
 .ok (.val y122) T25 n25
noncomputable def g92_k14 (ro : List HT) (y0 y2 y116 : AV) (T24 : HT) (n24 : Nat) : R :=
 condK 920132 y116
 (
  callK (g81 ro y0 y2 (.lit (.int .i64 (.ofNat 2))) (.lit (.int .i64 (.ofNat 2))) T24 n24) fun x121_41 T26 n26 =>
  g92_k15 ro x121_41 T26 n26
 )
 (
  g92_k15 ro (.lit (.bool false)) T24 n24
 )
noncomputable def g92_k16 (ro : List HT) (y0 y2 y115 : AV) (T27 : HT) (n27 : Nat) : R :=
 g92_k14 ro y0 y2 y115 T27 n27
noncomputable def g92_k13 (ro : List HT) (y0 y1 y2 y108 : AV) (T23 : HT) (n23 : Nat) : R :=
 condK 920138 y108
 (
  g92_k14 ro y0 y2 (.lit (.bool true)) T23 n23
 )
 (
  geK Tryd.prog 3 (.tmp 110) (.const (.int .i64 (.ofNat 21))) 920141 y1 (.lit (.int .i64 (.ofNat 21))) fun x111_42 =>
  condK 920144 x111_42
  (
   leK Tryd.prog 3 (.tmp 113) (.const (.int .i64 (.ofNat 33))) 920146 y1 (.lit (.int .i64 (.ofNat 33))) fun x114_43 =>
   g92_k16 ro y0 y2 x114_43 T23 n23
  )
  (
   g92_k16 ro y0 y2 (.lit (.bool false)) T23 n23
  )
 )
noncomputable def g92_k12 (ro : List HT) (y0 y1 y2 y104 : AV) (T22 : HT) (n22 : Nat) : R :=
 condK 920149 y104
 (
  g92_k13 ro y0 y1 y2 (.lit (.bool true)) T22 n22
 )
 (
  eqK Tryd.prog 3 (.tmp 106) (.const (.int .i64 (.ofNat 19))) 920152 y1 (.lit (.int .i64 (.ofNat 19))) fun x107_44 =>
  g92_k13 ro y0 y1 y2 x107_44 T22 n22
 )
noncomputable def g92 (ro : List HT) (a0 a1 a2 : AV) (T : HT) (nx : Nat) : R :=
 eqK Tryd.prog 3 (.tmp 8) (.const (.int .i64 (.ofNat 36))) 920003 a1 (.lit (.int .i64 (.ofNat 36))) fun x10_1 =>
 condK 920005 x10_1
 (
  lenSK 920007 a2 fun x12_2 =>
  eqK Tryd.prog 3 (.tmp 12) (.const (.int .i64 (.ofNat 2))) 920008 x12_2 (.lit (.int .i64 (.ofNat 2))) fun x13_3 =>
  condK 920019 x13_3
  (
   iaK 920022 a2 (.lit (.int .i64 (.ofNat 0))) 1 fun x17_6 =>
   ldK 920023 T ro x17_6 fun x18_7 =>
   callK (scc1 4000 86 ro [a0, x18_7] T nx) fun x19_8 T4 n4 =>
   g92_k1 ro a0 a1 a2 x19_8 T4 n4
  )
  (
   g92_k1 ro a0 a1 a2 (.lit (.bool false)) T nx
  )
 )
 (
  eqK Tryd.prog 3 (.tmp 8) (.const (.int .i64 (.ofNat 37))) 920027 a1 (.lit (.int .i64 (.ofNat 37))) fun x28_9 =>
  condK 920029 x28_9
  (
   lenSK 920031 a2 fun x30_10 =>
   eqK Tryd.prog 3 (.tmp 30) (.const (.int .i64 (.ofNat 2))) 920032 x30_10 (.lit (.int .i64 (.ofNat 2))) fun x31_11 =>
   condK 920043 x31_11
   (
    iaK 920046 a2 (.lit (.int .i64 (.ofNat 0))) 1 fun x35_14 =>
    ldK 920047 T ro x35_14 fun x36_15 =>
    callK (g89 ro a0 x36_15 (.lit (.int .i64 (.ofNat 6))) T nx) fun x37_16 T8 n8 =>
    condK 920051 x37_16
    (
     g92_k5 ro a0 a1 a2 (.lit (.bool true)) T8 n8
    )
    (
     iaK 920055 a2 (.lit (.int .i64 (.ofNat 0))) 1 fun x41_17 =>
     ldK 920056 T8 ro x41_17 fun x42_18 =>
     callK (g89 ro a0 x42_18 (.lit (.int .i64 (.ofNat 13))) T8 n8) fun x43_19 T10 n10 =>
     g92_k5 ro a0 a1 a2 x43_19 T10 n10
    )
   )
   (
    g92_k3 ro a0 a1 a2 (.lit (.bool false)) T nx
   )
  )
  (
   eqK Tryd.prog 3 (.tmp 8) (.const (.int .i64 (.ofNat 43))) 920060 a1 (.lit (.int .i64 (.ofNat 43))) fun x53_20 =>
   condK 920062 x53_20
   (
    lenSK 920064 a2 fun x55_21 =>
    eqK Tryd.prog 3 (.tmp 55) (.const (.int .i64 (.ofNat 2))) 920065 x55_21 (.lit (.int .i64 (.ofNat 2))) fun x56_22 =>
    condK 920084 x56_22
    (
     g92_k6 ro a0 a1 a2 (.lit (.bool true)) T nx
    )
    (
     lenSK 920087 a2 fun x59_27 =>
     eqK Tryd.prog 3 (.tmp 59) (.const (.int .i64 (.ofNat 3))) 920088 x59_27 (.lit (.int .i64 (.ofNat 3))) fun x60_28 =>
     g92_k6 ro a0 a1 a2 x60_28 T nx
    )
   )
   (
    eqK Tryd.prog 3 (.tmp 8) (.const (.int .i64 (.ofNat 44))) 920090 a1 (.lit (.int .i64 (.ofNat 44))) fun x75_29 =>
    condK 920092 x75_29
    (
     lenSK 920094 a2 fun x77_30 =>
     eqK Tryd.prog 3 (.tmp 77) (.const (.int .i64 (.ofNat 3))) 920095 x77_30 (.lit (.int .i64 (.ofNat 3))) fun x78_31 =>
     condK 920115 x78_31
     (
      iaK 920118 a2 (.lit (.int .i64 (.ofNat 0))) 1 fun x82_37 =>
      ldK 920119 T ro x82_37 fun x83_38 =>
      callK (scc1 4000 86 ro [a0, x83_38] T nx) fun x84_39 T21 n21 =>
      g92_k9 ro a0 a1 a2 x84_39 T21 n21
     )
     (
      g92_k9 ro a0 a1 a2 (.lit (.bool false)) T nx
     )
    )
    (
     eqK Tryd.prog 3 (.tmp 99) (.const (.int .i64 (.ofNat 13))) 920124 a1 (.lit (.int .i64 (.ofNat 13))) fun x100_40 =>
     condK 920154 x100_40
     (
      g92_k12 ro a0 a1 a2 (.lit (.bool true)) T nx
     )
     (
      eqK Tryd.prog 3 (.tmp 102) (.const (.int .i64 (.ofNat 18))) 920157 a1 (.lit (.int .i64 (.ofNat 18))) fun x103_45 =>
      g92_k12 ro a0 a1 a2 x103_45 T nx
     )
    )
   )
  )
 )
theorem g92_ok (ro : List HT) (a0 a1 a2 : AV) (T : HT) (nx : Nat) : GOk Tryd.prog envE 92 [a0, a1, a2] ro T nx (g92 ro a0 a1 a2 T nx) := by
 refine GOk.of_body Tryd.func92 rfl Tryd.ntmps92 (by kernel_rfl) rfl fun r T' n' h1 w0 base ρ0 its hS hP => ?_
 unfold g92 at h1
 refine CV.sub [(0, a0), (1, a1), (2, a2)] ⟨rfl, rfl, rfl, trivial⟩ ?_
 refine CV.seq ?_
 refine CV.region ?_
 refine LV.step (VAL.assign rfl) rfl rfl rfl ?_
 refine LV.done ?_
 refine PV.sub [(0, a0), (1, a1), (2, a2), (6, (.lit (.bool false)))] ⟨rfl, rfl, rfl, rfl, trivial⟩ ?_
 refine PV.thenN ?_
 refine CV.seq ?_
 refine CV.seq ?_
 refine CV.region ?_
 refine LV.step (VAL.move rfl) rfl rfl rfl ?_
 refine LV.done ?_
 refine PV.sub [(0, a0), (1, a1), (2, a2), (6, (.lit (.bool false))), (8, a1)] ⟨rfl, rfl, rfl, rfl, rfl, trivial⟩ ?_
 refine PV.thenN ?_
 refine CV.block ?_
 refine CV.seq ?_
 refine CV.region ?_
 refine LV.by (V.eq h1 rfl rfl) rfl rfl rfl fun x10_1 h2 => ?_
 refine LV.step (VAL.assign rfl) rfl rfl rfl ?_
 refine LV.done ?_
 refine PV.sub [(0, a0), (1, a1), (2, a2), (6, (.lit (.bool false))), (8, a1), (9, x10_1)] ⟨rfl, rfl, rfl, rfl, rfl, rfl, trivial⟩ ?_
 refine PV.thenN ?_
 refine CV.cond h2 rfl (fun e h3 => ?_) (fun e h3 => ?_)
 ·
  clear h1 h2
  subst e
  refine CV.seq ?_
  refine CV.region ?_
  refine LV.step (VAL.move rfl) rfl rfl rfl ?_
  refine LV.by (V.lenS h3 rfl Trf.ls25) rfl rfl rfl fun x12_2 h4 => ?_
  refine LV.by (V.eq h4 rfl rfl) rfl rfl rfl fun x13_3 h5 => ?_
  refine LV.step (VAL.move rfl) rfl rfl rfl ?_
  refine LV.seam (E := envE) (ro := ro) (ρ0 := ρ0) (τ := AV × AV × AV × AV × HT × Nat) (fun t => [(0, t.1), (1, t.2.1), (2, t.2.2.1), (20, t.2.2.2.1), (6, (.lit (.bool false)))]) (fun t => t.2.2.2.2.1) (fun t => t.2.2.2.2.2) (fun t => g92_k1 ro  t.1 t.2.1 t.2.2.1 t.2.2.2.1 t.2.2.2.2.1 t.2.2.2.2.2 = .ok r T' n') 6 ?_ ?_
  ·
   rcases condK_inv h5 with ⟨e, h13⟩ | ⟨e, h13⟩
   ·
    clear h3 h4 h5
    subst e
    refine LV.step (VAL.move rfl) rfl rfl rfl ?_
    refine LV.step (VAL.move rfl) rfl rfl rfl ?_
    refine LV.by (V.ia h13 rfl rfl Trf.el25) rfl rfl rfl fun x17_6 h14 => ?_
    refine LV.by (V.ld hS h14 rfl Trf.one3) rfl rfl rfl fun x18_7 h15 => ?_
    refine LV.call hS h15 (scc1_ok _ _ _ _ _ _) hP rfl rfl rfl rfl fun x19_8 T4 n4 h16 ρ its hS => ?_
    refine LV.step (VAL.pure rfl) rfl rfl rfl ?_
    exact LV.atSeam (a0, a1, a2, x19_8, T4, n4) hS h16 ⟨rfl, rfl, rfl, rfl, rfl, trivial⟩
   ·
    clear h3 h4 h5
    subst e
    refine LV.skip rfl rfl rfl ?_
    refine LV.skip rfl rfl rfl ?_
    refine LV.skip rfl rfl rfl ?_
    refine LV.skip rfl rfl rfl ?_
    refine LV.skip rfl rfl rfl ?_
    refine LV.step (VAL.pure rfl) rfl rfl rfl ?_
    exact LV.atSeam (a0, a1, a2, (.lit (.bool false)), T, nx) hS h13 ⟨rfl, rfl, rfl, rfl, rfl, trivial⟩
  ·
   rintro ⟨y0, y1, y2, y20, T1, n1⟩ ρ its hQ h6
   have hS : EY.ST w0 base envE ρ0 ρ T1 ro n1 its := hQ
   clear hQ
   change LV _ _ _ _ _ _ _ _ _ [(0, y0), (1, y1), (2, y2), (20, y20), (6, (.lit (.bool false)))] _
   have h7 : g92_k1 ro y0 y1 y2 y20 T1 n1 = .ok r T' n' := h6
   unfold g92_k1 at h7
   clear h3 h4 h5 h6
   refine LV.step (VAL.move rfl) rfl rfl rfl ?_
   refine LV.seam (E := envE) (ro := ro) (ρ0 := ρ0) (τ := AV × AV × AV × AV × HT × Nat) (fun t => [(0, t.1), (1, t.2.1), (2, t.2.2.1), (26, t.2.2.2.1), (6, (.lit (.bool false)))]) (fun t => t.2.2.2.2.1) (fun t => t.2.2.2.2.2) (fun t => g92_k2 ro  t.1 t.2.1 t.2.2.1 t.2.2.2.1 t.2.2.2.2.1 t.2.2.2.2.2 = .ok r T' n') 5 ?_ ?_
   ·
    rcases condK_inv h7 with ⟨e, h10⟩ | ⟨e, h10⟩
    ·
     clear h7
     subst e
     refine LV.step (VAL.move rfl) rfl rfl rfl ?_
     refine LV.step (VAL.move rfl) rfl rfl rfl ?_
     refine LV.cutLoF hS h10 rfl rfl rfl Trf.el25 rfl rfl rfl fun x24_4 h11 => ?_
     refine LV.call hS h11 (g81_ok _ _ _ _ _ _ _ ) hP rfl rfl rfl rfl fun x25_5 T3 n3 h12 ρ its hS => ?_
     refine LV.step (VAL.pure rfl) rfl rfl rfl ?_
     exact LV.atSeam (y0, y1, y2, x25_5, T3, n3) hS h12 ⟨rfl, rfl, rfl, rfl, rfl, trivial⟩
    ·
     clear h7
     subst e
     refine LV.skip rfl rfl rfl ?_
     refine LV.skip rfl rfl rfl ?_
     refine LV.skip rfl rfl rfl ?_
     refine LV.skip rfl rfl rfl ?_
     refine LV.step (VAL.pure rfl) rfl rfl rfl ?_
     exact LV.atSeam (y0, y1, y2, (.lit (.bool false)), T1, n1) hS h10 ⟨rfl, rfl, rfl, rfl, rfl, trivial⟩
   ·
    rintro ⟨y0, y1, y2, y26, T2, n2⟩ ρ its hQ h8
    have hS : EY.ST w0 base envE ρ0 ρ T2 ro n2 its := hQ
    clear hQ
    change LV _ _ _ _ _ _ _ _ _ [(0, y0), (1, y1), (2, y2), (26, y26), (6, (.lit (.bool false)))] _
    have h9 : g92_k2 ro y0 y1 y2 y26 T2 n2 = .ok r T' n' := h8
    unfold g92_k2 at h9
    clear h7 h8
    refine LV.step (VAL.assign rfl) rfl rfl rfl ?_
    refine LV.done ?_
    refine PV.sub [(0, y0), (1, y1), (2, y2), (6, y26)] ⟨rfl, rfl, rfl, rfl, trivial⟩ ?_
    refine PV.thenN ?_
    refine CV.ret ?_
    refine PV.blockR ?_
    refine PV.thenR ?_
    cases h9
    exact PV.ret (by simp) Tryd.results92 hS (RS.tmp rfl RS.nil) rfl
 ·
  clear h1 h2
  subst e
  refine CV.seq ?_
  refine CV.region ?_
  refine LV.by (V.eq h3 rfl rfl) rfl rfl rfl fun x28_9 h17 => ?_
  refine LV.step (VAL.assign rfl) rfl rfl rfl ?_
  refine LV.done ?_
  refine PV.sub [(0, a0), (1, a1), (2, a2), (6, (.lit (.bool false))), (8, a1), (27, x28_9)] ⟨rfl, rfl, rfl, rfl, rfl, rfl, trivial⟩ ?_
  refine PV.thenN ?_
  refine CV.cond h17 rfl (fun e h18 => ?_) (fun e h18 => ?_)
  ·
   clear h3 h17
   subst e
   refine CV.seq ?_
   refine CV.region ?_
   refine LV.step (VAL.move rfl) rfl rfl rfl ?_
   refine LV.by (V.lenS h18 rfl Trf.ls25) rfl rfl rfl fun x30_10 h19 => ?_
   refine LV.by (V.eq h19 rfl rfl) rfl rfl rfl fun x31_11 h20 => ?_
   refine LV.step (VAL.move rfl) rfl rfl rfl ?_
   refine LV.seam (E := envE) (ro := ro) (ρ0 := ρ0) (τ := AV × AV × AV × AV × HT × Nat) (fun t => [(0, t.1), (1, t.2.1), (2, t.2.2.1), (45, t.2.2.2.1), (6, (.lit (.bool false)))]) (fun t => t.2.2.2.2.1) (fun t => t.2.2.2.2.2) (fun t => g92_k3 ro  t.1 t.2.1 t.2.2.1 t.2.2.2.1 t.2.2.2.2.1 t.2.2.2.2.2 = .ok r T' n') 13 ?_ ?_
   ·
    rcases condK_inv h20 with ⟨e, h28⟩ | ⟨e, h28⟩
    ·
     clear h18 h19 h20
     subst e
     refine LV.step (VAL.move rfl) rfl rfl rfl ?_
     refine LV.step (VAL.move rfl) rfl rfl rfl ?_
     refine LV.by (V.ia h28 rfl rfl Trf.el25) rfl rfl rfl fun x35_14 h29 => ?_
     refine LV.by (V.ld hS h29 rfl Trf.one3) rfl rfl rfl fun x36_15 h30 => ?_
     refine LV.call hS h30 (g89_ok _ _ _ _ _ _ ) hP rfl rfl rfl rfl fun x37_16 T8 n8 h31 ρ its hS => ?_
     refine LV.step (VAL.move rfl) rfl rfl rfl ?_
     refine LV.seam (E := envE) (ro := ro) (ρ0 := ρ0) (τ := AV × AV × AV × AV × HT × Nat) (fun t => [(0, t.1), (1, t.2.1), (2, t.2.2.1), (44, t.2.2.2.1), (6, (.lit (.bool false))), (32, (.lit (.bool true)))]) (fun t => t.2.2.2.2.1) (fun t => t.2.2.2.2.2) (fun t => g92_k5 ro  t.1 t.2.1 t.2.2.1 t.2.2.2.1 t.2.2.2.2.1 t.2.2.2.2.2 = .ok r T' n') 6 ?_ ?_
     ·
      rcases condK_inv h31 with ⟨e, h34⟩ | ⟨e, h34⟩
      ·
       clear h28 h29 h30 h31
       subst e
       refine LV.skip rfl rfl rfl ?_
       refine LV.skip rfl rfl rfl ?_
       refine LV.skip rfl rfl rfl ?_
       refine LV.skip rfl rfl rfl ?_
       refine LV.skip rfl rfl rfl ?_
       refine LV.step (VAL.pure rfl) rfl rfl rfl ?_
       exact LV.atSeam (a0, a1, a2, (.lit (.bool true)), T8, n8) hS h34 ⟨rfl, rfl, rfl, rfl, rfl, rfl, trivial⟩
      ·
       clear h28 h29 h30 h31
       subst e
       refine LV.step (VAL.move rfl) rfl rfl rfl ?_
       refine LV.step (VAL.move rfl) rfl rfl rfl ?_
       refine LV.by (V.ia h34 rfl rfl Trf.el25) rfl rfl rfl fun x41_17 h35 => ?_
       refine LV.by (V.ld hS h35 rfl Trf.one3) rfl rfl rfl fun x42_18 h36 => ?_
       refine LV.call hS h36 (g89_ok _ _ _ _ _ _ ) hP rfl rfl rfl rfl fun x43_19 T10 n10 h37 ρ its hS => ?_
       refine LV.step (VAL.pure rfl) rfl rfl rfl ?_
       exact LV.atSeam (a0, a1, a2, x43_19, T10, n10) hS h37 ⟨rfl, rfl, rfl, rfl, rfl, rfl, trivial⟩
     ·
      rintro ⟨y0, y1, y2, y44, T9, n9⟩ ρ its hQ h32
      have hS : EY.ST w0 base envE ρ0 ρ T9 ro n9 its := hQ
      clear hQ
      change LV _ _ _ _ _ _ _ _ _ [(0, y0), (1, y1), (2, y2), (44, y44), (6, (.lit (.bool false))), (32, (.lit (.bool true)))] _
      have h33 : g92_k5 ro y0 y1 y2 y44 T9 n9 = .ok r T' n' := h32
      unfold g92_k5 at h33
      clear h28 h29 h30 h31 h32
      refine LV.step (VAL.pure rfl) rfl rfl rfl ?_
      exact LV.atSeam (y0, y1, y2, y44, T9, n9) hS h33 ⟨rfl, rfl, rfl, rfl, rfl, trivial⟩
    ·
     clear h18 h19 h20
     subst e
     refine LV.skip rfl rfl rfl ?_
     refine LV.skip rfl rfl rfl ?_
     refine LV.skip rfl rfl rfl ?_
     refine LV.skip rfl rfl rfl ?_
     refine LV.skip rfl rfl rfl ?_
     refine LV.skip rfl rfl rfl ?_
     refine LV.skip rfl rfl rfl ?_
     refine LV.skip rfl rfl rfl ?_
     refine LV.skip rfl rfl rfl ?_
     refine LV.skip rfl rfl rfl ?_
     refine LV.skip rfl rfl rfl ?_
     refine LV.skip rfl rfl rfl ?_
     refine LV.step (VAL.pure rfl) rfl rfl rfl ?_
     exact LV.atSeam (a0, a1, a2, (.lit (.bool false)), T, nx) hS h28 ⟨rfl, rfl, rfl, rfl, rfl, trivial⟩
   ·
    rintro ⟨y0, y1, y2, y45, T5, n5⟩ ρ its hQ h21
    have hS : EY.ST w0 base envE ρ0 ρ T5 ro n5 its := hQ
    clear hQ
    change LV _ _ _ _ _ _ _ _ _ [(0, y0), (1, y1), (2, y2), (45, y45), (6, (.lit (.bool false)))] _
    have h22 : g92_k3 ro y0 y1 y2 y45 T5 n5 = .ok r T' n' := h21
    unfold g92_k3 at h22
    clear h18 h19 h20 h21
    refine LV.step (VAL.move rfl) rfl rfl rfl ?_
    refine LV.seam (E := envE) (ro := ro) (ρ0 := ρ0) (τ := AV × AV × AV × AV × HT × Nat) (fun t => [(0, t.1), (1, t.2.1), (2, t.2.2.1), (51, t.2.2.2.1), (6, (.lit (.bool false)))]) (fun t => t.2.2.2.2.1) (fun t => t.2.2.2.2.2) (fun t => g92_k4 ro  t.1 t.2.1 t.2.2.1 t.2.2.2.1 t.2.2.2.2.1 t.2.2.2.2.2 = .ok r T' n') 5 ?_ ?_
    ·
     rcases condK_inv h22 with ⟨e, h25⟩ | ⟨e, h25⟩
     ·
      clear h22
      subst e
      refine LV.step (VAL.move rfl) rfl rfl rfl ?_
      refine LV.step (VAL.move rfl) rfl rfl rfl ?_
      refine LV.cutLoF hS h25 rfl rfl rfl Trf.el25 rfl rfl rfl fun x49_12 h26 => ?_
      refine LV.call hS h26 (g81_ok _ _ _ _ _ _ _ ) hP rfl rfl rfl rfl fun x50_13 T7 n7 h27 ρ its hS => ?_
      refine LV.step (VAL.pure rfl) rfl rfl rfl ?_
      exact LV.atSeam (y0, y1, y2, x50_13, T7, n7) hS h27 ⟨rfl, rfl, rfl, rfl, rfl, trivial⟩
     ·
      clear h22
      subst e
      refine LV.skip rfl rfl rfl ?_
      refine LV.skip rfl rfl rfl ?_
      refine LV.skip rfl rfl rfl ?_
      refine LV.skip rfl rfl rfl ?_
      refine LV.step (VAL.pure rfl) rfl rfl rfl ?_
      exact LV.atSeam (y0, y1, y2, (.lit (.bool false)), T5, n5) hS h25 ⟨rfl, rfl, rfl, rfl, rfl, trivial⟩
    ·
     rintro ⟨y0, y1, y2, y51, T6, n6⟩ ρ its hQ h23
     have hS : EY.ST w0 base envE ρ0 ρ T6 ro n6 its := hQ
     clear hQ
     change LV _ _ _ _ _ _ _ _ _ [(0, y0), (1, y1), (2, y2), (51, y51), (6, (.lit (.bool false)))] _
     have h24 : g92_k4 ro y0 y1 y2 y51 T6 n6 = .ok r T' n' := h23
     unfold g92_k4 at h24
     clear h22 h23
     refine LV.step (VAL.assign rfl) rfl rfl rfl ?_
     refine LV.done ?_
     refine PV.sub [(0, y0), (1, y1), (2, y2), (6, y51)] ⟨rfl, rfl, rfl, rfl, trivial⟩ ?_
     refine PV.thenN ?_
     refine CV.ret ?_
     refine PV.blockR ?_
     refine PV.thenR ?_
     cases h24
     exact PV.ret (by simp) Tryd.results92 hS (RS.tmp rfl RS.nil) rfl
  ·
   clear h3 h17
   subst e
   refine CV.seq ?_
   refine CV.region ?_
   refine LV.by (V.eq h18 rfl rfl) rfl rfl rfl fun x53_20 h38 => ?_
   refine LV.step (VAL.assign rfl) rfl rfl rfl ?_
   refine LV.done ?_
   refine PV.sub [(0, a0), (1, a1), (2, a2), (6, (.lit (.bool false))), (8, a1), (52, x53_20)] ⟨rfl, rfl, rfl, rfl, rfl, rfl, trivial⟩ ?_
   refine PV.thenN ?_
   refine CV.cond h38 rfl (fun e h39 => ?_) (fun e h39 => ?_)
   ·
    clear h18 h38
    subst e
    refine CV.seq ?_
    refine CV.region ?_
    refine LV.step (VAL.move rfl) rfl rfl rfl ?_
    refine LV.by (V.lenS h39 rfl Trf.ls25) rfl rfl rfl fun x55_21 h40 => ?_
    refine LV.by (V.eq h40 rfl rfl) rfl rfl rfl fun x56_22 h41 => ?_
    refine LV.step (VAL.move rfl) rfl rfl rfl ?_
    refine LV.seam (E := envE) (ro := ro) (ρ0 := ρ0) (τ := AV × AV × AV × AV × HT × Nat) (fun t => [(0, t.1), (1, t.2.1), (2, t.2.2.1), (61, t.2.2.2.1), (6, (.lit (.bool false)))]) (fun t => t.2.2.2.2.1) (fun t => t.2.2.2.2.2) (fun t => g92_k6 ro  t.1 t.2.1 t.2.2.1 t.2.2.2.1 t.2.2.2.2.1 t.2.2.2.2.2 = .ok r T' n') 4 ?_ ?_
    ·
     rcases condK_inv h41 with ⟨e, h54⟩ | ⟨e, h54⟩
     ·
      clear h39 h40 h41
      subst e
      refine LV.skip rfl rfl rfl ?_
      refine LV.skip rfl rfl rfl ?_
      refine LV.skip rfl rfl rfl ?_
      refine LV.step (VAL.pure rfl) rfl rfl rfl ?_
      exact LV.atSeam (a0, a1, a2, (.lit (.bool true)), T, nx) hS h54 ⟨rfl, rfl, rfl, rfl, rfl, trivial⟩
     ·
      clear h39 h40 h41
      subst e
      refine LV.step (VAL.move rfl) rfl rfl rfl ?_
      refine LV.by (V.lenS h54 rfl Trf.ls25) rfl rfl rfl fun x59_27 h55 => ?_
      refine LV.by (V.eq h55 rfl rfl) rfl rfl rfl fun x60_28 h56 => ?_
      refine LV.step (VAL.pure rfl) rfl rfl rfl ?_
      exact LV.atSeam (a0, a1, a2, x60_28, T, nx) hS h56 ⟨rfl, rfl, rfl, rfl, rfl, trivial⟩
    ·
     rintro ⟨y0, y1, y2, y61, T11, n11⟩ ρ its hQ h42
     have hS : EY.ST w0 base envE ρ0 ρ T11 ro n11 its := hQ
     clear hQ
     change LV _ _ _ _ _ _ _ _ _ [(0, y0), (1, y1), (2, y2), (61, y61), (6, (.lit (.bool false)))] _
     have h43 : g92_k6 ro y0 y1 y2 y61 T11 n11 = .ok r T' n' := h42
     unfold g92_k6 at h43
     clear h39 h40 h41 h42
     refine LV.step (VAL.move rfl) rfl rfl rfl ?_
     refine LV.seam (E := envE) (ro := ro) (ρ0 := ρ0) (τ := AV × AV × AV × AV × HT × Nat) (fun t => [(0, t.1), (1, t.2.1), (2, t.2.2.1), (67, t.2.2.2.1), (6, (.lit (.bool false)))]) (fun t => t.2.2.2.2.1) (fun t => t.2.2.2.2.2) (fun t => g92_k7 ro  t.1 t.2.1 t.2.2.1 t.2.2.2.1 t.2.2.2.2.1 t.2.2.2.2.2 = .ok r T' n') 5 ?_ ?_
     ·
      rcases condK_inv h43 with ⟨e, h51⟩ | ⟨e, h51⟩
      ·
       clear h43
       subst e
       refine LV.step (VAL.move rfl) rfl rfl rfl ?_
       refine LV.step (VAL.move rfl) rfl rfl rfl ?_
       refine LV.by (V.cutHi hS h51 rfl rfl Trf.el25) rfl rfl rfl fun x65_25 h52 => ?_
       refine LV.call hS h52 (g81_ok _ _ _ _ _ _ _ ) hP rfl rfl rfl rfl fun x66_26 T15 n15 h53 ρ its hS => ?_
       refine LV.step (VAL.pure rfl) rfl rfl rfl ?_
       exact LV.atSeam (y0, y1, y2, x66_26, T15, n15) hS h53 ⟨rfl, rfl, rfl, rfl, rfl, trivial⟩
      ·
       clear h43
       subst e
       refine LV.skip rfl rfl rfl ?_
       refine LV.skip rfl rfl rfl ?_
       refine LV.skip rfl rfl rfl ?_
       refine LV.skip rfl rfl rfl ?_
       refine LV.step (VAL.pure rfl) rfl rfl rfl ?_
       exact LV.atSeam (y0, y1, y2, (.lit (.bool false)), T11, n11) hS h51 ⟨rfl, rfl, rfl, rfl, rfl, trivial⟩
     ·
      rintro ⟨y0, y1, y2, y67, T12, n12⟩ ρ its hQ h44
      have hS : EY.ST w0 base envE ρ0 ρ T12 ro n12 its := hQ
      clear hQ
      change LV _ _ _ _ _ _ _ _ _ [(0, y0), (1, y1), (2, y2), (67, y67), (6, (.lit (.bool false)))] _
      have h45 : g92_k7 ro y0 y1 y2 y67 T12 n12 = .ok r T' n' := h44
      unfold g92_k7 at h45
      clear h43 h44
      refine LV.step (VAL.move rfl) rfl rfl rfl ?_
      refine LV.seam (E := envE) (ro := ro) (ρ0 := ρ0) (τ := AV × AV × AV × AV × HT × Nat) (fun t => [(0, t.1), (1, t.2.1), (2, t.2.2.1), (73, t.2.2.2.1), (6, (.lit (.bool false)))]) (fun t => t.2.2.2.2.1) (fun t => t.2.2.2.2.2) (fun t => g92_k8 ro  t.1 t.2.1 t.2.2.1 t.2.2.2.1 t.2.2.2.2.1 t.2.2.2.2.2 = .ok r T' n') 5 ?_ ?_
      ·
       rcases condK_inv h45 with ⟨e, h48⟩ | ⟨e, h48⟩
       ·
        clear h45
        subst e
        refine LV.step (VAL.move rfl) rfl rfl rfl ?_
        refine LV.step (VAL.move rfl) rfl rfl rfl ?_
        refine LV.cutLoF hS h48 rfl rfl rfl Trf.el25 rfl rfl rfl fun x71_23 h49 => ?_
        refine LV.call hS h49 (g83_ok _ _ _ _ _ _ ) hP rfl rfl rfl rfl fun x72_24 T14 n14 h50 ρ its hS => ?_
        refine LV.step (VAL.pure rfl) rfl rfl rfl ?_
        exact LV.atSeam (y0, y1, y2, x72_24, T14, n14) hS h50 ⟨rfl, rfl, rfl, rfl, rfl, trivial⟩
       ·
        clear h45
        subst e
        refine LV.skip rfl rfl rfl ?_
        refine LV.skip rfl rfl rfl ?_
        refine LV.skip rfl rfl rfl ?_
        refine LV.skip rfl rfl rfl ?_
        refine LV.step (VAL.pure rfl) rfl rfl rfl ?_
        exact LV.atSeam (y0, y1, y2, (.lit (.bool false)), T12, n12) hS h48 ⟨rfl, rfl, rfl, rfl, rfl, trivial⟩
      ·
       rintro ⟨y0, y1, y2, y73, T13, n13⟩ ρ its hQ h46
       have hS : EY.ST w0 base envE ρ0 ρ T13 ro n13 its := hQ
       clear hQ
       change LV _ _ _ _ _ _ _ _ _ [(0, y0), (1, y1), (2, y2), (73, y73), (6, (.lit (.bool false)))] _
       have h47 : g92_k8 ro y0 y1 y2 y73 T13 n13 = .ok r T' n' := h46
       unfold g92_k8 at h47
       clear h45 h46
       refine LV.step (VAL.assign rfl) rfl rfl rfl ?_
       refine LV.done ?_
       refine PV.sub [(0, y0), (1, y1), (2, y2), (6, y73)] ⟨rfl, rfl, rfl, rfl, trivial⟩ ?_
       refine PV.thenN ?_
       refine CV.ret ?_
       refine PV.blockR ?_
       refine PV.thenR ?_
       cases h47
       exact PV.ret (by simp) Tryd.results92 hS (RS.tmp rfl RS.nil) rfl
   ·
    clear h18 h38
    subst e
    refine CV.seq ?_
    refine CV.region ?_
    refine LV.by (V.eq h39 rfl rfl) rfl rfl rfl fun x75_29 h57 => ?_
    refine LV.step (VAL.assign rfl) rfl rfl rfl ?_
    refine LV.done ?_
    refine PV.sub [(0, a0), (1, a1), (2, a2), (6, (.lit (.bool false))), (74, x75_29)] ⟨rfl, rfl, rfl, rfl, rfl, trivial⟩ ?_
    refine PV.thenN ?_
    refine CV.cond h57 rfl (fun e h58 => ?_) (fun e h58 => ?_)
    ·
     clear h39 h57
     subst e
     refine CV.seq ?_
     refine CV.region ?_
     refine LV.step (VAL.move rfl) rfl rfl rfl ?_
     refine LV.by (V.lenS h58 rfl Trf.ls25) rfl rfl rfl fun x77_30 h59 => ?_
     refine LV.by (V.eq h59 rfl rfl) rfl rfl rfl fun x78_31 h60 => ?_
     refine LV.step (VAL.move rfl) rfl rfl rfl ?_
     refine LV.seam (E := envE) (ro := ro) (ρ0 := ρ0) (τ := AV × AV × AV × AV × HT × Nat) (fun t => [(0, t.1), (1, t.2.1), (2, t.2.2.1), (85, t.2.2.2.1), (6, (.lit (.bool false)))]) (fun t => t.2.2.2.2.1) (fun t => t.2.2.2.2.2) (fun t => g92_k9 ro  t.1 t.2.1 t.2.2.1 t.2.2.2.1 t.2.2.2.2.1 t.2.2.2.2.2 = .ok r T' n') 6 ?_ ?_
     ·
      rcases condK_inv h60 with ⟨e, h74⟩ | ⟨e, h74⟩
      ·
       clear h58 h59 h60
       subst e
       refine LV.step (VAL.move rfl) rfl rfl rfl ?_
       refine LV.step (VAL.move rfl) rfl rfl rfl ?_
       refine LV.by (V.ia h74 rfl rfl Trf.el25) rfl rfl rfl fun x82_37 h75 => ?_
       refine LV.by (V.ld hS h75 rfl Trf.one3) rfl rfl rfl fun x83_38 h76 => ?_
       refine LV.call hS h76 (scc1_ok _ _ _ _ _ _) hP rfl rfl rfl rfl fun x84_39 T21 n21 h77 ρ its hS => ?_
       refine LV.step (VAL.pure rfl) rfl rfl rfl ?_
       exact LV.atSeam (a0, a1, a2, x84_39, T21, n21) hS h77 ⟨rfl, rfl, rfl, rfl, rfl, trivial⟩
      ·
       clear h58 h59 h60
       subst e
       refine LV.skip rfl rfl rfl ?_
       refine LV.skip rfl rfl rfl ?_
       refine LV.skip rfl rfl rfl ?_
       refine LV.skip rfl rfl rfl ?_
       refine LV.skip rfl rfl rfl ?_
       refine LV.step (VAL.pure rfl) rfl rfl rfl ?_
       exact LV.atSeam (a0, a1, a2, (.lit (.bool false)), T, nx) hS h74 ⟨rfl, rfl, rfl, rfl, rfl, trivial⟩
     ·
      rintro ⟨y0, y1, y2, y85, T16, n16⟩ ρ its hQ h61
      have hS : EY.ST w0 base envE ρ0 ρ T16 ro n16 its := hQ
      clear hQ
      change LV _ _ _ _ _ _ _ _ _ [(0, y0), (1, y1), (2, y2), (85, y85), (6, (.lit (.bool false)))] _
      have h62 : g92_k9 ro y0 y1 y2 y85 T16 n16 = .ok r T' n' := h61
      unfold g92_k9 at h62
      clear h58 h59 h60 h61
      refine LV.step (VAL.move rfl) rfl rfl rfl ?_
      refine LV.seam (E := envE) (ro := ro) (ρ0 := ρ0) (τ := AV × AV × AV × AV × HT × Nat) (fun t => [(0, t.1), (1, t.2.1), (2, t.2.2.1), (91, t.2.2.2.1), (6, (.lit (.bool false)))]) (fun t => t.2.2.2.2.1) (fun t => t.2.2.2.2.2) (fun t => g92_k10 ro  t.1 t.2.1 t.2.2.1 t.2.2.2.1 t.2.2.2.2.1 t.2.2.2.2.2 = .ok r T' n') 5 ?_ ?_
      ·
       rcases condK_inv h62 with ⟨e, h71⟩ | ⟨e, h71⟩
       ·
        clear h62
        subst e
        refine LV.step (VAL.move rfl) rfl rfl rfl ?_
        refine LV.step (VAL.move rfl) rfl rfl rfl ?_
        refine LV.by (V.cutBo hS h71 rfl rfl rfl Trf.el25) rfl rfl rfl fun x89_35 h72 => ?_
        refine LV.call hS h72 (g81_ok _ _ _ _ _ _ _ ) hP rfl rfl rfl rfl fun x90_36 T20 n20 h73 ρ its hS => ?_
        refine LV.step (VAL.pure rfl) rfl rfl rfl ?_
        exact LV.atSeam (y0, y1, y2, x90_36, T20, n20) hS h73 ⟨rfl, rfl, rfl, rfl, rfl, trivial⟩
       ·
        clear h62
        subst e
        refine LV.skip rfl rfl rfl ?_
        refine LV.skip rfl rfl rfl ?_
        refine LV.skip rfl rfl rfl ?_
        refine LV.skip rfl rfl rfl ?_
        refine LV.step (VAL.pure rfl) rfl rfl rfl ?_
        exact LV.atSeam (y0, y1, y2, (.lit (.bool false)), T16, n16) hS h71 ⟨rfl, rfl, rfl, rfl, rfl, trivial⟩
      ·
       rintro ⟨y0, y1, y2, y91, T17, n17⟩ ρ its hQ h63
       have hS : EY.ST w0 base envE ρ0 ρ T17 ro n17 its := hQ
       clear hQ
       change LV _ _ _ _ _ _ _ _ _ [(0, y0), (1, y1), (2, y2), (91, y91), (6, (.lit (.bool false)))] _
       have h64 : g92_k10 ro y0 y1 y2 y91 T17 n17 = .ok r T' n' := h63
       unfold g92_k10 at h64
       clear h62 h63
       refine LV.step (VAL.move rfl) rfl rfl rfl ?_
       refine LV.seam (E := envE) (ro := ro) (ρ0 := ρ0) (τ := AV × AV × AV × AV × HT × Nat) (fun t => [(0, t.1), (1, t.2.1), (2, t.2.2.1), (98, t.2.2.2.1), (6, (.lit (.bool false)))]) (fun t => t.2.2.2.2.1) (fun t => t.2.2.2.2.2) (fun t => g92_k11 ro  t.1 t.2.1 t.2.2.1 t.2.2.2.1 t.2.2.2.2.1 t.2.2.2.2.2 = .ok r T' n') 6 ?_ ?_
       ·
        rcases condK_inv h64 with ⟨e, h67⟩ | ⟨e, h67⟩
        ·
         clear h64
         subst e
         refine LV.step (VAL.move rfl) rfl rfl rfl ?_
         refine LV.step (VAL.move rfl) rfl rfl rfl ?_
         refine LV.by (V.ia h67 rfl rfl Trf.el25) rfl rfl rfl fun x95_32 h68 => ?_
         refine LV.by (V.ld hS h68 rfl Trf.one3) rfl rfl rfl fun x96_33 h69 => ?_
         refine LV.call hS h69 (g89_ok _ _ _ _ _ _ ) hP rfl rfl rfl rfl fun x97_34 T19 n19 h70 ρ its hS => ?_
         refine LV.step (VAL.pure rfl) rfl rfl rfl ?_
         exact LV.atSeam (y0, y1, y2, x97_34, T19, n19) hS h70 ⟨rfl, rfl, rfl, rfl, rfl, trivial⟩
        ·
         clear h64
         subst e
         refine LV.skip rfl rfl rfl ?_
         refine LV.skip rfl rfl rfl ?_
         refine LV.skip rfl rfl rfl ?_
         refine LV.skip rfl rfl rfl ?_
         refine LV.skip rfl rfl rfl ?_
         refine LV.step (VAL.pure rfl) rfl rfl rfl ?_
         exact LV.atSeam (y0, y1, y2, (.lit (.bool false)), T17, n17) hS h67 ⟨rfl, rfl, rfl, rfl, rfl, trivial⟩
       ·
        rintro ⟨y0, y1, y2, y98, T18, n18⟩ ρ its hQ h65
        have hS : EY.ST w0 base envE ρ0 ρ T18 ro n18 its := hQ
        clear hQ
        change LV _ _ _ _ _ _ _ _ _ [(0, y0), (1, y1), (2, y2), (98, y98), (6, (.lit (.bool false)))] _
        have h66 : g92_k11 ro y0 y1 y2 y98 T18 n18 = .ok r T' n' := h65
        unfold g92_k11 at h66
        clear h64 h65
        refine LV.step (VAL.assign rfl) rfl rfl rfl ?_
        refine LV.done ?_
        refine PV.sub [(0, y0), (1, y1), (2, y2), (6, y98)] ⟨rfl, rfl, rfl, rfl, trivial⟩ ?_
        refine PV.thenN ?_
        refine CV.ret ?_
        refine PV.blockR ?_
        refine PV.thenR ?_
        cases h66
        exact PV.ret (by simp) Tryd.results92 hS (RS.tmp rfl RS.nil) rfl
    ·
     clear h39 h57
     subst e
     refine CV.skip ?_
     refine PV.blockN ?_
     refine PV.thenN ?_
     refine CV.seq ?_
     refine CV.region ?_
     refine LV.step (VAL.move rfl) rfl rfl rfl ?_
     refine LV.by (V.eq h58 rfl rfl) rfl rfl rfl fun x100_40 h78 => ?_
     refine LV.step (VAL.move rfl) rfl rfl rfl ?_
     refine LV.seam (E := envE) (ro := ro) (ρ0 := ρ0) (τ := AV × AV × AV × AV × HT × Nat) (fun t => [(0, t.1), (1, t.2.1), (2, t.2.2.1), (104, t.2.2.2.1), (6, (.lit (.bool false)))]) (fun t => t.2.2.2.2.1) (fun t => t.2.2.2.2.2) (fun t => g92_k12 ro  t.1 t.2.1 t.2.2.1 t.2.2.2.1 t.2.2.2.2.1 t.2.2.2.2.2 = .ok r T' n') 3 ?_ ?_
     ·
      rcases condK_inv h78 with ⟨e, h97⟩ | ⟨e, h97⟩
      ·
       clear h58 h78
       subst e
       refine LV.skip rfl rfl rfl ?_
       refine LV.skip rfl rfl rfl ?_
       refine LV.step (VAL.pure rfl) rfl rfl rfl ?_
       exact LV.atSeam (a0, a1, a2, (.lit (.bool true)), T, nx) hS h97 ⟨rfl, rfl, rfl, rfl, rfl, trivial⟩
      ·
       clear h58 h78
       subst e
       refine LV.step (VAL.move rfl) rfl rfl rfl ?_
       refine LV.by (V.eq h97 rfl rfl) rfl rfl rfl fun x103_45 h98 => ?_
       refine LV.step (VAL.pure rfl) rfl rfl rfl ?_
       exact LV.atSeam (a0, a1, a2, x103_45, T, nx) hS h98 ⟨rfl, rfl, rfl, rfl, rfl, trivial⟩
     ·
      rintro ⟨y0, y1, y2, y104, T22, n22⟩ ρ its hQ h79
      have hS : EY.ST w0 base envE ρ0 ρ T22 ro n22 its := hQ
      clear hQ
      change LV _ _ _ _ _ _ _ _ _ [(0, y0), (1, y1), (2, y2), (104, y104), (6, (.lit (.bool false)))] _
      have h80 : g92_k12 ro y0 y1 y2 y104 T22 n22 = .ok r T' n' := h79
      unfold g92_k12 at h80
      clear h58 h78 h79
      refine LV.step (VAL.move rfl) rfl rfl rfl ?_
      refine LV.seam (E := envE) (ro := ro) (ρ0 := ρ0) (τ := AV × AV × AV × AV × HT × Nat) (fun t => [(0, t.1), (1, t.2.1), (2, t.2.2.1), (108, t.2.2.2.1), (6, (.lit (.bool false)))]) (fun t => t.2.2.2.2.1) (fun t => t.2.2.2.2.2) (fun t => g92_k13 ro  t.1 t.2.1 t.2.2.1 t.2.2.2.1 t.2.2.2.2.1 t.2.2.2.2.2 = .ok r T' n') 3 ?_ ?_
      ·
       rcases condK_inv h80 with ⟨e, h95⟩ | ⟨e, h95⟩
       ·
        clear h80
        subst e
        refine LV.skip rfl rfl rfl ?_
        refine LV.skip rfl rfl rfl ?_
        refine LV.step (VAL.pure rfl) rfl rfl rfl ?_
        exact LV.atSeam (y0, y1, y2, (.lit (.bool true)), T22, n22) hS h95 ⟨rfl, rfl, rfl, rfl, rfl, trivial⟩
       ·
        clear h80
        subst e
        refine LV.step (VAL.move rfl) rfl rfl rfl ?_
        refine LV.by (V.eq h95 rfl rfl) rfl rfl rfl fun x107_44 h96 => ?_
        refine LV.step (VAL.pure rfl) rfl rfl rfl ?_
        exact LV.atSeam (y0, y1, y2, x107_44, T22, n22) hS h96 ⟨rfl, rfl, rfl, rfl, rfl, trivial⟩
      ·
       rintro ⟨y0, y1, y2, y108, T23, n23⟩ ρ its hQ h81
       have hS : EY.ST w0 base envE ρ0 ρ T23 ro n23 its := hQ
       clear hQ
       change LV _ _ _ _ _ _ _ _ _ [(0, y0), (1, y1), (2, y2), (108, y108), (6, (.lit (.bool false)))] _
       have h82 : g92_k13 ro y0 y1 y2 y108 T23 n23 = .ok r T' n' := h81
       unfold g92_k13 at h82
       clear h80 h81
       refine LV.step (VAL.move rfl) rfl rfl rfl ?_
       refine LV.seam (E := envE) (ro := ro) (ρ0 := ρ0) (τ := AV × AV × AV × HT × Nat) (fun t => [(0, t.1), (2, t.2.1), (116, t.2.2.1), (6, (.lit (.bool false)))]) (fun t => t.2.2.2.1) (fun t => t.2.2.2.2) (fun t => g92_k14 ro  t.1 t.2.1 t.2.2.1 t.2.2.2.1 t.2.2.2.2 = .ok r T' n') 7 ?_ ?_
       ·
        rcases condK_inv h82 with ⟨e, h89⟩ | ⟨e, h89⟩
        ·
         clear h82
         subst e
         refine LV.skip rfl rfl rfl ?_
         refine LV.skip rfl rfl rfl ?_
         refine LV.skip rfl rfl rfl ?_
         refine LV.skip rfl rfl rfl ?_
         refine LV.skip rfl rfl rfl ?_
         refine LV.skip rfl rfl rfl ?_
         refine LV.step (VAL.pure rfl) rfl rfl rfl ?_
         exact LV.atSeam (y0, y2, (.lit (.bool true)), T23, n23) hS h89 ⟨rfl, rfl, rfl, rfl, trivial⟩
        ·
         clear h82
         subst e
         refine LV.step (VAL.move rfl) rfl rfl rfl ?_
         refine LV.by (V.ge h89 rfl rfl) rfl rfl rfl fun x111_42 h90 => ?_
         refine LV.step (VAL.move rfl) rfl rfl rfl ?_
         refine LV.seam (E := envE) (ro := ro) (ρ0 := ρ0) (τ := AV × AV × AV × HT × Nat) (fun t => [(0, t.1), (2, t.2.1), (115, t.2.2.1), (6, (.lit (.bool false))), (109, (.lit (.bool false)))]) (fun t => t.2.2.2.1) (fun t => t.2.2.2.2) (fun t => g92_k16 ro  t.1 t.2.1 t.2.2.1 t.2.2.2.1 t.2.2.2.2 = .ok r T' n') 3 ?_ ?_
         ·
          rcases condK_inv h90 with ⟨e, h93⟩ | ⟨e, h93⟩
          ·
           clear h89 h90
           subst e
           refine LV.step (VAL.move rfl) rfl rfl rfl ?_
           refine LV.by (V.le h93 rfl rfl) rfl rfl rfl fun x114_43 h94 => ?_
           refine LV.step (VAL.pure rfl) rfl rfl rfl ?_
           exact LV.atSeam (y0, y2, x114_43, T23, n23) hS h94 ⟨rfl, rfl, rfl, rfl, rfl, trivial⟩
          ·
           clear h89 h90
           subst e
           refine LV.skip rfl rfl rfl ?_
           refine LV.skip rfl rfl rfl ?_
           refine LV.step (VAL.pure rfl) rfl rfl rfl ?_
           exact LV.atSeam (y0, y2, (.lit (.bool false)), T23, n23) hS h93 ⟨rfl, rfl, rfl, rfl, rfl, trivial⟩
         ·
          rintro ⟨y0, y2, y115, T27, n27⟩ ρ its hQ h91
          have hS : EY.ST w0 base envE ρ0 ρ T27 ro n27 its := hQ
          clear hQ
          change LV _ _ _ _ _ _ _ _ _ [(0, y0), (2, y2), (115, y115), (6, (.lit (.bool false))), (109, (.lit (.bool false)))] _
          have h92 : g92_k16 ro y0 y2 y115 T27 n27 = .ok r T' n' := h91
          unfold g92_k16 at h92
          clear h89 h90 h91
          refine LV.step (VAL.pure rfl) rfl rfl rfl ?_
          exact LV.atSeam (y0, y2, y115, T27, n27) hS h92 ⟨rfl, rfl, rfl, rfl, trivial⟩
       ·
        rintro ⟨y0, y2, y116, T24, n24⟩ ρ its hQ h83
        have hS : EY.ST w0 base envE ρ0 ρ T24 ro n24 its := hQ
        clear hQ
        change LV _ _ _ _ _ _ _ _ _ [(0, y0), (2, y2), (116, y116), (6, (.lit (.bool false)))] _
        have h84 : g92_k14 ro y0 y2 y116 T24 n24 = .ok r T' n' := h83
        unfold g92_k14 at h84
        clear h82 h83
        refine LV.step (VAL.assign rfl) rfl rfl rfl ?_
        refine LV.done ?_
        refine PV.sub [(0, y0), (2, y2), (6, (.lit (.bool false))), (7, y116)] ⟨rfl, rfl, rfl, rfl, trivial⟩ ?_
        refine PV.thenN ?_
        refine CV.seq ?_
        refine CV.region ?_
        refine LV.step (VAL.move rfl) rfl rfl rfl ?_
        refine LV.step (VAL.move rfl) rfl rfl rfl ?_
        refine LV.seam (E := envE) (ro := ro) (ρ0 := ρ0) (τ := AV × HT × Nat) (fun t => [(122, t.1), (6, (.lit (.bool false)))]) (fun t => t.2.1) (fun t => t.2.2) (fun t => g92_k15 ro  t.1 t.2.1 t.2.2 = .ok r T' n') 4 ?_ ?_
        ·
         rcases condK_inv h84 with ⟨e, h87⟩ | ⟨e, h87⟩
         ·
          clear h84
          subst e
          refine LV.step (VAL.move rfl) rfl rfl rfl ?_
          refine LV.step (VAL.move rfl) rfl rfl rfl ?_
          refine LV.call hS h87 (g81_ok _ _ _ _ _ _ _ ) hP rfl rfl rfl rfl fun x121_41 T26 n26 h88 ρ its hS => ?_
          refine LV.step (VAL.pure rfl) rfl rfl rfl ?_
          exact LV.atSeam (x121_41, T26, n26) hS h88 ⟨rfl, rfl, trivial⟩
         ·
          clear h84
          subst e
          refine LV.skip rfl rfl rfl ?_
          refine LV.skip rfl rfl rfl ?_
          refine LV.skip rfl rfl rfl ?_
          refine LV.step (VAL.pure rfl) rfl rfl rfl ?_
          exact LV.atSeam ((.lit (.bool false)), T24, n24) hS h87 ⟨rfl, rfl, trivial⟩
        ·
         rintro ⟨y122, T25, n25⟩ ρ its hQ h85
         have hS : EY.ST w0 base envE ρ0 ρ T25 ro n25 its := hQ
         clear hQ
         change LV _ _ _ _ _ _ _ _ _ [(122, y122), (6, (.lit (.bool false)))] _
         have h86 : g92_k15 ro y122 T25 n25 = .ok r T' n' := h85
         unfold g92_k15 at h86
         clear h84 h85
         refine LV.step (VAL.assign rfl) rfl rfl rfl ?_
         refine LV.done ?_
         refine PV.sub [(6, y122)] ⟨rfl, trivial⟩ ?_
         refine PV.thenN ?_
         refine CV.ret ?_
         cases h86
         exact PV.ret (by simp) Tryd.results92 hS (RS.tmp rfl RS.nil) rfl

end Go.Proofs.YtggoogbloaennaaDoor.Tr
