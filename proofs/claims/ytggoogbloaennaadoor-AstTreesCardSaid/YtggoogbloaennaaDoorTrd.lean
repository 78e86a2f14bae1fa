/-
  Proved here: plain functions that do what the program's functions do, each with its proof.
-/
import Derived.Test.YtggoogbloaennaaDoorTrc
namespace Go.Proofs.YtggoogbloaennaaDoor.Tr
open Go.EY Go.EX Go.SX Go.RowKit
noncomputable def g68_k3 (ro : List HT) (lp1 : AV → AV → AV → AV → AV → AV → AV → HT → Nat → R) (y0 y4 y5 y6 y10 y11 y12 y47 : AV) (T8 : HT) (n8 : Nat) : R :=
 addK Tryd.prog 3 (.tmp 12) (.const (.int .i64 (.ofNat 1))) 680037 y12 (.lit (.int .i64 (.ofNat 1))) fun x48_18 =>
 lp1 y0 y4 y5 y47 y10 y11 x48_18 T8 n8
noncomputable def g68_k2 (ro : List HT) (lp1 : AV → AV → AV → AV → AV → AV → AV → HT → Nat → R) (y0 y4 y5 y6 y9 y10 y11 y12 y35 : AV) (T5 : HT) (n5 : Nat) : R :=
 condK 680026 y35
 (
  .ok (.val (.lit (.bool false))) T5 n5
 )
 (
  faK 680029 y9 3 fun x37_14 =>
  ldK 680030 T5 ro x37_14 fun x38_15 =>
  bsK 680031 T5 n5 1 9 1 [(0, x38_15)] fun x39_16 T6 n6 =>
  appK 680032 T6 ro n6 9 1 16 y5 x39_16 fun x40_17 T7 n7 =>
  condK 680039 y6
  (
   g68_k3 ro lp1 y0 y4 x40_17 (.lit (.bool true)) y10 y11 y12 (.lit (.bool true)) T7 n7
  )
  (
   faK 680041 y9 4 fun x43_19 =>
   ldK 680042 T7 ro x43_19 fun x44_20 =>
   lenSK 680043 x44_20 fun x45_21 =>
   gtK Tryd.prog 3 (.tmp 45) (.const (.int .i64 (.ofNat 0))) 680044 x45_21 (.lit (.int .i64 (.ofNat 0))) fun x46_22 =>
   g68_k3 ro lp1 y0 y4 x40_17 (.lit (.bool false)) y10 y11 y12 x46_22 T7 n7
  )
 )
noncomputable def g68_k4 (ro : List HT) (lp1 : AV → AV → AV → AV → AV → AV → AV → HT → Nat → R) (y0 y4 y5 y6 y9 y10 y11 y12 y34 : AV) (T9 : HT) (n9 : Nat) : R :=
 g68_k2 ro lp1 y0 y4 y5 y6 y9 y10 y11 y12 y34 T9 n9
noncomputable def g68_b1 (ro : List HT) (lp1 : AV → AV → AV → AV → AV → AV → AV → HT → Nat → R) (y0 y4 y5 y6 y10 y11 y12 : AV) (T1 : HT) (n1 : Nat) : R :=
 ltK Tryd.prog 3 (.tmp 12) (.tmp 11) 680007 y12 y11 fun x13_2 =>
 condK 680008 x13_2
 (
  iaK 680009 y10 y12 1 fun x14_3 =>
  ldK 680010 T1 ro x14_3 fun x15_4 =>
  ncK 680013 y0 fun x17_5 =>
  faK 680014 x17_5 0 fun x18_6 =>
  ldK 680015 T1 ro x18_6 fun x19_7 =>
  iaK 680017 x19_7 x15_4 5 fun x21_8 =>
  ldAK 680018 T1 ro x21_8 5 fun x22_9 =>
  newK T1 n1 (.obj [.lit (.int .i64 0), .lit (.int .i64 0), .lit (.int .i64 0), .lit (.string ⟨#[]⟩), .lit (.slice none 0 0)] 27) fun x9_10 T2 n2 =>
  stAK 680020 T2 x9_10 x22_9 5 fun T3 =>
  faK 680022 x9_10 3 fun x24_11 =>
  ldK 680023 T3 ro x24_11 fun x25_12 =>
  callK (g60 ro y5 x25_12 T3 n2) fun x26_13 T4 n4 =>
  condK 680046 x26_13
  (
   g68_k2 ro lp1 y0 y4 y5 y6 x9_10 y10 y11 y12 (.lit (.bool true)) T4 n4
  )
  (
   condK 680051 y6
   (
    faK 680052 x9_10 4 fun x30_23 =>
    ldK 680053 T4 ro x30_23 fun x31_24 =>
    lenSK 680054 x31_24 fun x32_25 =>
    eqK Tryd.prog 3 (.tmp 32) (.const (.int .i64 (.ofNat 0))) 680055 x32_25 (.lit (.int .i64 (.ofNat 0))) fun x33_26 =>
    g68_k4 ro lp1 y0 y4 y5 (.lit (.bool true)) x9_10 y10 y11 y12 x33_26 T4 n4
   )
   (
    g68_k4 ro lp1 y0 y4 y5 (.lit (.bool false)) x9_10 y10 y11 y12 (.lit (.bool false)) T4 n4
   )
  )
 )
 (
  .ok (.val (.lit (.bool true))) T1 n1
 )
noncomputable def g68_l1 (ro : List HT) (fuel : Nat) : AV → AV → AV → AV → AV → AV → AV → HT → Nat → R :=
  Nat.rec (motive := fun _ => AV → AV → AV → AV → AV → AV → AV → HT → Nat → R) (fun _ _ _ _ _ _ _ _ _ => .bad 680059) (fun _ lp => g68_b1 ro lp) fuel
noncomputable def g68 (ro : List HT) (a0 a1 : AV) (T : HT) (nx : Nat) : R :=
 lenSK 680005 a1 fun x11_1 =>
 g68_l1 ro 100000 a0 (.lit (.bool false)) (.lit (.slice none 0 0)) (.lit (.bool false)) a1 x11_1 (.lit (.int .i64 (.ofNat 0))) T nx
theorem g68_ok (ro : List HT) (a0 a1 : AV) (T : HT) (nx : Nat) : GOk Tryd.prog envE 68 [a0, a1] ro T nx (g68 ro a0 a1 T nx) := by
 refine GOk.of_body Tryd.func68 rfl Tryd.ntmps68 (by kernel_rfl) rfl fun r T' n' h1 w0 base ρ0 its hS hP => ?_
 unfold g68 at h1
 refine CV.sub [(0, a0), (1, a1)] ⟨rfl, rfl, trivial⟩ ?_
 refine CV.seq ?_
 refine CV.region ?_
 refine LV.step (VAL.assign rfl) rfl rfl rfl ?_
 refine LV.done ?_
 refine PV.sub [(0, a0), (1, a1), (4, (.lit (.bool false)))] ⟨rfl, rfl, rfl, trivial⟩ ?_
 refine PV.thenN ?_
 refine CV.seq ?_
 refine CV.region ?_
 refine LV.step (VAL.assign rfl) rfl rfl rfl ?_
 refine LV.done ?_
 refine PV.sub [(0, a0), (1, a1), (4, (.lit (.bool false))), (5, (.lit (.slice none 0 0)))] ⟨rfl, rfl, rfl, rfl, trivial⟩ ?_
 refine PV.thenN ?_
 refine CV.seq ?_
 refine CV.region ?_
 refine LV.step (VAL.assign rfl) rfl rfl rfl ?_
 refine LV.done ?_
 refine PV.sub [(0, a0), (1, a1), (4, (.lit (.bool false))), (5, (.lit (.slice none 0 0))), (6, (.lit (.bool false)))] ⟨rfl, rfl, rfl, rfl, rfl, trivial⟩ ?_
 refine PV.thenN ?_
 refine CV.seq ?_
 refine CV.seq ?_
 refine CV.region ?_
 refine LV.step (VAL.move rfl) rfl rfl rfl ?_
 refine LV.by (V.lenS h1 rfl Trf.ls25) rfl rfl rfl fun x11_1 h2 => ?_
 refine LV.step (VAL.move rfl) rfl rfl rfl ?_
 refine LV.done ?_
 refine PV.sub [(0, a0), (4, (.lit (.bool false))), (5, (.lit (.slice none 0 0))), (6, (.lit (.bool false))), (10, a1), (11, x11_1), (12, (.lit (.int .i64 (.ofNat 0))))] ⟨rfl, rfl, rfl, rfl, rfl, rfl, rfl, trivial⟩ ?_
 refine PV.thenN ?_
 refine CV.block ?_
 refine CV.loop (E := envE) (ro := ro) (ρ0 := ρ0) (τ := AV × AV × AV × AV × AV × AV × AV × HT × Nat) (fun t => [(0, t.1), (4, t.2.1), (5, t.2.2.1), (6, t.2.2.2.1), (10, t.2.2.2.2.1), (11, t.2.2.2.2.2.1), (12, t.2.2.2.2.2.2.1)]) (fun t => t.2.2.2.2.2.2.2.1) (fun t => t.2.2.2.2.2.2.2.2) (fun f t => g68_l1 ro f t.1 t.2.1 t.2.2.1 t.2.2.2.1 t.2.2.2.2.1 t.2.2.2.2.2.1 t.2.2.2.2.2.2.1 t.2.2.2.2.2.2.2.1 t.2.2.2.2.2.2.2.2 = .ok r T' n') 100000 (a0, (.lit (.bool false)), (.lit (.slice none 0 0)), (.lit (.bool false)), a1, x11_1, (.lit (.int .i64 (.ofNat 0))), T, nx) hS h2 ⟨rfl, rfl, rfl, rfl, rfl, rfl, rfl, trivial⟩ ?_
 rintro (_ | f1) ⟨y0, y4, y5, y6, y10, y11, y12, T1, n1⟩ ρ its hQ h3
 · cases h3
 have hS : EY.ST w0 base envE ρ0 ρ T1 ro n1 its := hQ
 clear hQ
 change CV _ _ _ _ _ _ _ _ [(0, y0), (4, y4), (5, y5), (6, y6), (10, y10), (11, y11), (12, y12)] _
 have h4 : g68_b1 ro (g68_l1 ro f1) y0 y4 y5 y6 y10 y11 y12 T1 n1 = .ok r T' n' := h3
 unfold g68_b1 at h4
 clear h1 h2 h3
 refine CV.seq ?_
 refine CV.region ?_
 refine LV.by (V.lt h4 rfl rfl) rfl rfl rfl fun x13_2 h5 => ?_
 refine LV.done ?_
 refine PV.sub [(0, y0), (4, y4), (5, y5), (6, y6), (10, y10), (11, y11), (12, y12), (13, x13_2)] ⟨rfl, rfl, rfl, rfl, rfl, rfl, rfl, rfl, trivial⟩ ?_
 refine PV.thenN ?_
 refine CV.seq ?_
 refine CV.cond h5 rfl (fun e h6 => ?_) (fun e h6 => ?_)
 ·
  clear h4 h5
  subst e
  refine CV.skip ?_
  refine PV.thenN ?_
  refine CV.seq ?_
  refine CV.block ?_
  refine CV.seq ?_
  refine CV.region ?_
  refine LV.by (V.ia h6 rfl rfl Trf.el25) rfl rfl rfl fun x14_3 h7 => ?_
  refine LV.by (V.ld hS h7 rfl Trf.one3) rfl rfl rfl fun x15_4 h8 => ?_
  refine LV.step (VAL.assign rfl) rfl rfl rfl ?_
  refine LV.done ?_
  refine PV.sub [(0, y0), (4, y4), (5, y5), (6, y6), (8, x15_4), (10, y10), (11, y11), (12, y12)] ⟨rfl, rfl, rfl, rfl, rfl, rfl, rfl, rfl, trivial⟩ ?_
  refine PV.thenN ?_
  refine CV.seq ?_
  refine CV.region ?_
  refine LV.step (VAL.move rfl) rfl rfl rfl ?_
  refine LV.by (V.nc h8 rfl) rfl rfl rfl fun x17_5 h9 => ?_
  refine LV.by (V.fa h9 rfl Trf.fo63_0) rfl rfl rfl fun x18_6 h10 => ?_
  refine LV.by (V.ld hS h10 rfl Trf.one24) rfl rfl rfl fun x19_7 h11 => ?_
  refine LV.step (VAL.move rfl) rfl rfl rfl ?_
  refine LV.by (V.ia h11 rfl rfl Trf.el24) rfl rfl rfl fun x21_8 h12 => ?_
  refine LV.by (V.ldA hS h12 rfl Trf.agg27) rfl rfl rfl fun x22_9 h13 => ?_
  refine LV.alloc hS h13 rfl Trf.zr27 rfl rfl rfl fun x9_10 T2 n2 h14 ρ its hS hdr => ?_
  refine LV.stA hS h14 rfl rfl rfl Trf.agg27 rfl rfl rfl fun T3 its h15 hS => ?_
  refine LV.done ?_
  refine PV.sub [(0, y0), (4, y4), (5, y5), (6, y6), (9, x9_10), (10, y10), (11, y11), (12, y12)] ⟨rfl, rfl, rfl, rfl, rfl, rfl, rfl, rfl, trivial⟩ ?_
  refine PV.thenN ?_
  refine CV.seq ?_
  refine CV.seq ?_
  refine CV.region ?_
  refine LV.step (VAL.move rfl) rfl rfl rfl ?_
  refine LV.by (V.fa h15 rfl Trf.fo27_3) rfl rfl rfl fun x24_11 h16 => ?_
  refine LV.by (V.ld hS h16 rfl Trf.one9) rfl rfl rfl fun x25_12 h17 => ?_
  refine LV.call hS h17 (g60_ok _ _ _ _ _ ) hP rfl rfl rfl rfl fun x26_13 T4 n4 h18 ρ its hS => ?_
  refine LV.step (VAL.move rfl) rfl rfl rfl ?_
  refine LV.seam (E := envE) (ro := ro) (ρ0 := ρ0) (τ := AV × AV × AV × AV × AV × AV × AV × AV × AV × HT × Nat) (fun t => [(0, t.1), (4, t.2.1), (5, t.2.2.1), (6, t.2.2.2.1), (9, t.2.2.2.2.1), (10, t.2.2.2.2.2.1), (11, t.2.2.2.2.2.2.1), (12, t.2.2.2.2.2.2.2.1), (35, t.2.2.2.2.2.2.2.2.1)]) (fun t => t.2.2.2.2.2.2.2.2.2.1) (fun t => t.2.2.2.2.2.2.2.2.2.2) (fun t => g68_k2 ro (g68_l1 ro f1)  t.1 t.2.1 t.2.2.1 t.2.2.2.1 t.2.2.2.2.1 t.2.2.2.2.2.1 t.2.2.2.2.2.2.1 t.2.2.2.2.2.2.2.1 t.2.2.2.2.2.2.2.2.1 t.2.2.2.2.2.2.2.2.2.1 t.2.2.2.2.2.2.2.2.2.2 = .ok r T' n') 8 ?_ ?_
  ·
   rcases condK_inv h18 with ⟨e, h34⟩ | ⟨e, h34⟩
   ·
    clear h6 h7 h8 h9 h10 h11 h12 h13 h14 h15 h16 h17 h18
    subst e
    refine LV.skip rfl rfl rfl ?_
    refine LV.skip rfl rfl rfl ?_
    refine LV.skip rfl rfl rfl ?_
    refine LV.skip rfl rfl rfl ?_
    refine LV.skip rfl rfl rfl ?_
    refine LV.skip rfl rfl rfl ?_
    refine LV.skip rfl rfl rfl ?_
    refine LV.step (VAL.pure rfl) rfl rfl rfl ?_
    exact LV.atSeam (y0, y4, y5, y6, x9_10, y10, y11, y12, (.lit (.bool true)), T4, n4) hS h34 ⟨rfl, rfl, rfl, rfl, rfl, rfl, rfl, rfl, rfl, trivial⟩
   ·
    clear h6 h7 h8 h9 h10 h11 h12 h13 h14 h15 h16 h17 h18
    subst e
    refine LV.step (VAL.move rfl) rfl rfl rfl ?_
    refine LV.step (VAL.move rfl) rfl rfl rfl ?_
    refine LV.seam (E := envE) (ro := ro) (ρ0 := ρ0) (τ := AV × AV × AV × AV × AV × AV × AV × AV × AV × HT × Nat) (fun t => [(0, t.1), (4, t.2.1), (5, t.2.2.1), (6, t.2.2.2.1), (9, t.2.2.2.2.1), (10, t.2.2.2.2.2.1), (11, t.2.2.2.2.2.2.1), (12, t.2.2.2.2.2.2.2.1), (34, t.2.2.2.2.2.2.2.2.1), (27, (.lit (.bool false)))]) (fun t => t.2.2.2.2.2.2.2.2.2.1) (fun t => t.2.2.2.2.2.2.2.2.2.2) (fun t => g68_k4 ro (g68_l1 ro f1)  t.1 t.2.1 t.2.2.1 t.2.2.2.1 t.2.2.2.2.1 t.2.2.2.2.2.1 t.2.2.2.2.2.2.1 t.2.2.2.2.2.2.2.1 t.2.2.2.2.2.2.2.2.1 t.2.2.2.2.2.2.2.2.2.1 t.2.2.2.2.2.2.2.2.2.2 = .ok r T' n') 5 ?_ ?_
    ·
     rcases condK_inv h34 with ⟨e, h37⟩ | ⟨e, h37⟩
     ·
      clear h34
      subst e
      refine LV.by (V.fa h37 rfl Trf.fo27_4) rfl rfl rfl fun x30_23 h38 => ?_
      refine LV.by (V.ld hS h38 rfl Trf.one25) rfl rfl rfl fun x31_24 h39 => ?_
      refine LV.by (V.lenS h39 rfl Trf.ls25) rfl rfl rfl fun x32_25 h40 => ?_
      refine LV.by (V.eq h40 rfl rfl) rfl rfl rfl fun x33_26 h41 => ?_
      refine LV.step (VAL.pure rfl) rfl rfl rfl ?_
      exact LV.atSeam (y0, y4, y5, (.lit (.bool true)), x9_10, y10, y11, y12, x33_26, T4, n4) hS h41 ⟨rfl, rfl, rfl, rfl, rfl, rfl, rfl, rfl, rfl, rfl, trivial⟩
     ·
      clear h34
      subst e
      refine LV.skip rfl rfl rfl ?_
      refine LV.skip rfl rfl rfl ?_
      refine LV.skip rfl rfl rfl ?_
      refine LV.skip rfl rfl rfl ?_
      refine LV.step (VAL.pure rfl) rfl rfl rfl ?_
      exact LV.atSeam (y0, y4, y5, (.lit (.bool false)), x9_10, y10, y11, y12, (.lit (.bool false)), T4, n4) hS h37 ⟨rfl, rfl, rfl, rfl, rfl, rfl, rfl, rfl, rfl, rfl, trivial⟩
    ·
     rintro ⟨y0, y4, y5, y6, y9, y10, y11, y12, y34, T9, n9⟩ ρ its hQ h35
     have hS : EY.ST w0 base envE ρ0 ρ T9 ro n9 its := hQ
     clear hQ
     change LV _ _ _ _ _ _ _ _ _ [(0, y0), (4, y4), (5, y5), (6, y6), (9, y9), (10, y10), (11, y11), (12, y12), (34, y34), (27, (.lit (.bool false)))] _
     have h36 : g68_k4 ro (g68_l1 ro f1) y0 y4 y5 y6 y9 y10 y11 y12 y34 T9 n9 = .ok r T' n' := h35
     unfold g68_k4 at h36
     clear h34 h35
     refine LV.step (VAL.pure rfl) rfl rfl rfl ?_
     exact LV.atSeam (y0, y4, y5, y6, y9, y10, y11, y12, y34, T9, n9) hS h36 ⟨rfl, rfl, rfl, rfl, rfl, rfl, rfl, rfl, rfl, trivial⟩
  ·
   rintro ⟨y0, y4, y5, y6, y9, y10, y11, y12, y35, T5, n5⟩ ρ its hQ h19
   have hS : EY.ST w0 base envE ρ0 ρ T5 ro n5 its := hQ
   clear hQ
   change LV _ _ _ _ _ _ _ _ _ [(0, y0), (4, y4), (5, y5), (6, y6), (9, y9), (10, y10), (11, y11), (12, y12), (35, y35)] _
   have h20 : g68_k2 ro (g68_l1 ro f1) y0 y4 y5 y6 y9 y10 y11 y12 y35 T5 n5 = .ok r T' n' := h19
   unfold g68_k2 at h20
   clear h6 h7 h8 h9 h10 h11 h12 h13 h14 h15 h16 h17 h18 h19
   refine LV.done ?_
   refine PV.sub [(0, y0), (4, y4), (5, y5), (6, y6), (9, y9), (10, y10), (11, y11), (12, y12), (35, y35)] ⟨rfl, rfl, rfl, rfl, rfl, rfl, rfl, rfl, rfl, trivial⟩ ?_
   refine PV.thenN ?_
   refine CV.cond h20 rfl (fun e h21 => ?_) (fun e h21 => ?_)
   ·
    clear h20
    subst e
    refine CV.seq ?_
    refine CV.region ?_
    refine LV.step (VAL.assign rfl) rfl rfl rfl ?_
    refine LV.done ?_
    refine PV.sub [(0, y0), (4, (.lit (.bool false))), (5, y5), (6, y6), (9, y9), (10, y10), (11, y11), (12, y12)] ⟨rfl, rfl, rfl, rfl, rfl, rfl, rfl, rfl, trivial⟩ ?_
    refine PV.thenN ?_
    refine CV.ret ?_
    refine PV.thenR ?_
    refine PV.blockR ?_
    refine PV.thenR ?_
    refine PV.thenR ?_
    refine PV.blockR ?_
    refine PV.thenR ?_
    cases h21
    exact PV.ret (by simp) Tryd.results68 hS (RS.tmp rfl RS.nil) rfl
   ·
    clear h20
    subst e
    refine CV.skip ?_
    refine PV.thenN ?_
    refine CV.seq ?_
    refine CV.region ?_
    refine LV.step (VAL.move rfl) rfl rfl rfl ?_
    refine LV.by (V.fa h21 rfl Trf.fo27_3) rfl rfl rfl fun x37_14 h22 => ?_
    refine LV.by (V.ld hS h22 rfl Trf.one9) rfl rfl rfl fun x38_15 h23 => ?_
    refine LV.bslice hS h23 rfl rfl Trf.el53 rfl rfl rfl rfl fun x39_16 T6 n6 h24 ρ its hS hdr => ?_
    refine LV.app hS h24 rfl rfl rfl rfl Trf.el53 rfl rfl rfl fun x40_17 T7 n7 h25 ρ its hS => ?_
    refine LV.step (VAL.assign rfl) rfl rfl rfl ?_
    refine LV.done ?_
    refine PV.sub [(0, y0), (4, y4), (5, x40_17), (6, y6), (9, y9), (10, y10), (11, y11), (12, y12)] ⟨rfl, rfl, rfl, rfl, rfl, rfl, rfl, rfl, trivial⟩ ?_
    refine PV.thenN ?_
    refine CV.region ?_
    refine LV.step (VAL.move rfl) rfl rfl rfl ?_
    refine LV.step (VAL.move rfl) rfl rfl rfl ?_
    refine LV.seam (E := envE) (ro := ro) (ρ0 := ρ0) (τ := AV × AV × AV × AV × AV × AV × AV × AV × HT × Nat) (fun t => [(0, t.1), (4, t.2.1), (5, t.2.2.1), (6, t.2.2.2.1), (10, t.2.2.2.2.1), (11, t.2.2.2.2.2.1), (12, t.2.2.2.2.2.2.1), (47, t.2.2.2.2.2.2.2.1)]) (fun t => t.2.2.2.2.2.2.2.2.1) (fun t => t.2.2.2.2.2.2.2.2.2) (fun t => g68_k3 ro (g68_l1 ro f1)  t.1 t.2.1 t.2.2.1 t.2.2.2.1 t.2.2.2.2.1 t.2.2.2.2.2.1 t.2.2.2.2.2.2.1 t.2.2.2.2.2.2.2.1 t.2.2.2.2.2.2.2.2.1 t.2.2.2.2.2.2.2.2.2 = .ok r T' n') 5 ?_ ?_
    ·
     rcases condK_inv h25 with ⟨e, h29⟩ | ⟨e, h29⟩
     ·
      clear h21 h22 h23 h24 h25
      subst e
      refine LV.skip rfl rfl rfl ?_
      refine LV.skip rfl rfl rfl ?_
      refine LV.skip rfl rfl rfl ?_
      refine LV.skip rfl rfl rfl ?_
      refine LV.step (VAL.pure rfl) rfl rfl rfl ?_
      exact LV.atSeam (y0, y4, x40_17, (.lit (.bool true)), y10, y11, y12, (.lit (.bool true)), T7, n7) hS h29 ⟨rfl, rfl, rfl, rfl, rfl, rfl, rfl, rfl, trivial⟩
     ·
      clear h21 h22 h23 h24 h25
      subst e
      refine LV.by (V.fa h29 rfl Trf.fo27_4) rfl rfl rfl fun x43_19 h30 => ?_
      refine LV.by (V.ld hS h30 rfl Trf.one25) rfl rfl rfl fun x44_20 h31 => ?_
      refine LV.by (V.lenS h31 rfl Trf.ls25) rfl rfl rfl fun x45_21 h32 => ?_
      refine LV.by (V.gt h32 rfl rfl) rfl rfl rfl fun x46_22 h33 => ?_
      refine LV.step (VAL.pure rfl) rfl rfl rfl ?_
      exact LV.atSeam (y0, y4, x40_17, (.lit (.bool false)), y10, y11, y12, x46_22, T7, n7) hS h33 ⟨rfl, rfl, rfl, rfl, rfl, rfl, rfl, rfl, trivial⟩
    ·
     rintro ⟨y0, y4, y5, y6, y10, y11, y12, y47, T8, n8⟩ ρ its hQ h26
     have hS : EY.ST w0 base envE ρ0 ρ T8 ro n8 its := hQ
     clear hQ
     change LV _ _ _ _ _ _ _ _ _ [(0, y0), (4, y4), (5, y5), (6, y6), (10, y10), (11, y11), (12, y12), (47, y47)] _
     have h27 : g68_k3 ro (g68_l1 ro f1) y0 y4 y5 y6 y10 y11 y12 y47 T8 n8 = .ok r T' n' := h26
     unfold g68_k3 at h27
     clear h21 h22 h23 h24 h25 h26
     refine LV.step (VAL.assign rfl) rfl rfl rfl ?_
     refine LV.done ?_
     refine PV.sub [(0, y0), (4, y4), (5, y5), (6, y47), (10, y10), (11, y11), (12, y12)] ⟨rfl, rfl, rfl, rfl, rfl, rfl, rfl, trivial⟩ ?_
     refine PV.blockN ?_
     refine PV.thenN ?_
     refine CV.region ?_
     refine LV.by (V.add h27 rfl rfl) rfl rfl rfl fun x48_18 h28 => ?_
     refine LV.step (VAL.move rfl) rfl rfl rfl ?_
     refine LV.done ?_
     refine PV.sub [(0, y0), (4, y4), (5, y5), (6, y47), (10, y10), (11, y11), (12, x48_18)] ⟨rfl, rfl, rfl, rfl, rfl, rfl, rfl, trivial⟩ ?_
     exact PV.atSeam (τ := Nat × AV × AV × AV × AV × AV × AV × AV × HT × Nat) (f1, y0, y4, y5, y47, y10, y11, x48_18, T8, n8) hS ⟨Nat.lt_succ_self _, h28⟩ ⟨rfl, rfl, rfl, rfl, rfl, rfl, rfl, trivial⟩
 ·
  clear h4 h5
  subst e
  refine CV.exit ?_
  refine PV.thenE ?_
  refine PV.thenE ?_
  refine PV.blockE ?_
  refine PV.thenN ?_
  refine CV.seq ?_
  refine CV.region ?_
  refine LV.step (VAL.assign rfl) rfl rfl rfl ?_
  refine LV.done ?_
  refine PV.sub [(4, (.lit (.bool true)))] ⟨rfl, trivial⟩ ?_
  refine PV.thenN ?_
  refine CV.ret ?_
  cases h6
  exact PV.ret (by simp) Tryd.results68 hS (RS.tmp rfl RS.nil) rfl
noncomputable def g37_k1 (ih : FuncId → List HT → List AV → HT → Nat → R) (ro : List HT) (y10 : AV) (T3 : HT) (n3 : Nat) : R :=
 .ok (.val (.lit (.bool true))) T3 n3
noncomputable def g37_k6 (ih : FuncId → List HT → List AV → HT → Nat → R) (ro : List HT) (lp4 : AV → AV → AV → AV → AV → AV → AV → AV → AV → AV → HT → Nat → R) (y0 y1 y2 y3 y4 y10 y11 y39 y40 y41 y56 y57 y58 y59 y65 : AV) (T8 : HT) (n8 : Nat) : R :=
 callK (ih 37 ro [y56, y57, y58, y59, y65] T8 n8) fun x66_17 T9 n9 =>
 notK 370047 x66_17 fun x67_18 =>
 condK 370048 x67_18
 (
  .ok (.val (.lit (.bool false))) T9 n9
 )
 (
  addK Tryd.prog 3 (.tmp 41) (.const (.int .i64 (.ofNat 1))) 370050 y41 (.lit (.int .i64 (.ofNat 1))) fun x68_19 =>
  lp4 y0 y1 y2 y3 y4 y10 y11 y39 y40 x68_19 T9 n9
 )
noncomputable def g37_k5 (ih : FuncId → List HT → List AV → HT → Nat → R) (ro : List HT) (lp4 : AV → AV → AV → AV → AV → AV → AV → AV → AV → AV → HT → Nat → R) (y0 y1 y2 y3 y4 y10 y11 y13 y39 y40 y41 y55 : AV) (T7 : HT) (n7 : Nat) : R :=
 condK 370052 y4
 (
  g37_k6 ih ro lp4 y0 y1 y2 y3 (.lit (.bool true)) y10 y11 y39 y40 y41 y0 y13 y55 y3 (.lit (.bool true)) T7 n7
 )
 (
  faK 370054 y11 0 fun x62_20 =>
  ldK 370055 T7 ro x62_20 fun x63_21 =>
  eqK Tryd.prog 3 (.tmp 63) (.const (.int .i64 (.ofNat 44))) 370056 x63_21 (.lit (.int .i64 (.ofNat 44))) fun x64_22 =>
  g37_k6 ih ro lp4 y0 y1 y2 y3 (.lit (.bool false)) y10 y11 y39 y40 y41 y0 y13 y55 y3 x64_22 T7 n7
 )
noncomputable def g37_b4 (ih : FuncId → List HT → List AV → HT → Nat → R) (ro : List HT) (lp4 : AV → AV → AV → AV → AV → AV → AV → AV → AV → AV → HT → Nat → R) (y0 y1 y2 y3 y4 y10 y11 y39 y40 y41 : AV) (T6 : HT) (n6 : Nat) : R :=
 ltK Tryd.prog 3 (.tmp 41) (.tmp 40) 370032 y41 y40 fun x42_14 =>
 condK 370033 x42_14
 (
  iaK 370034 y39 y41 1 fun x43_15 =>
  ldK 370035 T6 ro x43_15 fun x44_16 =>
  condK 370058 y2
  (
   ncK 370061 y0 fun x49_23 =>
   faK 370062 x49_23 0 fun x50_24 =>
   ldK 370063 T6 ro x50_24 fun x51_25 =>
   lenSK 370064 x51_25 fun x52_26 =>
   subK Tryd.prog 3 (.tmp 52) (.const (.int .i64 (.ofNat 1))) 370065 x52_26 (.lit (.int .i64 (.ofNat 1))) fun x53_27 =>
   eqK Tryd.prog 3 (.tmp 47) (.tmp 53) 370066 y1 x53_27 fun x54_28 =>
   g37_k5 ih ro lp4 y0 y1 (.lit (.bool true)) y3 y4 y10 y11 x44_16 y39 y40 y41 x54_28 T6 n6
  )
  (
   g37_k5 ih ro lp4 y0 y1 (.lit (.bool false)) y3 y4 y10 y11 x44_16 y39 y40 y41 (.lit (.bool false)) T6 n6
  )
 )
 (
  g37_k1 ih ro y10 T6 n6
 )
noncomputable def g37_l4 (ih : FuncId → List HT → List AV → HT → Nat → R) (ro : List HT) (fuel : Nat) : AV → AV → AV → AV → AV → AV → AV → AV → AV → AV → HT → Nat → R :=
  Nat.rec (motive := fun _ => AV → AV → AV → AV → AV → AV → AV → AV → AV → AV → HT → Nat → R) (fun _ _ _ _ _ _ _ _ _ _ _ _ => .bad 370069) (fun _ lp => g37_b4 ih ro lp) fuel
noncomputable def g37_k8 (ih : FuncId → List HT → List AV → HT → Nat → R) (ro : List HT) (y10 y94 : AV) (T11 : HT) (n11 : Nat) : R :=
 .ok (.val y94) T11 n11
noncomputable def g37_k7 (ih : FuncId → List HT → List AV → HT → Nat → R) (ro : List HT) (y0 y10 y11 y82 : AV) (T10 : HT) (n10 : Nat) : R :=
 condK 370077 y82
 (
  faK 370079 y11 4 fun x85_30 =>
  ldK 370080 T10 ro x85_30 fun x86_31 =>
  faK 370081 y11 4 fun x87_32 =>
  ldK 370082 T10 ro x87_32 fun x88_33 =>
  lenSK 370083 x88_33 fun x89_34 =>
  subK Tryd.prog 3 (.tmp 89) (.const (.int .i64 (.ofNat 1))) 370084 x89_34 (.lit (.int .i64 (.ofNat 1))) fun x90_35 =>
  iaK 370085 x86_31 x90_35 1 fun x91_36 =>
  ldK 370086 T10 ro x91_36 fun x92_37 =>
  callK (ih 37 ro [y0, x92_37, (.lit (.bool false)), (.lit (.bool true)), (.lit (.bool false))] T10 n10) fun x93_38 T12 n12 =>
  g37_k8 ih ro y10 x93_38 T12 n12
 )
 (
  g37_k8 ih ro y10 (.lit (.bool false)) T10 n10
 )
noncomputable def g37_k3 (ih : FuncId → List HT → List AV → HT → Nat → R) (ro : List HT) (y0 y1 y2 y3 y4 y10 y11 y23 y34 : AV) (T5 : HT) (n5 : Nat) : R :=
 condK 370027 y34
 (
  faK 370028 y11 4 fun x38_11 =>
  ldK 370029 T5 ro x38_11 fun x39_12 =>
  lenSK 370030 x39_12 fun x40_13 =>
  g37_l4 ih ro 100000 y0 y1 y2 y3 y4 y10 y11 x39_12 x40_13 (.lit (.int .i64 (.ofNat 0))) T5 n5
 )
 (
  eqK Tryd.prog 3 (.tmp 23) (.const (.int .i64 (.ofNat 45))) 370070 y23 (.lit (.int .i64 (.ofNat 45))) fun x70_29 =>
  condK 370072 x70_29
  (
   condK 370090 y2
   (
    faK 370092 y11 4 fun x74_39 =>
    ldK 370093 T5 ro x74_39 fun x75_40 =>
    faK 370094 y11 4 fun x76_41 =>
    ldK 370095 T5 ro x76_41 fun x77_42 =>
    lenSK 370096 x77_42 fun x78_43 =>
    subK Tryd.prog 3 (.tmp 78) (.const (.int .i64 (.ofNat 1))) 370097 x78_43 (.lit (.int .i64 (.ofNat 1))) fun x79_44 =>
    cutHiK 370098 T5 ro x75_40 x79_44 fun x80_45 =>
    callK (g68 ro y0 x80_45 T5 n5) fun x81_46 T13 n13 =>
    g37_k7 ih ro y0 y10 y11 x81_46 T13 n13
   )
   (
    g37_k7 ih ro y0 y10 y11 (.lit (.bool false)) T5 n5
   )
  )
  (
   g37_k1 ih ro y10 T5 n5
  )
 )
noncomputable def g37_k2 (ih : FuncId → List HT → List AV → HT → Nat → R) (ro : List HT) (y0 y1 y2 y3 y4 y10 y11 y23 y24 : AV) (T4 : HT) (n4 : Nat) : R :=
 condK 370014 y24
 (
  .ok (.val y4) T4 n4
 )
 (
  eqK Tryd.prog 3 (.tmp 23) (.const (.int .i64 (.ofNat 41))) 370017 y23 (.lit (.int .i64 (.ofNat 41))) fun x29_9 =>
  condK 370019 x29_9
  (
   .ok (.val y3) T4 n4
  )
  (
   eqK Tryd.prog 3 (.tmp 23) (.const (.int .i64 (.ofNat 42))) 370022 y23 (.lit (.int .i64 (.ofNat 42))) fun x32_10 =>
   condK 370024 x32_10
   (
    .ok (.val y2) T4 n4
   )
   (
    eqK Tryd.prog 3 (.tmp 23) (.const (.int .i64 (.ofNat 47))) 370102 y23 (.lit (.int .i64 (.ofNat 47))) fun x35_47 =>
    condK 370104 x35_47
    (
     g37_k3 ih ro y0 y1 y2 y3 y4 y10 y11 y23 (.lit (.bool true)) T4 n4
    )
    (
     eqK Tryd.prog 3 (.tmp 23) (.const (.int .i64 (.ofNat 43))) 370105 y23 (.lit (.int .i64 (.ofNat 43))) fun x36_48 =>
     condK 370107 x36_48
     (
      g37_k3 ih ro y0 y1 y2 y3 y4 y10 y11 y23 (.lit (.bool true)) T4 n4
     )
     (
      eqK Tryd.prog 3 (.tmp 23) (.const (.int .i64 (.ofNat 44))) 370108 y23 (.lit (.int .i64 (.ofNat 44))) fun x37_49 =>
      g37_k3 ih ro y0 y1 y2 y3 y4 y10 y11 y23 x37_49 T4 n4
     )
    )
   )
  )
 )
noncomputable def g37 (ih : FuncId → List HT → List AV → HT → Nat → R) (ro : List HT) (a0 a1 a2 a3 a4 : AV) (T : HT) (nx : Nat) : R :=
 ncK 370003 a0 fun x16_1 =>
 faK 370004 x16_1 0 fun x17_2 =>
 ldK 370005 T ro x17_2 fun x18_3 =>
 iaK 370007 x18_3 a1 5 fun x20_4 =>
 ldAK 370008 T ro x20_4 5 fun x21_5 =>
 newK T nx (.obj [.lit (.int .i64 0), .lit (.int .i64 0), .lit (.int .i64 0), .lit (.string ⟨#[]⟩), .lit (.slice none 0 0)] 27) fun x11_6 T1 n1 =>
 stAK 370010 T1 x11_6 x21_5 5 fun T2 =>
 faK 370012 x11_6 0 fun x22_7 =>
 ldK 370013 T2 ro x22_7 fun x23_8 =>
 eqK Tryd.prog 3 (.tmp 23) (.const (.int .i64 (.ofNat 39))) 370110 x23_8 (.lit (.int .i64 (.ofNat 39))) fun x25_50 =>
 condK 370112 x25_50
 (
  g37_k2 ih ro a0 a1 a2 a3 a4 (.lit (.bool false)) x11_6 x23_8 (.lit (.bool true)) T2 n1
 )
 (
  eqK Tryd.prog 3 (.tmp 23) (.const (.int .i64 (.ofNat 40))) 370113 x23_8 (.lit (.int .i64 (.ofNat 40))) fun x26_51 =>
  g37_k2 ih ro a0 a1 a2 a3 a4 (.lit (.bool false)) x11_6 x23_8 x26_51 T2 n1
 )
theorem g37_ok (ih : FuncId → List HT → List AV → HT → Nat → R) (hI : ∀ f ro args T nx, GOk Tryd.prog envE f args ro T nx (ih f ro args T nx)) (ro : List HT) (a0 a1 a2 a3 a4 : AV) (T : HT) (nx : Nat) : GOk Tryd.prog envE 37 [a0, a1, a2, a3, a4] ro T nx (g37 ih ro a0 a1 a2 a3 a4 T nx) := by
 refine GOk.of_body Tryd.func37 rfl Tryd.ntmps37 (by kernel_rfl) rfl fun r T' n' h1 w0 base ρ0 its hS hP => ?_
 unfold g37 at h1
 refine CV.sub [(0, a0), (1, a1), (2, a2), (3, a3), (4, a4)] ⟨rfl, rfl, rfl, rfl, rfl, trivial⟩ ?_
 refine CV.seq ?_
 refine CV.region ?_
 refine LV.step (VAL.assign rfl) rfl rfl rfl ?_
 refine LV.done ?_
 refine PV.sub [(0, a0), (1, a1), (2, a2), (3, a3), (4, a4), (10, (.lit (.bool false)))] ⟨rfl, rfl, rfl, rfl, rfl, rfl, trivial⟩ ?_
 refine PV.thenN ?_
 refine CV.seq ?_
 refine CV.region ?_
 refine LV.step (VAL.move rfl) rfl rfl rfl ?_
 refine LV.by (V.nc h1 rfl) rfl rfl rfl fun x16_1 h2 => ?_
 refine LV.by (V.fa h2 rfl Trf.fo63_0) rfl rfl rfl fun x17_2 h3 => ?_
 refine LV.by (V.ld hS h3 rfl Trf.one24) rfl rfl rfl fun x18_3 h4 => ?_
 refine LV.step (VAL.move rfl) rfl rfl rfl ?_
 refine LV.by (V.ia h4 rfl rfl Trf.el24) rfl rfl rfl fun x20_4 h5 => ?_
 refine LV.by (V.ldA hS h5 rfl Trf.agg27) rfl rfl rfl fun x21_5 h6 => ?_
 refine LV.alloc hS h6 rfl Trf.zr27 rfl rfl rfl fun x11_6 T1 n1 h7 ρ its hS hdr => ?_
 refine LV.stA hS h7 rfl rfl rfl Trf.agg27 rfl rfl rfl fun T2 its h8 hS => ?_
 refine LV.done ?_
 refine PV.sub [(0, a0), (1, a1), (2, a2), (3, a3), (4, a4), (10, (.lit (.bool false))), (11, x11_6)] ⟨rfl, rfl, rfl, rfl, rfl, rfl, rfl, trivial⟩ ?_
 refine PV.thenN ?_
 refine CV.seam (E := envE) (ro := ro) (ρ0 := ρ0) (τ := AV × HT × Nat) (fun t => [(10, t.1)]) (fun t => t.2.1) (fun t => t.2.2) (fun t => g37_k1 ih ro  t.1 t.2.1 t.2.2 = .ok r T' n') ?_ ?_
 ·
  refine CV.seq ?_
  refine CV.region ?_
  refine LV.by (V.fa h8 rfl Trf.fo27_0) rfl rfl rfl fun x22_7 h11 => ?_
  refine LV.by (V.ld hS h11 rfl Trf.one3) rfl rfl rfl fun x23_8 h12 => ?_
  refine LV.done ?_
  refine PV.sub [(0, a0), (1, a1), (2, a2), (3, a3), (4, a4), (10, (.lit (.bool false))), (11, x11_6), (23, x23_8)] ⟨rfl, rfl, rfl, rfl, rfl, rfl, rfl, rfl, trivial⟩ ?_
  refine PV.thenN ?_
  refine CV.block ?_
  refine CV.seam (E := envE) (ro := ro) (ρ0 := ρ0) (τ := AV × AV × AV × AV × AV × AV × AV × AV × AV × HT × Nat) (fun t => [(0, t.1), (1, t.2.1), (2, t.2.2.1), (3, t.2.2.2.1), (4, t.2.2.2.2.1), (10, t.2.2.2.2.2.1), (11, t.2.2.2.2.2.2.1), (23, t.2.2.2.2.2.2.2.1), (24, t.2.2.2.2.2.2.2.2.1)]) (fun t => t.2.2.2.2.2.2.2.2.2.1) (fun t => t.2.2.2.2.2.2.2.2.2.2) (fun t => g37_k2 ih ro  t.1 t.2.1 t.2.2.1 t.2.2.2.1 t.2.2.2.2.1 t.2.2.2.2.2.1 t.2.2.2.2.2.2.1 t.2.2.2.2.2.2.2.1 t.2.2.2.2.2.2.2.2.1 t.2.2.2.2.2.2.2.2.2.1 t.2.2.2.2.2.2.2.2.2.2 = .ok r T' n') ?_ ?_
  ·
   refine CV.seq ?_
   refine CV.region ?_
   refine LV.by (V.eq h12 rfl rfl) rfl rfl rfl fun x25_50 h81 => ?_
   refine LV.step (VAL.assign rfl) rfl rfl rfl ?_
   refine LV.done ?_
   refine PV.sub [(0, a0), (1, a1), (2, a2), (3, a3), (4, a4), (10, (.lit (.bool false))), (11, x11_6), (23, x23_8), (24, x25_50)] ⟨rfl, rfl, rfl, rfl, rfl, rfl, rfl, rfl, rfl, trivial⟩ ?_
   refine PV.thenN ?_
   refine CV.cond h81 rfl (fun e h82 => ?_) (fun e h82 => ?_)
   ·
    clear h1 h2 h3 h4 h5 h6 h7 h8 h11 h12 h81
    subst e
    refine CV.skip ?_
    exact PV.atSeam (a0, a1, a2, a3, a4, (.lit (.bool false)), x11_6, x23_8, (.lit (.bool true)), T2, n1) hS h82 ⟨rfl, rfl, rfl, rfl, rfl, rfl, rfl, rfl, rfl, trivial⟩
   ·
    clear h1 h2 h3 h4 h5 h6 h7 h8 h11 h12 h81
    subst e
    refine CV.region ?_
    refine LV.by (V.eq h82 rfl rfl) rfl rfl rfl fun x26_51 h83 => ?_
    refine LV.step (VAL.assign rfl) rfl rfl rfl ?_
    refine LV.done ?_
    refine PV.sub [(0, a0), (1, a1), (2, a2), (3, a3), (4, a4), (10, (.lit (.bool false))), (11, x11_6), (23, x23_8), (24, x26_51)] ⟨rfl, rfl, rfl, rfl, rfl, rfl, rfl, rfl, rfl, trivial⟩ ?_
    exact PV.atSeam (a0, a1, a2, a3, a4, (.lit (.bool false)), x11_6, x23_8, x26_51, T2, n1) hS h83 ⟨rfl, rfl, rfl, rfl, rfl, rfl, rfl, rfl, rfl, trivial⟩
  ·
   rintro ⟨y0, y1, y2, y3, y4, y10, y11, y23, y24, T4, n4⟩ ρ its hQ h13
   have hS : EY.ST w0 base envE ρ0 ρ T4 ro n4 its := hQ
   clear hQ
   change CV _ _ _ _ _ _ _ _ [(0, y0), (1, y1), (2, y2), (3, y3), (4, y4), (10, y10), (11, y11), (23, y23), (24, y24)] _
   have h14 : g37_k2 ih ro y0 y1 y2 y3 y4 y10 y11 y23 y24 T4 n4 = .ok r T' n' := h13
   unfold g37_k2 at h14
   clear h1 h2 h3 h4 h5 h6 h7 h8 h11 h12 h13
   refine CV.cond h14 rfl (fun e h15 => ?_) (fun e h15 => ?_)
   ·
    clear h14
    subst e
    refine CV.seq ?_
    refine CV.region ?_
    refine LV.step (VAL.move rfl) rfl rfl rfl ?_
    refine LV.step (VAL.assign rfl) rfl rfl rfl ?_
    refine LV.done ?_
    refine PV.sub [(10, y4)] ⟨rfl, trivial⟩ ?_
    refine PV.thenN ?_
    refine CV.ret ?_
    refine PV.blockR ?_
    refine PV.thenR ?_
    cases h15
    exact PV.ret (by simp) Tryd.results37 hS (RS.tmp rfl RS.nil) rfl
   ·
    clear h14
    subst e
    refine CV.seq ?_
    refine CV.region ?_
    refine LV.by (V.eq h15 rfl rfl) rfl rfl rfl fun x29_9 h16 => ?_
    refine LV.step (VAL.assign rfl) rfl rfl rfl ?_
    refine LV.done ?_
    refine PV.sub [(0, y0), (1, y1), (2, y2), (3, y3), (4, y4), (10, y10), (11, y11), (23, y23), (28, x29_9)] ⟨rfl, rfl, rfl, rfl, rfl, rfl, rfl, rfl, rfl, trivial⟩ ?_
    refine PV.thenN ?_
    refine CV.cond h16 rfl (fun e h17 => ?_) (fun e h17 => ?_)
    ·
     clear h15 h16
     subst e
     refine CV.seq ?_
     refine CV.region ?_
     refine LV.step (VAL.move rfl) rfl rfl rfl ?_
     refine LV.step (VAL.assign rfl) rfl rfl rfl ?_
     refine LV.done ?_
     refine PV.sub [(10, y3)] ⟨rfl, trivial⟩ ?_
     refine PV.thenN ?_
     refine CV.ret ?_
     refine PV.blockR ?_
     refine PV.thenR ?_
     cases h17
     exact PV.ret (by simp) Tryd.results37 hS (RS.tmp rfl RS.nil) rfl
    ·
     clear h15 h16
     subst e
     refine CV.seq ?_
     refine CV.region ?_
     refine LV.by (V.eq h17 rfl rfl) rfl rfl rfl fun x32_10 h18 => ?_
     refine LV.step (VAL.assign rfl) rfl rfl rfl ?_
     refine LV.done ?_
     refine PV.sub [(0, y0), (1, y1), (2, y2), (3, y3), (4, y4), (10, y10), (11, y11), (23, y23), (31, x32_10)] ⟨rfl, rfl, rfl, rfl, rfl, rfl, rfl, rfl, rfl, trivial⟩ ?_
     refine PV.thenN ?_
     refine CV.cond h18 rfl (fun e h19 => ?_) (fun e h19 => ?_)
     ·
      clear h17 h18
      subst e
      refine CV.seq ?_
      refine CV.region ?_
      refine LV.step (VAL.move rfl) rfl rfl rfl ?_
      refine LV.step (VAL.assign rfl) rfl rfl rfl ?_
      refine LV.done ?_
      refine PV.sub [(10, y2)] ⟨rfl, trivial⟩ ?_
      refine PV.thenN ?_
      refine CV.ret ?_
      refine PV.blockR ?_
      refine PV.thenR ?_
      cases h19
      exact PV.ret (by simp) Tryd.results37 hS (RS.tmp rfl RS.nil) rfl
     ·
      clear h17 h18
      subst e
      refine CV.seam (E := envE) (ro := ro) (ρ0 := ρ0) (τ := AV × AV × AV × AV × AV × AV × AV × AV × AV × HT × Nat) (fun t => [(0, t.1), (1, t.2.1), (2, t.2.2.1), (3, t.2.2.2.1), (4, t.2.2.2.2.1), (10, t.2.2.2.2.2.1), (11, t.2.2.2.2.2.2.1), (23, t.2.2.2.2.2.2.2.1), (34, t.2.2.2.2.2.2.2.2.1)]) (fun t => t.2.2.2.2.2.2.2.2.2.1) (fun t => t.2.2.2.2.2.2.2.2.2.2) (fun t => g37_k3 ih ro  t.1 t.2.1 t.2.2.1 t.2.2.2.1 t.2.2.2.2.1 t.2.2.2.2.2.1 t.2.2.2.2.2.2.1 t.2.2.2.2.2.2.2.1 t.2.2.2.2.2.2.2.2.1 t.2.2.2.2.2.2.2.2.2.1 t.2.2.2.2.2.2.2.2.2.2 = .ok r T' n') ?_ ?_
      ·
       refine CV.seq ?_
       refine CV.region ?_
       refine LV.by (V.eq h19 rfl rfl) rfl rfl rfl fun x35_47 h76 => ?_
       refine LV.step (VAL.assign rfl) rfl rfl rfl ?_
       refine LV.done ?_
       refine PV.sub [(0, y0), (1, y1), (2, y2), (3, y3), (4, y4), (10, y10), (11, y11), (23, y23), (34, x35_47)] ⟨rfl, rfl, rfl, rfl, rfl, rfl, rfl, rfl, rfl, trivial⟩ ?_
       refine PV.thenN ?_
       refine CV.cond h76 rfl (fun e h77 => ?_) (fun e h77 => ?_)
       ·
        clear h19 h76
        subst e
        refine CV.skip ?_
        exact PV.atSeam (y0, y1, y2, y3, y4, y10, y11, y23, (.lit (.bool true)), T4, n4) hS h77 ⟨rfl, rfl, rfl, rfl, rfl, rfl, rfl, rfl, rfl, trivial⟩
       ·
        clear h19 h76
        subst e
        refine CV.seq ?_
        refine CV.region ?_
        refine LV.by (V.eq h77 rfl rfl) rfl rfl rfl fun x36_48 h78 => ?_
        refine LV.step (VAL.assign rfl) rfl rfl rfl ?_
        refine LV.done ?_
        refine PV.sub [(0, y0), (1, y1), (2, y2), (3, y3), (4, y4), (10, y10), (11, y11), (23, y23), (34, x36_48)] ⟨rfl, rfl, rfl, rfl, rfl, rfl, rfl, rfl, rfl, trivial⟩ ?_
        refine PV.thenN ?_
        refine CV.cond h78 rfl (fun e h79 => ?_) (fun e h79 => ?_)
        ·
         clear h77 h78
         subst e
         refine CV.skip ?_
         exact PV.atSeam (y0, y1, y2, y3, y4, y10, y11, y23, (.lit (.bool true)), T4, n4) hS h79 ⟨rfl, rfl, rfl, rfl, rfl, rfl, rfl, rfl, rfl, trivial⟩
        ·
         clear h77 h78
         subst e
         refine CV.region ?_
         refine LV.by (V.eq h79 rfl rfl) rfl rfl rfl fun x37_49 h80 => ?_
         refine LV.step (VAL.assign rfl) rfl rfl rfl ?_
         refine LV.done ?_
         refine PV.sub [(0, y0), (1, y1), (2, y2), (3, y3), (4, y4), (10, y10), (11, y11), (23, y23), (34, x37_49)] ⟨rfl, rfl, rfl, rfl, rfl, rfl, rfl, rfl, rfl, trivial⟩ ?_
         exact PV.atSeam (y0, y1, y2, y3, y4, y10, y11, y23, x37_49, T4, n4) hS h80 ⟨rfl, rfl, rfl, rfl, rfl, rfl, rfl, rfl, rfl, trivial⟩
      ·
       rintro ⟨y0, y1, y2, y3, y4, y10, y11, y23, y34, T5, n5⟩ ρ its hQ h20
       have hS : EY.ST w0 base envE ρ0 ρ T5 ro n5 its := hQ
       clear hQ
       change CV _ _ _ _ _ _ _ _ [(0, y0), (1, y1), (2, y2), (3, y3), (4, y4), (10, y10), (11, y11), (23, y23), (34, y34)] _
       have h21 : g37_k3 ih ro y0 y1 y2 y3 y4 y10 y11 y23 y34 T5 n5 = .ok r T' n' := h20
       unfold g37_k3 at h21
       clear h19 h20
       refine CV.cond h21 rfl (fun e h22 => ?_) (fun e h22 => ?_)
       ·
        clear h21
        subst e
        refine CV.seq ?_
        refine CV.region ?_
        refine LV.by (V.fa h22 rfl Trf.fo27_4) rfl rfl rfl fun x38_11 h23 => ?_
        refine LV.by (V.ld hS h23 rfl Trf.one25) rfl rfl rfl fun x39_12 h24 => ?_
        refine LV.by (V.lenS h24 rfl Trf.ls25) rfl rfl rfl fun x40_13 h25 => ?_
        refine LV.step (VAL.move rfl) rfl rfl rfl ?_
        refine LV.done ?_
        refine PV.sub [(0, y0), (1, y1), (2, y2), (3, y3), (4, y4), (10, y10), (11, y11), (39, x39_12), (40, x40_13), (41, (.lit (.int .i64 (.ofNat 0))))] ⟨rfl, rfl, rfl, rfl, rfl, rfl, rfl, rfl, rfl, rfl, trivial⟩ ?_
        refine PV.thenN ?_
        refine CV.block ?_
        refine CV.loop (E := envE) (ro := ro) (ρ0 := ρ0) (τ := AV × AV × AV × AV × AV × AV × AV × AV × AV × AV × HT × Nat) (fun t => [(0, t.1), (1, t.2.1), (2, t.2.2.1), (3, t.2.2.2.1), (4, t.2.2.2.2.1), (10, t.2.2.2.2.2.1), (11, t.2.2.2.2.2.2.1), (39, t.2.2.2.2.2.2.2.1), (40, t.2.2.2.2.2.2.2.2.1), (41, t.2.2.2.2.2.2.2.2.2.1)]) (fun t => t.2.2.2.2.2.2.2.2.2.2.1) (fun t => t.2.2.2.2.2.2.2.2.2.2.2) (fun f t => g37_l4 ih ro f t.1 t.2.1 t.2.2.1 t.2.2.2.1 t.2.2.2.2.1 t.2.2.2.2.2.1 t.2.2.2.2.2.2.1 t.2.2.2.2.2.2.2.1 t.2.2.2.2.2.2.2.2.1 t.2.2.2.2.2.2.2.2.2.1 t.2.2.2.2.2.2.2.2.2.2.1 t.2.2.2.2.2.2.2.2.2.2.2 = .ok r T' n') 100000 (y0, y1, y2, y3, y4, y10, y11, x39_12, x40_13, (.lit (.int .i64 (.ofNat 0))), T5, n5) hS h25 ⟨rfl, rfl, rfl, rfl, rfl, rfl, rfl, rfl, rfl, rfl, trivial⟩ ?_
        rintro (_ | f4) ⟨y0, y1, y2, y3, y4, y10, y11, y39, y40, y41, T6, n6⟩ ρ its hQ h26
        · cases h26
        have hS : EY.ST w0 base envE ρ0 ρ T6 ro n6 its := hQ
        clear hQ
        change CV _ _ _ _ _ _ _ _ [(0, y0), (1, y1), (2, y2), (3, y3), (4, y4), (10, y10), (11, y11), (39, y39), (40, y40), (41, y41)] _
        have h27 : g37_b4 ih ro (g37_l4 ih ro f4) y0 y1 y2 y3 y4 y10 y11 y39 y40 y41 T6 n6 = .ok r T' n' := h26
        unfold g37_b4 at h27
        clear h22 h23 h24 h25 h26
        refine CV.seq ?_
        refine CV.region ?_
        refine LV.by (V.lt h27 rfl rfl) rfl rfl rfl fun x42_14 h28 => ?_
        refine LV.done ?_
        refine PV.sub [(0, y0), (1, y1), (2, y2), (3, y3), (4, y4), (10, y10), (11, y11), (39, y39), (40, y40), (41, y41), (42, x42_14)] ⟨rfl, rfl, rfl, rfl, rfl, rfl, rfl, rfl, rfl, rfl, rfl, trivial⟩ ?_
        refine PV.thenN ?_
        refine CV.seq ?_
        refine CV.cond h28 rfl (fun e h29 => ?_) (fun e h29 => ?_)
        ·
         clear h27 h28
         subst e
         refine CV.skip ?_
         refine PV.thenN ?_
         refine CV.seq ?_
         refine CV.block ?_
         refine CV.seq ?_
         refine CV.region ?_
         refine LV.by (V.ia h29 rfl rfl Trf.el25) rfl rfl rfl fun x43_15 h30 => ?_
         refine LV.by (V.ld hS h30 rfl Trf.one3) rfl rfl rfl fun x44_16 h31 => ?_
         refine LV.step (VAL.assign rfl) rfl rfl rfl ?_
         refine LV.done ?_
         refine PV.sub [(0, y0), (1, y1), (2, y2), (3, y3), (4, y4), (10, y10), (11, y11), (13, x44_16), (39, y39), (40, y40), (41, y41)] ⟨rfl, rfl, rfl, rfl, rfl, rfl, rfl, rfl, rfl, rfl, rfl, trivial⟩ ?_
         refine PV.thenN ?_
         refine CV.seq ?_
         refine CV.region ?_
         refine LV.step (VAL.move rfl) rfl rfl rfl ?_
         refine LV.step (VAL.move rfl) rfl rfl rfl ?_
         refine LV.seam (E := envE) (ro := ro) (ρ0 := ρ0) (τ := AV × AV × AV × AV × AV × AV × AV × AV × AV × AV × AV × AV × HT × Nat) (fun t => [(0, t.1), (1, t.2.1), (2, t.2.2.1), (3, t.2.2.2.1), (4, t.2.2.2.2.1), (10, t.2.2.2.2.2.1), (11, t.2.2.2.2.2.2.1), (13, t.2.2.2.2.2.2.2.1), (39, t.2.2.2.2.2.2.2.2.1), (40, t.2.2.2.2.2.2.2.2.2.1), (41, t.2.2.2.2.2.2.2.2.2.2.1), (55, t.2.2.2.2.2.2.2.2.2.2.2.1)]) (fun t => t.2.2.2.2.2.2.2.2.2.2.2.2.1) (fun t => t.2.2.2.2.2.2.2.2.2.2.2.2.2) (fun t => g37_k5 ih ro (g37_l4 ih ro f4)  t.1 t.2.1 t.2.2.1 t.2.2.2.1 t.2.2.2.2.1 t.2.2.2.2.2.1 t.2.2.2.2.2.2.1 t.2.2.2.2.2.2.2.1 t.2.2.2.2.2.2.2.2.1 t.2.2.2.2.2.2.2.2.2.1 t.2.2.2.2.2.2.2.2.2.2.1 t.2.2.2.2.2.2.2.2.2.2.2.1 t.2.2.2.2.2.2.2.2.2.2.2.2.1 t.2.2.2.2.2.2.2.2.2.2.2.2.2 = .ok r T' n') 9 ?_ ?_
         ·
          rcases condK_inv h31 with ⟨e, h44⟩ | ⟨e, h44⟩
          ·
           clear h29 h30 h31
           subst e
           refine LV.step (VAL.move rfl) rfl rfl rfl ?_
           refine LV.step (VAL.move rfl) rfl rfl rfl ?_
           refine LV.by (V.nc h44 rfl) rfl rfl rfl fun x49_23 h45 => ?_
           refine LV.by (V.fa h45 rfl Trf.fo63_0) rfl rfl rfl fun x50_24 h46 => ?_
           refine LV.by (V.ld hS h46 rfl Trf.one24) rfl rfl rfl fun x51_25 h47 => ?_
           refine LV.by (V.lenS h47 rfl Trf.ls24) rfl rfl rfl fun x52_26 h48 => ?_
           refine LV.by (V.sub h48 rfl rfl) rfl rfl rfl fun x53_27 h49 => ?_
           refine LV.by (V.eq h49 rfl rfl) rfl rfl rfl fun x54_28 h50 => ?_
           refine LV.step (VAL.pure rfl) rfl rfl rfl ?_
           exact LV.atSeam (y0, y1, (.lit (.bool true)), y3, y4, y10, y11, x44_16, y39, y40, y41, x54_28, T6, n6) hS h50 ⟨rfl, rfl, rfl, rfl, rfl, rfl, rfl, rfl, rfl, rfl, rfl, rfl, trivial⟩
          ·
           clear h29 h30 h31
           subst e
           refine LV.skip rfl rfl rfl ?_
           refine LV.skip rfl rfl rfl ?_
           refine LV.skip rfl rfl rfl ?_
           refine LV.skip rfl rfl rfl ?_
           refine LV.skip rfl rfl rfl ?_
           refine LV.skip rfl rfl rfl ?_
           refine LV.skip rfl rfl rfl ?_
           refine LV.skip rfl rfl rfl ?_
           refine LV.step (VAL.pure rfl) rfl rfl rfl ?_
           exact LV.atSeam (y0, y1, (.lit (.bool false)), y3, y4, y10, y11, x44_16, y39, y40, y41, (.lit (.bool false)), T6, n6) hS h44 ⟨rfl, rfl, rfl, rfl, rfl, rfl, rfl, rfl, rfl, rfl, rfl, rfl, trivial⟩
         ·
          rintro ⟨y0, y1, y2, y3, y4, y10, y11, y13, y39, y40, y41, y55, T7, n7⟩ ρ its hQ h32
          have hS : EY.ST w0 base envE ρ0 ρ T7 ro n7 its := hQ
          clear hQ
          change LV _ _ _ _ _ _ _ _ _ [(0, y0), (1, y1), (2, y2), (3, y3), (4, y4), (10, y10), (11, y11), (13, y13), (39, y39), (40, y40), (41, y41), (55, y55)] _
          have h33 : g37_k5 ih ro (g37_l4 ih ro f4) y0 y1 y2 y3 y4 y10 y11 y13 y39 y40 y41 y55 T7 n7 = .ok r T' n' := h32
          unfold g37_k5 at h33
          clear h29 h30 h31 h32
          refine LV.step (VAL.assign rfl) rfl rfl rfl ?_
          refine LV.done ?_
          refine PV.sub [(0, y0), (1, y1), (2, y2), (3, y3), (4, y4), (10, y10), (11, y11), (13, y13), (14, y55), (39, y39), (40, y40), (41, y41)] ⟨rfl, rfl, rfl, rfl, rfl, rfl, rfl, rfl, rfl, rfl, rfl, rfl, trivial⟩ ?_
          refine PV.thenN ?_
          refine CV.seq ?_
          refine CV.region ?_
          refine LV.step (VAL.move rfl) rfl rfl rfl ?_
          refine LV.step (VAL.move rfl) rfl rfl rfl ?_
          refine LV.step (VAL.move rfl) rfl rfl rfl ?_
          refine LV.step (VAL.move rfl) rfl rfl rfl ?_
          refine LV.step (VAL.move rfl) rfl rfl rfl ?_
          refine LV.step (VAL.move rfl) rfl rfl rfl ?_
          refine LV.seam (E := envE) (ro := ro) (ρ0 := ρ0) (τ := AV × AV × AV × AV × AV × AV × AV × AV × AV × AV × AV × AV × AV × AV × AV × HT × Nat) (fun t => [(0, t.1), (1, t.2.1), (2, t.2.2.1), (3, t.2.2.2.1), (4, t.2.2.2.2.1), (10, t.2.2.2.2.2.1), (11, t.2.2.2.2.2.2.1), (39, t.2.2.2.2.2.2.2.1), (40, t.2.2.2.2.2.2.2.2.1), (41, t.2.2.2.2.2.2.2.2.2.1), (56, t.2.2.2.2.2.2.2.2.2.2.1), (57, t.2.2.2.2.2.2.2.2.2.2.2.1), (58, t.2.2.2.2.2.2.2.2.2.2.2.2.1), (59, t.2.2.2.2.2.2.2.2.2.2.2.2.2.1), (65, t.2.2.2.2.2.2.2.2.2.2.2.2.2.2.1)]) (fun t => t.2.2.2.2.2.2.2.2.2.2.2.2.2.2.2.1) (fun t => t.2.2.2.2.2.2.2.2.2.2.2.2.2.2.2.2) (fun t => g37_k6 ih ro (g37_l4 ih ro f4)  t.1 t.2.1 t.2.2.1 t.2.2.2.1 t.2.2.2.2.1 t.2.2.2.2.2.1 t.2.2.2.2.2.2.1 t.2.2.2.2.2.2.2.1 t.2.2.2.2.2.2.2.2.1 t.2.2.2.2.2.2.2.2.2.1 t.2.2.2.2.2.2.2.2.2.2.1 t.2.2.2.2.2.2.2.2.2.2.2.1 t.2.2.2.2.2.2.2.2.2.2.2.2.1 t.2.2.2.2.2.2.2.2.2.2.2.2.2.1 t.2.2.2.2.2.2.2.2.2.2.2.2.2.2.1 t.2.2.2.2.2.2.2.2.2.2.2.2.2.2.2.1 t.2.2.2.2.2.2.2.2.2.2.2.2.2.2.2.2 = .ok r T' n') 4 ?_ ?_
          ·
           rcases condK_inv h33 with ⟨e, h40⟩ | ⟨e, h40⟩
           ·
            clear h33
            subst e
            refine LV.skip rfl rfl rfl ?_
            refine LV.skip rfl rfl rfl ?_
            refine LV.skip rfl rfl rfl ?_
            refine LV.step (VAL.pure rfl) rfl rfl rfl ?_
            exact LV.atSeam (y0, y1, y2, y3, (.lit (.bool true)), y10, y11, y39, y40, y41, y0, y13, y55, y3, (.lit (.bool true)), T7, n7) hS h40 ⟨rfl, rfl, rfl, rfl, rfl, rfl, rfl, rfl, rfl, rfl, rfl, rfl, rfl, rfl, rfl, trivial⟩
           ·
            clear h33
            subst e
            refine LV.by (V.fa h40 rfl Trf.fo27_0) rfl rfl rfl fun x62_20 h41 => ?_
            refine LV.by (V.ld hS h41 rfl Trf.one3) rfl rfl rfl fun x63_21 h42 => ?_
            refine LV.by (V.eq h42 rfl rfl) rfl rfl rfl fun x64_22 h43 => ?_
            refine LV.step (VAL.pure rfl) rfl rfl rfl ?_
            exact LV.atSeam (y0, y1, y2, y3, (.lit (.bool false)), y10, y11, y39, y40, y41, y0, y13, y55, y3, x64_22, T7, n7) hS h43 ⟨rfl, rfl, rfl, rfl, rfl, rfl, rfl, rfl, rfl, rfl, rfl, rfl, rfl, rfl, rfl, trivial⟩
          ·
           rintro ⟨y0, y1, y2, y3, y4, y10, y11, y39, y40, y41, y56, y57, y58, y59, y65, T8, n8⟩ ρ its hQ h34
           have hS : EY.ST w0 base envE ρ0 ρ T8 ro n8 its := hQ
           clear hQ
           change LV _ _ _ _ _ _ _ _ _ [(0, y0), (1, y1), (2, y2), (3, y3), (4, y4), (10, y10), (11, y11), (39, y39), (40, y40), (41, y41), (56, y56), (57, y57), (58, y58), (59, y59), (65, y65)] _
           have h35 : g37_k6 ih ro (g37_l4 ih ro f4) y0 y1 y2 y3 y4 y10 y11 y39 y40 y41 y56 y57 y58 y59 y65 T8 n8 = .ok r T' n' := h34
           unfold g37_k6 at h35
           clear h33 h34
           refine LV.call hS h35 (hI _ _ _ _ _) hP rfl rfl rfl rfl fun x66_17 T9 n9 h36 ρ its hS => ?_
           refine LV.by (V.not h36 rfl) rfl rfl rfl fun x67_18 h37 => ?_
           refine LV.done ?_
           refine PV.sub [(0, y0), (1, y1), (2, y2), (3, y3), (4, y4), (10, y10), (11, y11), (39, y39), (40, y40), (41, y41), (67, x67_18)] ⟨rfl, rfl, rfl, rfl, rfl, rfl, rfl, rfl, rfl, rfl, rfl, trivial⟩ ?_
           refine PV.thenN ?_
           refine CV.cond h37 rfl (fun e h38 => ?_) (fun e h38 => ?_)
           ·
            clear h35 h36 h37
            subst e
            refine CV.seq ?_
            refine CV.region ?_
            refine LV.step (VAL.assign rfl) rfl rfl rfl ?_
            refine LV.done ?_
            refine PV.sub [(0, y0), (1, y1), (2, y2), (3, y3), (4, y4), (10, (.lit (.bool false))), (11, y11), (39, y39), (40, y40), (41, y41)] ⟨rfl, rfl, rfl, rfl, rfl, rfl, rfl, rfl, rfl, rfl, trivial⟩ ?_
            refine PV.thenN ?_
            refine CV.ret ?_
            refine PV.blockR ?_
            refine PV.thenR ?_
            refine PV.thenR ?_
            refine PV.blockR ?_
            refine PV.blockR ?_
            refine PV.thenR ?_
            cases h38
            exact PV.ret (by simp) Tryd.results37 hS (RS.tmp rfl RS.nil) rfl
           ·
            clear h35 h36 h37
            subst e
            refine CV.skip ?_
            refine PV.blockN ?_
            refine PV.thenN ?_
            refine CV.region ?_
            refine LV.by (V.add h38 rfl rfl) rfl rfl rfl fun x68_19 h39 => ?_
            refine LV.step (VAL.move rfl) rfl rfl rfl ?_
            refine LV.done ?_
            refine PV.sub [(0, y0), (1, y1), (2, y2), (3, y3), (4, y4), (10, y10), (11, y11), (39, y39), (40, y40), (41, x68_19)] ⟨rfl, rfl, rfl, rfl, rfl, rfl, rfl, rfl, rfl, rfl, trivial⟩ ?_
            exact PV.atSeam (τ := Nat × AV × AV × AV × AV × AV × AV × AV × AV × AV × AV × HT × Nat) (f4, y0, y1, y2, y3, y4, y10, y11, y39, y40, x68_19, T9, n9) hS ⟨Nat.lt_succ_self _, h39⟩ ⟨rfl, rfl, rfl, rfl, rfl, rfl, rfl, rfl, rfl, rfl, trivial⟩
        ·
         clear h27 h28
         subst e
         refine CV.exit ?_
         refine PV.thenE ?_
         refine PV.thenE ?_
         refine PV.blockE ?_
         refine PV.blockN ?_
         exact PV.atSeam (y10, T6, n6) hS h29 ⟨rfl, trivial⟩
       ·
        clear h21
        subst e
        refine CV.seq ?_
        refine CV.region ?_
        refine LV.by (V.eq h22 rfl rfl) rfl rfl rfl fun x70_29 h51 => ?_
        refine LV.step (VAL.assign rfl) rfl rfl rfl ?_
        refine LV.done ?_
        refine PV.sub [(0, y0), (2, y2), (10, y10), (11, y11), (69, x70_29)] ⟨rfl, rfl, rfl, rfl, rfl, trivial⟩ ?_
        refine PV.thenN ?_
        refine CV.cond h51 rfl (fun e h52 => ?_) (fun e h52 => ?_)
        ·
         clear h22 h51
         subst e
         refine CV.seq ?_
         refine CV.region ?_
         refine LV.step (VAL.move rfl) rfl rfl rfl ?_
         refine LV.step (VAL.move rfl) rfl rfl rfl ?_
         refine LV.seam (E := envE) (ro := ro) (ρ0 := ρ0) (τ := AV × AV × AV × AV × HT × Nat) (fun t => [(0, t.1), (10, t.2.1), (11, t.2.2.1), (82, t.2.2.2.1)]) (fun t => t.2.2.2.2.1) (fun t => t.2.2.2.2.2) (fun t => g37_k7 ih ro  t.1 t.2.1 t.2.2.1 t.2.2.2.1 t.2.2.2.2.1 t.2.2.2.2.2 = .ok r T' n') 10 ?_ ?_
         ·
          rcases condK_inv h52 with ⟨e, h67⟩ | ⟨e, h67⟩
          ·
           clear h52
           subst e
           refine LV.step (VAL.move rfl) rfl rfl rfl ?_
           refine LV.by (V.fa h67 rfl Trf.fo27_4) rfl rfl rfl fun x74_39 h68 => ?_
           refine LV.by (V.ld hS h68 rfl Trf.one25) rfl rfl rfl fun x75_40 h69 => ?_
           refine LV.by (V.fa h69 rfl Trf.fo27_4) rfl rfl rfl fun x76_41 h70 => ?_
           refine LV.by (V.ld hS h70 rfl Trf.one25) rfl rfl rfl fun x77_42 h71 => ?_
           refine LV.by (V.lenS h71 rfl Trf.ls25) rfl rfl rfl fun x78_43 h72 => ?_
           refine LV.by (V.sub h72 rfl rfl) rfl rfl rfl fun x79_44 h73 => ?_
           refine LV.by (V.cutHi hS h73 rfl rfl Trf.el25) rfl rfl rfl fun x80_45 h74 => ?_
           refine LV.call hS h74 (g68_ok _ _ _ _ _ ) hP rfl rfl rfl rfl fun x81_46 T13 n13 h75 ρ its hS => ?_
           refine LV.step (VAL.pure rfl) rfl rfl rfl ?_
           exact LV.atSeam (y0, y10, y11, x81_46, T13, n13) hS h75 ⟨rfl, rfl, rfl, rfl, trivial⟩
          ·
           clear h52
           subst e
           refine LV.skip rfl rfl rfl ?_
           refine LV.skip rfl rfl rfl ?_
           refine LV.skip rfl rfl rfl ?_
           refine LV.skip rfl rfl rfl ?_
           refine LV.skip rfl rfl rfl ?_
           refine LV.skip rfl rfl rfl ?_
           refine LV.skip rfl rfl rfl ?_
           refine LV.skip rfl rfl rfl ?_
           refine LV.skip rfl rfl rfl ?_
           refine LV.step (VAL.pure rfl) rfl rfl rfl ?_
           exact LV.atSeam (y0, y10, y11, (.lit (.bool false)), T5, n5) hS h67 ⟨rfl, rfl, rfl, rfl, trivial⟩
         ·
          rintro ⟨y0, y10, y11, y82, T10, n10⟩ ρ its hQ h53
          have hS : EY.ST w0 base envE ρ0 ρ T10 ro n10 its := hQ
          clear hQ
          change LV _ _ _ _ _ _ _ _ _ [(0, y0), (10, y10), (11, y11), (82, y82)] _
          have h54 : g37_k7 ih ro y0 y10 y11 y82 T10 n10 = .ok r T' n' := h53
          unfold g37_k7 at h54
          clear h52 h53
          refine LV.step (VAL.move rfl) rfl rfl rfl ?_
          refine LV.seam (E := envE) (ro := ro) (ρ0 := ρ0) (τ := AV × AV × HT × Nat) (fun t => [(10, t.1), (94, t.2.1)]) (fun t => t.2.2.1) (fun t => t.2.2.2) (fun t => g37_k8 ih ro  t.1 t.2.1 t.2.2.1 t.2.2.2 = .ok r T' n') 11 ?_ ?_
          ·
           rcases condK_inv h54 with ⟨e, h57⟩ | ⟨e, h57⟩
           ·
            clear h54
            subst e
            refine LV.step (VAL.move rfl) rfl rfl rfl ?_
            refine LV.by (V.fa h57 rfl Trf.fo27_4) rfl rfl rfl fun x85_30 h58 => ?_
            refine LV.by (V.ld hS h58 rfl Trf.one25) rfl rfl rfl fun x86_31 h59 => ?_
            refine LV.by (V.fa h59 rfl Trf.fo27_4) rfl rfl rfl fun x87_32 h60 => ?_
            refine LV.by (V.ld hS h60 rfl Trf.one25) rfl rfl rfl fun x88_33 h61 => ?_
            refine LV.by (V.lenS h61 rfl Trf.ls25) rfl rfl rfl fun x89_34 h62 => ?_
            refine LV.by (V.sub h62 rfl rfl) rfl rfl rfl fun x90_35 h63 => ?_
            refine LV.by (V.ia h63 rfl rfl Trf.el25) rfl rfl rfl fun x91_36 h64 => ?_
            refine LV.by (V.ld hS h64 rfl Trf.one3) rfl rfl rfl fun x92_37 h65 => ?_
            refine LV.call hS h65 (hI _ _ _ _ _) hP rfl rfl rfl rfl fun x93_38 T12 n12 h66 ρ its hS => ?_
            refine LV.step (VAL.pure rfl) rfl rfl rfl ?_
            exact LV.atSeam (y10, x93_38, T12, n12) hS h66 ⟨rfl, rfl, trivial⟩
           ·
            clear h54
            subst e
            refine LV.skip rfl rfl rfl ?_
            refine LV.skip rfl rfl rfl ?_
            refine LV.skip rfl rfl rfl ?_
            refine LV.skip rfl rfl rfl ?_
            refine LV.skip rfl rfl rfl ?_
            refine LV.skip rfl rfl rfl ?_
            refine LV.skip rfl rfl rfl ?_
            refine LV.skip rfl rfl rfl ?_
            refine LV.skip rfl rfl rfl ?_
            refine LV.skip rfl rfl rfl ?_
            refine LV.step (VAL.pure rfl) rfl rfl rfl ?_
            exact LV.atSeam (y10, (.lit (.bool false)), T10, n10) hS h57 ⟨rfl, rfl, trivial⟩
          ·
           rintro ⟨y10, y94, T11, n11⟩ ρ its hQ h55
           have hS : EY.ST w0 base envE ρ0 ρ T11 ro n11 its := hQ
           clear hQ
           change LV _ _ _ _ _ _ _ _ _ [(10, y10), (94, y94)] _
           have h56 : g37_k8 ih ro y10 y94 T11 n11 = .ok r T' n' := h55
           unfold g37_k8 at h56
           clear h54 h55
           refine LV.step (VAL.assign rfl) rfl rfl rfl ?_
           refine LV.done ?_
           refine PV.sub [(10, y94)] ⟨rfl, trivial⟩ ?_
           refine PV.thenN ?_
           refine CV.ret ?_
           refine PV.blockR ?_
           refine PV.thenR ?_
           cases h56
           exact PV.ret (by simp) Tryd.results37 hS (RS.tmp rfl RS.nil) rfl
        ·
         clear h22 h51
         subst e
         refine CV.skip ?_
         refine PV.blockN ?_
         exact PV.atSeam (y10, T5, n5) hS h52 ⟨rfl, trivial⟩
 ·
  rintro ⟨y10, T3, n3⟩ ρ its hQ h9
  have hS : EY.ST w0 base envE ρ0 ρ T3 ro n3 its := hQ
  clear hQ
  change CV _ _ _ _ _ _ _ _ [(10, y10)] _
  have h10 : g37_k1 ih ro y10 T3 n3 = .ok r T' n' := h9
  unfold g37_k1 at h10
  clear h1 h2 h3 h4 h5 h6 h7 h8 h9
  refine CV.seq ?_
  refine CV.region ?_
  refine LV.step (VAL.assign rfl) rfl rfl rfl ?_
  refine LV.done ?_
  refine PV.sub [(10, (.lit (.bool true)))] ⟨rfl, trivial⟩ ?_
  refine PV.thenN ?_
  refine CV.ret ?_
  cases h10
  exact PV.ret (by simp) Tryd.results37 hS (RS.tmp rfl RS.nil) rfl
noncomputable def ap2 (ih : FuncId → List HT → List AV → HT → Nat → R) (f : FuncId) (ro : List HT) (args : List AV) (T : HT) (nx : Nat) : R :=
  bif Nat.beq f 37 then (match args with | [a0, a1, a2, a3, a4] => g37 ih ro a0 a1 a2 a3 a4 T nx | _ => .bad 1) else .bad 2
noncomputable def scc2 (fuel : Nat) : FuncId → List HT → List AV → HT → Nat → R :=
  Nat.rec (motive := fun _ => FuncId → List HT → List AV → HT → Nat → R) (fun _ _ _ _ _ => .bad 3) (fun _ ih => ap2 ih) fuel
theorem ap2_ok (ih : FuncId → List HT → List AV → HT → Nat → R) (hI : ∀ f ro args T nx, GOk Tryd.prog envE f args ro T nx (ih f ro args T nx)) (f : FuncId) (ro : List HT) (args : List AV) (T : HT) (nx : Nat) : GOk Tryd.prog envE f args ro T nx (ap2 ih f ro args T nx) := by
  unfold ap2
  refine bif_go (fun hb => ?_) (fun _ => ?_)
  · obtain rfl := beqT hb
    split
    · exact g37_ok _ hI _ _ _ _ _ _ _ _ 
    · exact GOk.bad
  exact GOk.bad
theorem scc2_ok : ∀ (fuel : Nat) (f : FuncId) (ro : List HT) (args : List AV) (T : HT) (nx : Nat), GOk Tryd.prog envE f args ro T nx (scc2 fuel f ro args T nx)
  | 0, _, _, _, _, _ => GOk.bad
  | fuel + 1, f, ro, args, T, nx => ap2_ok (scc2 fuel) (scc2_ok fuel) f ro args T nx
noncomputable def g14_k4 (ro : List HT) (y2 y6 y77 : AV) (T13 : HT) (n13 : Nat) : R :=
 condK 140085 y77
 (
  optK 140087 (mmV y6 (.lit (.int .i64 (.ofNat 0))) true) fun x79_35 =>
  optK 140089 (bld68 [(0, x79_35), (1, (.iface 143 (.opq 12)))]) fun x81_36 =>
  boxK 140090 T13 n13 x81_36 68 fun x82_37 T14 n14 =>
  .ok (.val (.iface 66 x82_37)) T14 n14
 )
 (
  .ok (.val (.lit (.nilIface))) T13 n13
 )
noncomputable def g14_k3 (ro : List HT) (y2 y3 y6 y71 : AV) (T12 : HT) (n12 : Nat) : R :=
 condK 140094 y71
 (
  g14_k4 ro y2 y6 (.lit (.bool true)) T12 n12
 )
 (
  callK (scc2 4000 37 ro [y3, y6, (.lit (.bool true)), (.lit (.bool false)), (.lit (.bool false))] T12 n12) fun x75_38 T15 n15 =>
  notK 140099 x75_38 fun x76_39 =>
  g14_k4 ro y2 y6 x76_39 T15 n15
 )
noncomputable def g14_k2 (ro : List HT) (y2 y3 y6 y62 : AV) (T11 : HT) (n11 : Nat) : R :=
 condK 140101 y62
 (
  g14_k3 ro y2 y3 y6 (.lit (.bool true)) T11 n11
 )
 (
  ncK 140104 y3 fun x65_40 =>
  faK 140105 x65_40 1 fun x66_41 =>
  ldK 140106 T11 ro x66_41 fun x67_42 =>
  cutHiK 140108 T11 ro x67_42 y6 fun x69_43 =>
  callK (g36 ro x69_43 (.lit (.bool false)) T11 n11) fun x70_44 T16 n16 =>
  g14_k3 ro y2 y3 y6 x70_44 T16 n16
 )
noncomputable def g14_b1 (ro : List HT) (lp1 : AV → AV → AV → AV → AV → AV → HT → Nat → R) (y0 y2 y3 y17 y18 y19 : AV) (T3 : HT) (n3 : Nat) : R :=
 ltK Tryd.prog 3 (.tmp 19) (.tmp 18) 140018 y19 y18 fun x20_8 =>
 condK 140019 x20_8
 (
  iaK 140021 y17 y19 5 fun x22_9 =>
  ldAK 140022 T3 ro x22_9 5 fun x23_10 =>
  newK T3 n3 (.obj [.lit (.int .i64 0), .lit (.int .i64 0), .lit (.int .i64 0), .lit (.string ⟨#[]⟩), .lit (.slice none 0 0)] 27) fun x5_11 T4 n4 =>
  stAK 140025 T4 x5_11 x23_10 5 fun T5 =>
  faK 140026 x5_11 4 fun x24_12 =>
  ldK 140027 T5 ro x24_12 fun x25_13 =>
  ncK 140030 y3 fun x28_14 =>
  faK 140031 x28_14 1 fun x29_15 =>
  ldK 140032 T5 ro x29_15 fun x30_16 =>
  callK (g34 ro x25_13 y19 x30_16 T5 n4) fun x31_17 T6 n6 =>
  notK 140034 x31_17 fun x32_18 =>
  condK 140036 x32_18
  (
   condK 140039 (.lit (.bool true))
   (
    condK 140041 (.lit (.bool true))
    (
     optK 140044 (bld68 [(0, y19), (1, (.iface 143 (.opq 12)))]) fun x46_19 =>
     boxK 140045 T6 n6 x46_19 68 fun x47_20 T7 n7 =>
     .ok (.val (.iface 66 x47_20)) T7 n7
    )
    (
     .bad 0
    )
   )
   (
    .bad 0
   )
  )
  (
   faK 140048 x5_11 1 fun x34_21 =>
   ldK 140049 T6 ro x34_21 fun x35_22 =>
   neK Tryd.prog 3 (.tmp 35) (.const (.int .i64 (.ofNat 0))) 140050 x35_22 (.lit (.int .i64 (.ofNat 0))) fun x36_23 =>
   condK 140053 x36_23
   (
    condK 140055 (.lit (.bool true))
    (
     optK 140058 (bld68 [(0, y19), (1, (.iface 143 (.opq 12)))]) fun x46_24 =>
     boxK 140059 T6 n6 x46_24 68 fun x47_25 T8 n8 =>
     .ok (.val (.iface 66 x47_25)) T8 n8
    )
    (
     .bad 0
    )
   )
   (
    ldAK 140063 T6 ro x5_11 5 fun x40_26 =>
    callK (g35 ro y3 x40_26 T6 n6) fun x41_27 T9 n9 =>
    notK 140065 x41_27 fun x42_28 =>
    condK 140067 x42_28
    (
     optK 140070 (bld68 [(0, y19), (1, (.iface 143 (.opq 12)))]) fun x46_29 =>
     boxK 140071 T9 n9 x46_29 68 fun x47_30 T10 n10 =>
     .ok (.val (.iface 66 x47_30)) T10 n10
    )
    (
     addK Tryd.prog 3 (.tmp 19) (.const (.int .i64 (.ofNat 1))) 140074 y19 (.lit (.int .i64 (.ofNat 1))) fun x49_31 =>
     lp1 y0 y2 y3 y17 y18 x49_31 T9 n9
    )
   )
  )
 )
 (
  lenSK 140077 y0 fun x51_32 =>
  subK Tryd.prog 3 (.tmp 51) (.const (.int .i64 (.ofNat 1))) 140078 x51_32 (.lit (.int .i64 (.ofNat 1))) fun x52_33 =>
  ltK Tryd.prog 3 (.tmp 53) (.const (.int .i64 (.ofNat 0))) 140081 x52_33 (.lit (.int .i64 (.ofNat 0))) fun x54_34 =>
  condK 140111 x54_34
  (
   g14_k2 ro y2 y3 x52_33 (.lit (.bool true)) T3 n3
  )
  (
   iaK 140115 y0 x52_33 5 fun x58_45 =>
   faK 140116 x58_45 0 fun x59_46 =>
   ldK 140117 T3 ro x59_46 fun x60_47 =>
   neK Tryd.prog 3 (.tmp 60) (.const (.int .i64 (.ofNat 47))) 140118 x60_47 (.lit (.int .i64 (.ofNat 47))) fun x61_48 =>
   g14_k2 ro y2 y3 x52_33 x61_48 T3 n3
  )
 )
noncomputable def g14_l1 (ro : List HT) (fuel : Nat) : AV → AV → AV → AV → AV → AV → HT → Nat → R :=
  Nat.rec (motive := fun _ => AV → AV → AV → AV → AV → AV → HT → Nat → R) (fun _ _ _ _ _ _ _ _ => .bad 140120) (fun _ lp => g14_b1 ro lp) fuel
noncomputable def g14 (ro : List HT) (a0 : AV) (T : HT) (nx : Nat) : R :=
 lenSK 140003 a0 fun x8_1 =>
 gtK Tryd.prog 3 (.tmp 8) (.const (.int .i64 (.ofNat 1048576))) 140004 x8_1 (.lit (.int .i64 (.ofNat 1048576))) fun x9_2 =>
 condK 140005 x9_2
 (
  .ok (.val (.iface 143 (.opq 9))) T nx
 )
 (
  lenSK 140010 a0 fun x13_3 =>
  mkK 140011 T nx 4 1 (.lit (.bool false)) x13_3 fun x14_4 T1 n1 =>
  optK 140012 (bld63 [(0, a0), (1, x14_4)]) fun x15_5 =>
  boxK 140013 T1 n1 x15_5 63 fun x16_6 T2 n2 =>
  lenSK 140016 a0 fun x18_7 =>
  g14_l1 ro 100000 a0 (.lit (.nilIface)) x16_6 a0 x18_7 (.lit (.int .i64 (.ofNat 0))) T2 n2
 )
theorem g14_ok (ro : List HT) (a0 : AV) (T : HT) (nx : Nat) : GOk Tryd.prog envE 14 [a0] ro T nx (g14 ro a0 T nx) := by
 refine GOk.of_body Tryd.func14 rfl Tryd.ntmps14 (by kernel_rfl) rfl fun r T' n' h1 w0 base ρ0 its hS hP => ?_
 unfold g14 at h1
 refine CV.sub [(0, a0)] ⟨rfl, trivial⟩ ?_
 refine CV.seq ?_
 refine CV.region ?_
 refine LV.step (VAL.assign rfl) rfl rfl rfl ?_
 refine LV.done ?_
 refine PV.sub [(0, a0), (2, (.lit (.nilIface)))] ⟨rfl, rfl, trivial⟩ ?_
 refine PV.thenN ?_
 refine CV.seq ?_
 refine CV.seq ?_
 refine CV.region ?_
 refine LV.step (VAL.move rfl) rfl rfl rfl ?_
 refine LV.by (V.lenS h1 rfl Trf.ls24) rfl rfl rfl fun x8_1 h2 => ?_
 refine LV.by (V.gt h2 rfl rfl) rfl rfl rfl fun x9_2 h3 => ?_
 refine LV.done ?_
 refine PV.sub [(0, a0), (2, (.lit (.nilIface))), (9, x9_2)] ⟨rfl, rfl, rfl, trivial⟩ ?_
 refine PV.thenN ?_
 refine CV.cond h3 rfl (fun e h4 => ?_) (fun e h4 => ?_)
 ·
  clear h1 h2 h3
  subst e
  refine CV.seq ?_
  refine CV.region ?_
  refine LV.step (VAL.ldG hS (by rfl) Trf.one29) rfl rfl rfl ?_
  refine LV.step (VAL.assign rfl) rfl rfl rfl ?_
  refine LV.done ?_
  refine PV.sub [(0, a0), (2, (.iface 143 (.opq 9)))] ⟨rfl, rfl, trivial⟩ ?_
  refine PV.thenN ?_
  refine CV.ret ?_
  refine PV.thenR ?_
  cases h4
  exact PV.ret (by simp) Tryd.results14 hS (RS.tmp rfl RS.nil) rfl
 ·
  clear h1 h2 h3
  subst e
  refine CV.skip ?_
  refine PV.thenN ?_
  refine CV.seq ?_
  refine CV.region ?_
  refine LV.step (VAL.move rfl) rfl rfl rfl ?_
  refine LV.step (VAL.move rfl) rfl rfl rfl ?_
  refine LV.by (V.lenS h4 rfl Trf.ls24) rfl rfl rfl fun x13_3 h5 => ?_
  refine LV.mk hS h5 rfl rfl rfl Trf.el61 rfl rfl rfl rfl fun x14_4 T1 n1 h6 ρ its hS hdr => ?_
  refine LV.by (V.bld h6 rfl) rfl rfl rfl fun x15_5 h7 => ?_
  refine LV.box hS h7 rfl rfl rfl rfl rfl fun x16_6 T2 n2 h8 ρ its hS hdr => ?_
  refine LV.step (VAL.assign rfl) rfl rfl rfl ?_
  refine LV.done ?_
  refine PV.sub [(0, a0), (2, (.lit (.nilIface))), (3, x16_6)] ⟨rfl, rfl, rfl, trivial⟩ ?_
  refine PV.thenN ?_
  refine CV.seq ?_
  refine CV.seq ?_
  refine CV.region ?_
  refine LV.step (VAL.move rfl) rfl rfl rfl ?_
  refine LV.by (V.lenS h8 rfl Trf.ls24) rfl rfl rfl fun x18_7 h9 => ?_
  refine LV.step (VAL.move rfl) rfl rfl rfl ?_
  refine LV.done ?_
  refine PV.sub [(0, a0), (2, (.lit (.nilIface))), (3, x16_6), (17, a0), (18, x18_7), (19, (.lit (.int .i64 (.ofNat 0))))] ⟨rfl, rfl, rfl, rfl, rfl, rfl, trivial⟩ ?_
  refine PV.thenN ?_
  refine CV.block ?_
  refine CV.loop (E := envE) (ro := ro) (ρ0 := ρ0) (τ := AV × AV × AV × AV × AV × AV × HT × Nat) (fun t => [(0, t.1), (2, t.2.1), (3, t.2.2.1), (17, t.2.2.2.1), (18, t.2.2.2.2.1), (19, t.2.2.2.2.2.1)]) (fun t => t.2.2.2.2.2.2.1) (fun t => t.2.2.2.2.2.2.2) (fun f t => g14_l1 ro f t.1 t.2.1 t.2.2.1 t.2.2.2.1 t.2.2.2.2.1 t.2.2.2.2.2.1 t.2.2.2.2.2.2.1 t.2.2.2.2.2.2.2 = .ok r T' n') 100000 (a0, (.lit (.nilIface)), x16_6, a0, x18_7, (.lit (.int .i64 (.ofNat 0))), T2, n2) hS h9 ⟨rfl, rfl, rfl, rfl, rfl, rfl, trivial⟩ ?_
  rintro (_ | f1) ⟨y0, y2, y3, y17, y18, y19, T3, n3⟩ ρ its hQ h10
  · cases h10
  have hS : EY.ST w0 base envE ρ0 ρ T3 ro n3 its := hQ
  clear hQ
  change CV _ _ _ _ _ _ _ _ [(0, y0), (2, y2), (3, y3), (17, y17), (18, y18), (19, y19)] _
  have h11 : g14_b1 ro (g14_l1 ro f1) y0 y2 y3 y17 y18 y19 T3 n3 = .ok r T' n' := h10
  unfold g14_b1 at h11
  clear h4 h5 h6 h7 h8 h9 h10
  refine CV.seq ?_
  refine CV.region ?_
  refine LV.by (V.lt h11 rfl rfl) rfl rfl rfl fun x20_8 h12 => ?_
  refine LV.done ?_
  refine PV.sub [(0, y0), (2, y2), (3, y3), (17, y17), (18, y18), (19, y19), (20, x20_8)] ⟨rfl, rfl, rfl, rfl, rfl, rfl, rfl, trivial⟩ ?_
  refine PV.thenN ?_
  refine CV.seq ?_
  refine CV.cond h12 rfl (fun e h13 => ?_) (fun e h13 => ?_)
  ·
   clear h11 h12
   subst e
   refine CV.skip ?_
   refine PV.thenN ?_
   refine CV.seq ?_
   refine CV.block ?_
   refine CV.seq ?_
   refine CV.region ?_
   refine LV.step (VAL.move rfl) rfl rfl rfl ?_
   refine LV.by (V.ia h13 rfl rfl Trf.el24) rfl rfl rfl fun x22_9 h14 => ?_
   refine LV.by (V.ldA hS h14 rfl Trf.agg27) rfl rfl rfl fun x23_10 h15 => ?_
   refine LV.alloc hS h15 rfl Trf.zr27 rfl rfl rfl fun x5_11 T4 n4 h16 ρ its hS hdr => ?_
   refine LV.step (VAL.assign rfl) rfl rfl rfl ?_
   refine LV.stA hS h16 rfl rfl rfl Trf.agg27 rfl rfl rfl fun T5 its h17 hS => ?_
   refine LV.done ?_
   refine PV.sub [(0, y0), (2, y2), (3, y3), (4, y19), (5, x5_11), (17, y17), (18, y18), (19, y19)] ⟨rfl, rfl, rfl, rfl, rfl, rfl, rfl, rfl, trivial⟩ ?_
   refine PV.thenN ?_
   refine CV.seq ?_
   refine CV.regionM [(0, .anywhere), (1, .held), (2, .anywhere), (3, .anywhere), (4, .anywhere), (5, .anywhere), (6, .held), (7, .alone), (8, .alone), (9, .alone), (10, .alone), (11, .alone), (12, .alone), (13, .alone), (14, .alone), (15, .anywhere), (16, .alone), (17, .alone), (18, .alone), (19, .alone)] rfl (fun c a a' w hd hq => PanicOk.root (P := Tryd.prog) (fn := Tryd.f14) (w0 := w0) (base := base) (E := envE) (ro := ro) (r := r) (T' := T') (n' := n') (ρ0 := ρ0) c a a' w hd hq) (by kernel_rfl) ?_
   refine MV.lift0 (i := 0) rfl (V.fa h17 rfl Trf.fo27_4) rfl rfl rfl fun x24_12 h18 => ?_
   refine MV.lift1 (i := 1) rfl (fun _ z => z) (V.ld hS h18 rfl Trf.one25) rfl rfl rfl [] (by kernel_rfl) fun x25_13 h19 => ?_
   refine MV.step0 (i := 2) rfl (VAL.move rfl) rfl rfl rfl ?_
   refine MV.step0 (i := 3) rfl (VAL.move rfl) rfl rfl rfl ?_
   refine MV.lift0 (i := 4) rfl (V.nc h19 rfl) rfl rfl rfl fun x28_14 h20 => ?_
   refine MV.lift0 (i := 5) rfl (V.fa h20 rfl Trf.fo63_1) rfl rfl rfl fun x29_15 h21 => ?_
   refine MV.lift1 (i := 6) rfl (fun _ z => z) (V.ld hS h21 rfl Trf.one61) rfl rfl rfl [1] (by kernel_rfl) fun x30_16 h22 => ?_
   refine MV.force (i := 7) rfl ?_
   refine LV.call hS h22 (g34_ok _ _ _ _ _ _ ) hP rfl rfl rfl rfl fun x31_17 T6 n6 h23 ρ its hS => ?_
   refine LV.nextM [] (by kernel_rfl) (fun z => absurd rfl z) ?_
   refine MV.force (i := 8) rfl ?_
   refine LV.by (V.not h23 rfl) rfl rfl rfl fun x32_18 h24 => ?_
   refine LV.nextM [] (by kernel_rfl) (fun z => absurd rfl z) ?_
   refine MV.force (i := 9) rfl ?_
   refine LV.step (VAL.move rfl) rfl rfl rfl ?_
   refine LV.nextM [] (by kernel_rfl) (fun z => absurd rfl z) ?_
   rcases condK_inv h24 with ⟨e, h25⟩ | ⟨e, h25⟩
   ·
    clear h13 h14 h15 h16 h17 h18 h19 h20 h21 h22 h23 h24
    subst e
    refine MV.force (i := 10) rfl ?_
    refine LV.skip rfl rfl rfl ?_
    refine LV.nextM [] (by kernel_rfl) (fun z => absurd rfl z) ?_
    refine MV.force (i := 11) rfl ?_
    refine LV.skip rfl rfl rfl ?_
    refine LV.nextM [] (by kernel_rfl) (fun z => absurd rfl z) ?_
    refine MV.force (i := 12) rfl ?_
    refine LV.skip rfl rfl rfl ?_
    refine LV.nextM [] (by kernel_rfl) (fun z => absurd rfl z) ?_
    refine MV.force (i := 13) rfl ?_
    refine LV.step (VAL.pure rfl) rfl rfl rfl ?_
    refine LV.nextM [] (by kernel_rfl) (fun z => absurd rfl z) ?_
    refine MV.force (i := 14) rfl ?_
    refine LV.step (VAL.move rfl) rfl rfl rfl ?_
    refine LV.nextM [] (by kernel_rfl) (fun z => absurd rfl z) ?_
    rcases condK_inv h25 with ⟨e, h26⟩ | ⟨e, h26⟩
    ·
     clear h25
     refine MV.skip0 (i := 15) rfl rfl rfl rfl ?_
     refine MV.force (i := 16) rfl ?_
     refine LV.skip rfl rfl rfl ?_
     refine LV.nextM [] (by kernel_rfl) (fun z => absurd rfl z) ?_
     refine MV.force (i := 17) rfl ?_
     refine LV.skip rfl rfl rfl ?_
     refine LV.nextM [] (by kernel_rfl) (fun z => absurd rfl z) ?_
     refine MV.force (i := 18) rfl ?_
     refine LV.skip rfl rfl rfl ?_
     refine LV.nextM [] (by kernel_rfl) (fun z => absurd rfl z) ?_
     refine MV.force (i := 19) rfl ?_
     refine LV.step (VAL.pure rfl) rfl rfl rfl ?_
     refine LV.nextM [] (by kernel_rfl) (fun z => absurd rfl z) ?_
     refine MV.sub [(0, y0), (2, y2), (3, y3), (4, y19), (17, y17), (18, y18), (19, y19), (43, (.lit (.bool true)))] ⟨rfl, rfl, rfl, rfl, rfl, rfl, rfl, rfl, trivial⟩ ?_
     refine MV.done ?_
     refine PV.thenN ?_
     refine CV.cond h26 rfl (fun e h27 => ?_) (fun e h27 => ?_)
     ·
      clear h26
      refine CV.seq ?_
      refine CV.region ?_
      refine LV.step (VAL.move rfl) rfl rfl rfl ?_
      refine LV.step (VAL.ldG hS (by rfl) Trf.one29) rfl rfl rfl ?_
      refine LV.by (V.bld h27 rfl) rfl rfl rfl fun x46_19 h28 => ?_
      refine LV.box hS h28 rfl rfl rfl rfl rfl fun x47_20 T7 n7 h29 ρ its hS hdr => ?_
      refine LV.step (VAL.mkI rfl Trf.ni66) rfl rfl rfl ?_
      refine LV.step (VAL.assign rfl) rfl rfl rfl ?_
      refine LV.done ?_
      refine PV.sub [(0, y0), (2, (.iface 66 x47_20)), (3, y3), (17, y17), (18, y18), (19, y19)] ⟨rfl, rfl, rfl, rfl, rfl, rfl, trivial⟩ ?_
      refine PV.thenN ?_
      refine CV.ret ?_
      refine PV.blockR ?_
      refine PV.thenR ?_
      refine PV.thenR ?_
      refine PV.blockR ?_
      refine PV.thenR ?_
      cases h29
      exact PV.ret (by simp) Tryd.results14 hS (RS.tmp rfl RS.nil) rfl
     ·
      clear h26
      cases e
    ·
     clear h25
     cases e
   ·
    clear h13 h14 h15 h16 h17 h18 h19 h20 h21 h22 h23 h24
    subst e
    refine MV.force (i := 10) rfl ?_
    refine LV.by (V.fa h25 rfl Trf.fo27_1) rfl rfl rfl fun x34_21 h30 => ?_
    refine LV.nextM [] (by kernel_rfl) (fun z => absurd rfl z) ?_
    refine MV.force (i := 11) rfl ?_
    refine LV.by (V.ld hS h30 rfl Trf.one3) rfl rfl rfl fun x35_22 h31 => ?_
    refine LV.nextM [] (by kernel_rfl) (fun z => absurd rfl z) ?_
    refine MV.force (i := 12) rfl ?_
    refine LV.by (V.ne h31 rfl rfl) rfl rfl rfl fun x36_23 h32 => ?_
    refine LV.nextM [] (by kernel_rfl) (fun z => absurd rfl z) ?_
    refine MV.force (i := 13) rfl ?_
    refine LV.step (VAL.pure rfl) rfl rfl rfl ?_
    refine LV.nextM [] (by kernel_rfl) (fun z => absurd rfl z) ?_
    refine MV.force (i := 14) rfl ?_
    refine LV.step (VAL.move rfl) rfl rfl rfl ?_
    refine LV.nextM [] (by kernel_rfl) (fun z => absurd rfl z) ?_
    rcases condK_inv h32 with ⟨e, h33⟩ | ⟨e, h33⟩
    ·
     clear h25 h30 h31 h32
     subst e
     refine MV.skip0 (i := 15) rfl rfl rfl rfl ?_
     refine MV.force (i := 16) rfl ?_
     refine LV.skip rfl rfl rfl ?_
     refine LV.nextM [] (by kernel_rfl) (fun z => absurd rfl z) ?_
     refine MV.force (i := 17) rfl ?_
     refine LV.skip rfl rfl rfl ?_
     refine LV.nextM [] (by kernel_rfl) (fun z => absurd rfl z) ?_
     refine MV.force (i := 18) rfl ?_
     refine LV.skip rfl rfl rfl ?_
     refine LV.nextM [] (by kernel_rfl) (fun z => absurd rfl z) ?_
     refine MV.force (i := 19) rfl ?_
     refine LV.step (VAL.pure rfl) rfl rfl rfl ?_
     refine LV.nextM [] (by kernel_rfl) (fun z => absurd rfl z) ?_
     refine MV.sub [(0, y0), (2, y2), (3, y3), (4, y19), (17, y17), (18, y18), (19, y19), (43, (.lit (.bool true)))] ⟨rfl, rfl, rfl, rfl, rfl, rfl, rfl, rfl, trivial⟩ ?_
     refine MV.done ?_
     refine PV.thenN ?_
     refine CV.cond h33 rfl (fun e h34 => ?_) (fun e h34 => ?_)
     ·
      clear h33
      refine CV.seq ?_
      refine CV.region ?_
      refine LV.step (VAL.move rfl) rfl rfl rfl ?_
      refine LV.step (VAL.ldG hS (by rfl) Trf.one29) rfl rfl rfl ?_
      refine LV.by (V.bld h34 rfl) rfl rfl rfl fun x46_24 h35 => ?_
      refine LV.box hS h35 rfl rfl rfl rfl rfl fun x47_25 T8 n8 h36 ρ its hS hdr => ?_
      refine LV.step (VAL.mkI rfl Trf.ni66) rfl rfl rfl ?_
      refine LV.step (VAL.assign rfl) rfl rfl rfl ?_
      refine LV.done ?_
      refine PV.sub [(0, y0), (2, (.iface 66 x47_25)), (3, y3), (17, y17), (18, y18), (19, y19)] ⟨rfl, rfl, rfl, rfl, rfl, rfl, trivial⟩ ?_
      refine PV.thenN ?_
      refine CV.ret ?_
      refine PV.blockR ?_
      refine PV.thenR ?_
      refine PV.thenR ?_
      refine PV.blockR ?_
      refine PV.thenR ?_
      cases h36
      exact PV.ret (by simp) Tryd.results14 hS (RS.tmp rfl RS.nil) rfl
     ·
      clear h33
      cases e
    ·
     clear h25 h30 h31 h32
     subst e
     refine MV.step0 (i := 15) rfl (VAL.move rfl) rfl rfl rfl ?_
     refine MV.force (i := 16) rfl ?_
     refine LV.by (V.ldA hS h33 rfl Trf.agg27) rfl rfl rfl fun x40_26 h37 => ?_
     refine LV.nextM [] (by kernel_rfl) (fun z => absurd rfl z) ?_
     refine MV.force (i := 17) rfl ?_
     refine LV.call hS h37 (g35_ok _ _ _ _ _ ) hP rfl rfl rfl rfl fun x41_27 T9 n9 h38 ρ its hS => ?_
     refine LV.nextM [] (by kernel_rfl) (fun z => absurd rfl z) ?_
     refine MV.force (i := 18) rfl ?_
     refine LV.by (V.not h38 rfl) rfl rfl rfl fun x42_28 h39 => ?_
     refine LV.nextM [] (by kernel_rfl) (fun z => absurd rfl z) ?_
     refine MV.force (i := 19) rfl ?_
     refine LV.step (VAL.pure rfl) rfl rfl rfl ?_
     refine LV.nextM [] (by kernel_rfl) (fun z => absurd rfl z) ?_
     refine MV.sub [(0, y0), (2, y2), (3, y3), (4, y19), (17, y17), (18, y18), (19, y19), (43, x42_28)] ⟨rfl, rfl, rfl, rfl, rfl, rfl, rfl, rfl, trivial⟩ ?_
     refine MV.done ?_
     refine PV.thenN ?_
     refine CV.cond h39 rfl (fun e h40 => ?_) (fun e h40 => ?_)
     ·
      clear h33 h37 h38 h39
      subst e
      refine CV.seq ?_
      refine CV.region ?_
      refine LV.step (VAL.move rfl) rfl rfl rfl ?_
      refine LV.step (VAL.ldG hS (by rfl) Trf.one29) rfl rfl rfl ?_
      refine LV.by (V.bld h40 rfl) rfl rfl rfl fun x46_29 h41 => ?_
      refine LV.box hS h41 rfl rfl rfl rfl rfl fun x47_30 T10 n10 h42 ρ its hS hdr => ?_
      refine LV.step (VAL.mkI rfl Trf.ni66) rfl rfl rfl ?_
      refine LV.step (VAL.assign rfl) rfl rfl rfl ?_
      refine LV.done ?_
      refine PV.sub [(0, y0), (2, (.iface 66 x47_30)), (3, y3), (17, y17), (18, y18), (19, y19)] ⟨rfl, rfl, rfl, rfl, rfl, rfl, trivial⟩ ?_
      refine PV.thenN ?_
      refine CV.ret ?_
      refine PV.blockR ?_
      refine PV.thenR ?_
      refine PV.thenR ?_
      refine PV.blockR ?_
      refine PV.thenR ?_
      cases h42
      exact PV.ret (by simp) Tryd.results14 hS (RS.tmp rfl RS.nil) rfl
     ·
      clear h33 h37 h38 h39
      subst e
      refine CV.skip ?_
      refine PV.blockN ?_
      refine PV.thenN ?_
      refine CV.region ?_
      refine LV.by (V.add h40 rfl rfl) rfl rfl rfl fun x49_31 h43 => ?_
      refine LV.step (VAL.move rfl) rfl rfl rfl ?_
      refine LV.done ?_
      refine PV.sub [(0, y0), (2, y2), (3, y3), (17, y17), (18, y18), (19, x49_31)] ⟨rfl, rfl, rfl, rfl, rfl, rfl, trivial⟩ ?_
      exact PV.atSeam (τ := Nat × AV × AV × AV × AV × AV × AV × HT × Nat) (f1, y0, y2, y3, y17, y18, x49_31, T9, n9) hS ⟨Nat.lt_succ_self _, h43⟩ ⟨rfl, rfl, rfl, rfl, rfl, rfl, trivial⟩
  ·
   clear h11 h12
   subst e
   refine CV.exit ?_
   refine PV.thenE ?_
   refine PV.thenE ?_
   refine PV.blockE ?_
   refine PV.thenN ?_
   refine CV.seq ?_
   refine CV.region ?_
   refine LV.step (VAL.move rfl) rfl rfl rfl ?_
   refine LV.by (V.lenS h13 rfl Trf.ls24) rfl rfl rfl fun x51_32 h44 => ?_
   refine LV.by (V.sub h44 rfl rfl) rfl rfl rfl fun x52_33 h45 => ?_
   refine LV.step (VAL.assign rfl) rfl rfl rfl ?_
   refine LV.done ?_
   refine PV.sub [(0, y0), (2, y2), (3, y3), (6, x52_33)] ⟨rfl, rfl, rfl, rfl, trivial⟩ ?_
   refine PV.thenN ?_
   refine CV.seq ?_
   refine CV.seq ?_
   refine CV.region ?_
   refine LV.step (VAL.move rfl) rfl rfl rfl ?_
   refine LV.by (V.lt h45 rfl rfl) rfl rfl rfl fun x54_34 h46 => ?_
   refine LV.step (VAL.move rfl) rfl rfl rfl ?_
   refine LV.seam (E := envE) (ro := ro) (ρ0 := ρ0) (τ := AV × AV × AV × AV × HT × Nat) (fun t => [(2, t.1), (3, t.2.1), (6, t.2.2.1), (62, t.2.2.2.1)]) (fun t => t.2.2.2.2.1) (fun t => t.2.2.2.2.2) (fun t => g14_k2 ro  t.1 t.2.1 t.2.2.1 t.2.2.2.1 t.2.2.2.2.1 t.2.2.2.2.2 = .ok r T' n') 7 ?_ ?_
   ·
    rcases condK_inv h46 with ⟨e, h66⟩ | ⟨e, h66⟩
    ·
     clear h13 h44 h45 h46
     subst e
     refine LV.skip rfl rfl rfl ?_
     refine LV.skip rfl rfl rfl ?_
     refine LV.skip rfl rfl rfl ?_
     refine LV.skip rfl rfl rfl ?_
     refine LV.skip rfl rfl rfl ?_
     refine LV.skip rfl rfl rfl ?_
     refine LV.step (VAL.pure rfl) rfl rfl rfl ?_
     exact LV.atSeam (y2, y3, x52_33, (.lit (.bool true)), T3, n3) hS h66 ⟨rfl, rfl, rfl, rfl, trivial⟩
    ·
     clear h13 h44 h45 h46
     subst e
     refine LV.step (VAL.move rfl) rfl rfl rfl ?_
     refine LV.step (VAL.move rfl) rfl rfl rfl ?_
     refine LV.by (V.ia h66 rfl rfl Trf.el24) rfl rfl rfl fun x58_45 h67 => ?_
     refine LV.by (V.fa h67 rfl Trf.fo27_0) rfl rfl rfl fun x59_46 h68 => ?_
     refine LV.by (V.ld hS h68 rfl Trf.one3) rfl rfl rfl fun x60_47 h69 => ?_
     refine LV.by (V.ne h69 rfl rfl) rfl rfl rfl fun x61_48 h70 => ?_
     refine LV.step (VAL.pure rfl) rfl rfl rfl ?_
     exact LV.atSeam (y2, y3, x52_33, x61_48, T3, n3) hS h70 ⟨rfl, rfl, rfl, rfl, trivial⟩
   ·
    rintro ⟨y2, y3, y6, y62, T11, n11⟩ ρ its hQ h47
    have hS : EY.ST w0 base envE ρ0 ρ T11 ro n11 its := hQ
    clear hQ
    change LV _ _ _ _ _ _ _ _ _ [(2, y2), (3, y3), (6, y6), (62, y62)] _
    have h48 : g14_k2 ro y2 y3 y6 y62 T11 n11 = .ok r T' n' := h47
    unfold g14_k2 at h48
    clear h13 h44 h45 h46 h47
    refine LV.step (VAL.move rfl) rfl rfl rfl ?_
    refine LV.seam (E := envE) (ro := ro) (ρ0 := ρ0) (τ := AV × AV × AV × AV × HT × Nat) (fun t => [(2, t.1), (3, t.2.1), (6, t.2.2.1), (71, t.2.2.2.1)]) (fun t => t.2.2.2.2.1) (fun t => t.2.2.2.2.2) (fun t => g14_k3 ro  t.1 t.2.1 t.2.2.1 t.2.2.2.1 t.2.2.2.2.1 t.2.2.2.2.2 = .ok r T' n') 8 ?_ ?_
    ·
     rcases condK_inv h48 with ⟨e, h60⟩ | ⟨e, h60⟩
     ·
      clear h48
      subst e
      refine LV.skip rfl rfl rfl ?_
      refine LV.skip rfl rfl rfl ?_
      refine LV.skip rfl rfl rfl ?_
      refine LV.skip rfl rfl rfl ?_
      refine LV.skip rfl rfl rfl ?_
      refine LV.skip rfl rfl rfl ?_
      refine LV.skip rfl rfl rfl ?_
      refine LV.step (VAL.pure rfl) rfl rfl rfl ?_
      exact LV.atSeam (y2, y3, y6, (.lit (.bool true)), T11, n11) hS h60 ⟨rfl, rfl, rfl, rfl, trivial⟩
     ·
      clear h48
      subst e
      refine LV.step (VAL.move rfl) rfl rfl rfl ?_
      refine LV.by (V.nc h60 rfl) rfl rfl rfl fun x65_40 h61 => ?_
      refine LV.by (V.fa h61 rfl Trf.fo63_1) rfl rfl rfl fun x66_41 h62 => ?_
      refine LV.by (V.ld hS h62 rfl Trf.one61) rfl rfl rfl fun x67_42 h63 => ?_
      refine LV.step (VAL.move rfl) rfl rfl rfl ?_
      refine LV.by (V.cutHi hS h63 rfl rfl Trf.el61) rfl rfl rfl fun x69_43 h64 => ?_
      refine LV.call hS h64 (g36_ok _ _ _ _ _ ) hP rfl rfl rfl rfl fun x70_44 T16 n16 h65 ρ its hS => ?_
      refine LV.step (VAL.pure rfl) rfl rfl rfl ?_
      exact LV.atSeam (y2, y3, y6, x70_44, T16, n16) hS h65 ⟨rfl, rfl, rfl, rfl, trivial⟩
    ·
     rintro ⟨y2, y3, y6, y71, T12, n12⟩ ρ its hQ h49
     have hS : EY.ST w0 base envE ρ0 ρ T12 ro n12 its := hQ
     clear hQ
     change LV _ _ _ _ _ _ _ _ _ [(2, y2), (3, y3), (6, y6), (71, y71)] _
     have h50 : g14_k3 ro y2 y3 y6 y71 T12 n12 = .ok r T' n' := h49
     unfold g14_k3 at h50
     clear h48 h49
     refine LV.step (VAL.move rfl) rfl rfl rfl ?_
     refine LV.seam (E := envE) (ro := ro) (ρ0 := ρ0) (τ := AV × AV × AV × HT × Nat) (fun t => [(2, t.1), (6, t.2.1), (77, t.2.2.1)]) (fun t => t.2.2.2.1) (fun t => t.2.2.2.2) (fun t => g14_k4 ro  t.1 t.2.1 t.2.2.1 t.2.2.2.1 t.2.2.2.2 = .ok r T' n') 5 ?_ ?_
     ·
      rcases condK_inv h50 with ⟨e, h57⟩ | ⟨e, h57⟩
      ·
       clear h50
       subst e
       refine LV.skip rfl rfl rfl ?_
       refine LV.skip rfl rfl rfl ?_
       refine LV.skip rfl rfl rfl ?_
       refine LV.skip rfl rfl rfl ?_
       refine LV.step (VAL.pure rfl) rfl rfl rfl ?_
       exact LV.atSeam (y2, y6, (.lit (.bool true)), T12, n12) hS h57 ⟨rfl, rfl, rfl, trivial⟩
      ·
       clear h50
       subst e
       refine LV.step (VAL.move rfl) rfl rfl rfl ?_
       refine LV.step (VAL.move rfl) rfl rfl rfl ?_
       refine LV.call hS h57 (scc2_ok _ _ _ _ _ _) hP rfl rfl rfl rfl fun x75_38 T15 n15 h58 ρ its hS => ?_
       refine LV.by (V.not h58 rfl) rfl rfl rfl fun x76_39 h59 => ?_
       refine LV.step (VAL.pure rfl) rfl rfl rfl ?_
       exact LV.atSeam (y2, y6, x76_39, T15, n15) hS h59 ⟨rfl, rfl, rfl, trivial⟩
     ·
      rintro ⟨y2, y6, y77, T13, n13⟩ ρ its hQ h51
      have hS : EY.ST w0 base envE ρ0 ρ T13 ro n13 its := hQ
      clear hQ
      change LV _ _ _ _ _ _ _ _ _ [(2, y2), (6, y6), (77, y77)] _
      have h52 : g14_k4 ro y2 y6 y77 T13 n13 = .ok r T' n' := h51
      unfold g14_k4 at h52
      clear h50 h51
      refine LV.done ?_
      refine PV.sub [(2, y2), (6, y6), (77, y77)] ⟨rfl, rfl, rfl, trivial⟩ ?_
      refine PV.thenN ?_
      refine CV.cond h52 rfl (fun e h53 => ?_) (fun e h53 => ?_)
      ·
       clear h52
       subst e
       refine CV.seq ?_
       refine CV.region ?_
       refine LV.step (VAL.move rfl) rfl rfl rfl ?_
       refine LV.by (V.max h53 rfl rfl) rfl rfl rfl fun x79_35 h54 => ?_
       refine LV.step (VAL.ldG hS (by rfl) Trf.one29) rfl rfl rfl ?_
       refine LV.by (V.bld h54 rfl) rfl rfl rfl fun x81_36 h55 => ?_
       refine LV.box hS h55 rfl rfl rfl rfl rfl fun x82_37 T14 n14 h56 ρ its hS hdr => ?_
       refine LV.step (VAL.mkI rfl Trf.ni66) rfl rfl rfl ?_
       refine LV.step (VAL.assign rfl) rfl rfl rfl ?_
       refine LV.done ?_
       refine PV.sub [(2, (.iface 66 x82_37))] ⟨rfl, trivial⟩ ?_
       refine PV.thenN ?_
       refine CV.ret ?_
       refine PV.thenR ?_
       cases h56
       exact PV.ret (by simp) Tryd.results14 hS (RS.tmp rfl RS.nil) rfl
      ·
       clear h52
       subst e
       refine CV.skip ?_
       refine PV.thenN ?_
       refine CV.seq ?_
       refine CV.region ?_
       refine LV.step (VAL.assign rfl) rfl rfl rfl ?_
       refine LV.done ?_
       refine PV.sub [(2, (.lit (.nilIface)))] ⟨rfl, trivial⟩ ?_
       refine PV.thenN ?_
       refine CV.ret ?_
       cases h53
       exact PV.ret (by simp) Tryd.results14 hS (RS.tmp rfl RS.nil) rfl
noncomputable def g16_b1 (ro : List HT) (lp1 : AV → AV → AV → AV → HT → Nat → R) (y0 y2 y3 y4 : AV) (T2 : HT) (n2 : Nat) : R :=
 lenSK 160009 y0 fun x10_3 =>
 ltK Tryd.prog 3 (.tmp 8) (.tmp 10) 160010 y4 x10_3 fun x11_4 =>
 condK 160011 x11_4
 (
  iaK 160015 y0 y4 1 fun x17_5 =>
  ldK 160016 T2 ro x17_5 fun x18_6 =>
  bsK 160017 T2 n2 1 3 1 [(0, x18_6)] fun x19_7 T3 n3 =>
  appK 160018 T3 ro n3 3 1 8 y3 x19_7 fun x20_8 T4 n4 =>
  addK Tryd.prog 3 (.tmp 12) (.const (.int .i64 (.ofNat 1))) 160021 y4 (.lit (.int .i64 (.ofNat 1))) fun x13_9 =>
  lp1 y0 y2 x20_8 x13_9 T4 n4
 )
 (
  .ok (.val y3) T2 n2
 )
noncomputable def g16_l1 (ro : List HT) (fuel : Nat) : AV → AV → AV → AV → HT → Nat → R :=
  Nat.rec (motive := fun _ => AV → AV → AV → AV → HT → Nat → R) (fun _ _ _ _ _ _ => .bad 160025) (fun _ lp => g16_b1 ro lp) fuel
noncomputable def g16 (ro : List HT) (a0 : AV) (T : HT) (nx : Nat) : R :=
 lenSK 160003 a0 fun x6_1 =>
 mk0K 160004 T nx 3 1 8 x6_1 fun x7_2 T1 n1 =>
 g16_l1 ro 100000 a0 (.lit (.slice none 0 0)) x7_2 (.lit (.int .i64 (.ofNat 0))) T1 n1
theorem g16_ok (ro : List HT) (a0 : AV) (T : HT) (nx : Nat) : GOk Tryd.prog envE 16 [a0] ro T nx (g16 ro a0 T nx) := by
 refine GOk.of_body Tryd.func16 rfl Tryd.ntmps16 (by kernel_rfl) rfl fun r T' n' h1 w0 base ρ0 its hS hP => ?_
 unfold g16 at h1
 refine CV.sub [(0, a0)] ⟨rfl, trivial⟩ ?_
 refine CV.seq ?_
 refine CV.region ?_
 refine LV.step (VAL.assign rfl) rfl rfl rfl ?_
 refine LV.done ?_
 refine PV.sub [(0, a0), (2, (.lit (.slice none 0 0)))] ⟨rfl, rfl, trivial⟩ ?_
 refine PV.thenN ?_
 refine CV.seq ?_
 refine CV.region ?_
 refine LV.step (VAL.move rfl) rfl rfl rfl ?_
 refine LV.by (V.lenS h1 rfl Trf.ls25) rfl rfl rfl fun x6_1 h2 => ?_
 refine LV.mk0 hS h2 rfl rfl rfl Trf.el25 rfl rfl rfl fun x7_2 T1 n1 h3 ρ its hS hdr => ?_
 refine LV.step (VAL.assign rfl) rfl rfl rfl ?_
 refine LV.done ?_
 refine PV.sub [(0, a0), (2, (.lit (.slice none 0 0))), (3, x7_2)] ⟨rfl, rfl, rfl, trivial⟩ ?_
 refine PV.thenN ?_
 refine CV.seq ?_
 refine CV.seq ?_
 refine CV.region ?_
 refine LV.step (VAL.assign rfl) rfl rfl rfl ?_
 refine LV.done ?_
 refine PV.sub [(0, a0), (2, (.lit (.slice none 0 0))), (3, x7_2), (4, (.lit (.int .i64 (.ofNat 0))))] ⟨rfl, rfl, rfl, rfl, trivial⟩ ?_
 refine PV.thenN ?_
 refine CV.block ?_
 refine CV.loop (E := envE) (ro := ro) (ρ0 := ρ0) (τ := AV × AV × AV × AV × HT × Nat) (fun t => [(0, t.1), (2, t.2.1), (3, t.2.2.1), (4, t.2.2.2.1)]) (fun t => t.2.2.2.2.1) (fun t => t.2.2.2.2.2) (fun f t => g16_l1 ro f t.1 t.2.1 t.2.2.1 t.2.2.2.1 t.2.2.2.2.1 t.2.2.2.2.2 = .ok r T' n') 100000 (a0, (.lit (.slice none 0 0)), x7_2, (.lit (.int .i64 (.ofNat 0))), T1, n1) hS h3 ⟨rfl, rfl, rfl, rfl, trivial⟩ ?_
 rintro (_ | f1) ⟨y0, y2, y3, y4, T2, n2⟩ ρ its hQ h4
 · cases h4
 have hS : EY.ST w0 base envE ρ0 ρ T2 ro n2 its := hQ
 clear hQ
 change CV _ _ _ _ _ _ _ _ [(0, y0), (2, y2), (3, y3), (4, y4)] _
 have h5 : g16_b1 ro (g16_l1 ro f1) y0 y2 y3 y4 T2 n2 = .ok r T' n' := h4
 unfold g16_b1 at h5
 clear h1 h2 h3 h4
 refine CV.seq ?_
 refine CV.seq ?_
 refine CV.region ?_
 refine LV.step (VAL.move rfl) rfl rfl rfl ?_
 refine LV.step (VAL.move rfl) rfl rfl rfl ?_
 refine LV.by (V.lenS h5 rfl Trf.ls25) rfl rfl rfl fun x10_3 h6 => ?_
 refine LV.by (V.lt h6 rfl rfl) rfl rfl rfl fun x11_4 h7 => ?_
 refine LV.done ?_
 refine PV.sub [(0, y0), (2, y2), (3, y3), (4, y4), (11, x11_4)] ⟨rfl, rfl, rfl, rfl, rfl, trivial⟩ ?_
 refine PV.thenN ?_
 refine CV.cond h7 rfl (fun e h8 => ?_) (fun e h8 => ?_)
 ·
  clear h5 h6 h7
  subst e
  refine CV.skip ?_
  refine PV.thenN ?_
  refine CV.seq ?_
  refine CV.block ?_
  refine CV.region ?_
  refine LV.step (VAL.move rfl) rfl rfl rfl ?_
  refine LV.step (VAL.move rfl) rfl rfl rfl ?_
  refine LV.step (VAL.move rfl) rfl rfl rfl ?_
  refine LV.by (V.ia h8 rfl rfl Trf.el25) rfl rfl rfl fun x17_5 h9 => ?_
  refine LV.by (V.ld hS h9 rfl Trf.one3) rfl rfl rfl fun x18_6 h10 => ?_
  refine LV.bslice hS h10 rfl rfl Trf.el25 rfl rfl rfl rfl fun x19_7 T3 n3 h11 ρ its hS hdr => ?_
  refine LV.app hS h11 rfl rfl rfl rfl Trf.el25 rfl rfl rfl fun x20_8 T4 n4 h12 ρ its hS => ?_
  refine LV.step (VAL.assign rfl) rfl rfl rfl ?_
  refine LV.done ?_
  refine PV.sub [(0, y0), (2, y2), (3, x20_8), (4, y4)] ⟨rfl, rfl, rfl, rfl, trivial⟩ ?_
  refine PV.blockN ?_
  refine PV.thenN ?_
  refine CV.region ?_
  refine LV.step (VAL.move rfl) rfl rfl rfl ?_
  refine LV.by (V.add h12 rfl rfl) rfl rfl rfl fun x13_9 h13 => ?_
  refine LV.step (VAL.assign rfl) rfl rfl rfl ?_
  refine LV.done ?_
  refine PV.sub [(0, y0), (2, y2), (3, x20_8), (4, x13_9)] ⟨rfl, rfl, rfl, rfl, trivial⟩ ?_
  exact PV.atSeam (τ := Nat × AV × AV × AV × AV × HT × Nat) (f1, y0, y2, x20_8, x13_9, T4, n4) hS ⟨Nat.lt_succ_self _, h13⟩ ⟨rfl, rfl, rfl, rfl, trivial⟩
 ·
  clear h5 h6 h7
  subst e
  refine CV.exit ?_
  refine PV.thenE ?_
  refine PV.thenE ?_
  refine PV.blockE ?_
  refine PV.thenN ?_
  refine CV.seq ?_
  refine CV.region ?_
  refine LV.step (VAL.move rfl) rfl rfl rfl ?_
  refine LV.step (VAL.assign rfl) rfl rfl rfl ?_
  refine LV.done ?_
  refine PV.sub [(2, y3)] ⟨rfl, trivial⟩ ?_
  refine PV.thenN ?_
  refine CV.ret ?_
  cases h8
  exact PV.ret (by simp) Tryd.results16 hS (RS.tmp rfl RS.nil) rfl
noncomputable def g39_k4 (ro : List HT) (y37 : AV) (T6 : HT) (n6 : Nat) : R :=
 .ok (.val y37) T6 n6
noncomputable def g39_k3 (ro : List HT) (y2 y3 y30 : AV) (T5 : HT) (n5 : Nat) : R :=
 condK 390014 y30
 (
  faK 390015 y2 4 fun x32_8 =>
  ldK 390016 T5 ro x32_8 fun x33_9 =>
  faK 390017 y3 4 fun x34_10 =>
  ldK 390018 T5 ro x34_10 fun x35_11 =>
  eqSK Tryd.prog 9 (.tmp 33) (.tmp 35) 390019 x33_9 x35_11 fun x36_12 =>
  g39_k4 ro x36_12 T5 n5
 )
 (
  g39_k4 ro (.lit (.bool false)) T5 n5
 )
noncomputable def g39_k2 (ro : List HT) (y2 y3 y23 : AV) (T4 : HT) (n4 : Nat) : R :=
 condK 390022 y23
 (
  faK 390023 y2 3 fun x25_13 =>
  ldK 390024 T4 ro x25_13 fun x26_14 =>
  faK 390025 y3 3 fun x27_15 =>
  ldK 390026 T4 ro x27_15 fun x28_16 =>
  bin0 Tryd.prog .eql 4 (.tmp 26) (.tmp 28) 390027 x26_14 x28_16 fun x29_17 =>
  g39_k3 ro y2 y3 x29_17 T4 n4
 )
 (
  g39_k3 ro y2 y3 (.lit (.bool false)) T4 n4
 )
noncomputable def g39_k1 (ro : List HT) (y2 y3 y16 : AV) (T3 : HT) (n3 : Nat) : R :=
 condK 390030 y16
 (
  faK 390031 y2 2 fun x18_18 =>
  ldK 390032 T3 ro x18_18 fun x19_19 =>
  faK 390033 y3 2 fun x20_20 =>
  ldK 390034 T3 ro x20_20 fun x21_21 =>
  eqK Tryd.prog 3 (.tmp 19) (.tmp 21) 390035 x19_19 x21_21 fun x22_22 =>
  g39_k2 ro y2 y3 x22_22 T3 n3
 )
 (
  g39_k2 ro y2 y3 (.lit (.bool false)) T3 n3
 )
noncomputable def g39 (ro : List HT) (a0 a1 : AV) (T : HT) (nx : Nat) : R :=
 boxK 390001 T nx a0 35 fun x2_1 T1 n1 =>
 boxK 390002 T1 n1 a1 35 fun x3_2 T2 n2 =>
 faK 390004 x2_1 0 fun x5_3 =>
 ldK 390005 T2 ro x5_3 fun x6_4 =>
 faK 390006 x3_2 0 fun x7_5 =>
 ldK 390007 T2 ro x7_5 fun x8_6 =>
 eqK Tryd.prog 3 (.tmp 6) (.tmp 8) 390008 x6_4 x8_6 fun x9_7 =>
 condK 390038 x9_7
 (
  faK 390039 x2_1 1 fun x11_23 =>
  ldK 390040 T2 ro x11_23 fun x12_24 =>
  faK 390041 x3_2 1 fun x13_25 =>
  ldK 390042 T2 ro x13_25 fun x14_26 =>
  bin0 Tryd.prog .eql 4 (.tmp 12) (.tmp 14) 390043 x12_24 x14_26 fun x15_27 =>
  g39_k1 ro x2_1 x3_2 x15_27 T2 n2
 )
 (
  g39_k1 ro x2_1 x3_2 (.lit (.bool false)) T2 n2
 )
theorem g39_ok (ro : List HT) (a0 a1 : AV) (T : HT) (nx : Nat) : GOk Tryd.prog envE 39 [a0, a1] ro T nx (g39 ro a0 a1 T nx) := by
 refine GOk.of_body Tryd.func39 rfl Tryd.ntmps39 (by kernel_rfl) rfl fun r T' n' h1 w0 base ρ0 its hS hP => ?_
 unfold g39 at h1
 refine CV.sub [(0, a0), (1, a1)] ⟨rfl, rfl, trivial⟩ ?_
 refine CV.seq ?_
 refine CV.region ?_
 refine LV.box hS h1 rfl rfl rfl rfl rfl fun x2_1 T1 n1 h2 ρ its hS hdr => ?_
 refine LV.box hS h2 rfl rfl rfl rfl rfl fun x3_2 T2 n2 h3 ρ its hS hdr => ?_
 refine LV.step (VAL.assign rfl) rfl rfl rfl ?_
 refine LV.done ?_
 refine PV.sub [(2, x2_1), (3, x3_2), (4, (.lit (.bool false)))] ⟨rfl, rfl, rfl, trivial⟩ ?_
 refine PV.thenN ?_
 refine CV.seq ?_
 refine CV.region ?_
 refine LV.by (V.fa h3 rfl Trf.fo35_0) rfl rfl rfl fun x5_3 h4 => ?_
 refine LV.by (V.ld hS h4 rfl Trf.one3) rfl rfl rfl fun x6_4 h5 => ?_
 refine LV.by (V.fa h5 rfl Trf.fo35_0) rfl rfl rfl fun x7_5 h6 => ?_
 refine LV.by (V.ld hS h6 rfl Trf.one3) rfl rfl rfl fun x8_6 h7 => ?_
 refine LV.by (V.eq h7 rfl rfl) rfl rfl rfl fun x9_7 h8 => ?_
 refine LV.step (VAL.move rfl) rfl rfl rfl ?_
 refine LV.seam (E := envE) (ro := ro) (ρ0 := ρ0) (τ := AV × AV × AV × HT × Nat) (fun t => [(2, t.1), (3, t.2.1), (16, t.2.2.1), (4, (.lit (.bool false)))]) (fun t => t.2.2.2.1) (fun t => t.2.2.2.2) (fun t => g39_k1 ro  t.1 t.2.1 t.2.2.1 t.2.2.2.1 t.2.2.2.2 = .ok r T' n') 6 ?_ ?_
 ·
  rcases condK_inv h8 with ⟨e, h35⟩ | ⟨e, h35⟩
  ·
   clear h1 h2 h3 h4 h5 h6 h7 h8
   subst e
   refine LV.by (V.fa h35 rfl Trf.fo35_1) rfl rfl rfl fun x11_23 h36 => ?_
   refine LV.by (V.ld hS h36 rfl Trf.one4) rfl rfl rfl fun x12_24 h37 => ?_
   refine LV.by (V.fa h37 rfl Trf.fo35_1) rfl rfl rfl fun x13_25 h38 => ?_
   refine LV.by (V.ld hS h38 rfl Trf.one4) rfl rfl rfl fun x14_26 h39 => ?_
   refine LV.by (V.bin0 h39 rfl rfl) rfl rfl rfl fun x15_27 h40 => ?_
   refine LV.step (VAL.pure rfl) rfl rfl rfl ?_
   exact LV.atSeam (x2_1, x3_2, x15_27, T2, n2) hS h40 ⟨rfl, rfl, rfl, rfl, trivial⟩
  ·
   clear h1 h2 h3 h4 h5 h6 h7 h8
   subst e
   refine LV.skip rfl rfl rfl ?_
   refine LV.skip rfl rfl rfl ?_
   refine LV.skip rfl rfl rfl ?_
   refine LV.skip rfl rfl rfl ?_
   refine LV.skip rfl rfl rfl ?_
   refine LV.step (VAL.pure rfl) rfl rfl rfl ?_
   exact LV.atSeam (x2_1, x3_2, (.lit (.bool false)), T2, n2) hS h35 ⟨rfl, rfl, rfl, rfl, trivial⟩
 ·
  rintro ⟨y2, y3, y16, T3, n3⟩ ρ its hQ h9
  have hS : EY.ST w0 base envE ρ0 ρ T3 ro n3 its := hQ
  clear hQ
  change LV _ _ _ _ _ _ _ _ _ [(2, y2), (3, y3), (16, y16), (4, (.lit (.bool false)))] _
  have h10 : g39_k1 ro y2 y3 y16 T3 n3 = .ok r T' n' := h9
  unfold g39_k1 at h10
  clear h1 h2 h3 h4 h5 h6 h7 h8 h9
  refine LV.step (VAL.move rfl) rfl rfl rfl ?_
  refine LV.seam (E := envE) (ro := ro) (ρ0 := ρ0) (τ := AV × AV × AV × HT × Nat) (fun t => [(2, t.1), (3, t.2.1), (23, t.2.2.1), (4, (.lit (.bool false)))]) (fun t => t.2.2.2.1) (fun t => t.2.2.2.2) (fun t => g39_k2 ro  t.1 t.2.1 t.2.2.1 t.2.2.2.1 t.2.2.2.2 = .ok r T' n') 6 ?_ ?_
  ·
   rcases condK_inv h10 with ⟨e, h29⟩ | ⟨e, h29⟩
   ·
    clear h10
    subst e
    refine LV.by (V.fa h29 rfl Trf.fo35_2) rfl rfl rfl fun x18_18 h30 => ?_
    refine LV.by (V.ld hS h30 rfl Trf.one3) rfl rfl rfl fun x19_19 h31 => ?_
    refine LV.by (V.fa h31 rfl Trf.fo35_2) rfl rfl rfl fun x20_20 h32 => ?_
    refine LV.by (V.ld hS h32 rfl Trf.one3) rfl rfl rfl fun x21_21 h33 => ?_
    refine LV.by (V.eq h33 rfl rfl) rfl rfl rfl fun x22_22 h34 => ?_
    refine LV.step (VAL.pure rfl) rfl rfl rfl ?_
    exact LV.atSeam (y2, y3, x22_22, T3, n3) hS h34 ⟨rfl, rfl, rfl, rfl, trivial⟩
   ·
    clear h10
    subst e
    refine LV.skip rfl rfl rfl ?_
    refine LV.skip rfl rfl rfl ?_
    refine LV.skip rfl rfl rfl ?_
    refine LV.skip rfl rfl rfl ?_
    refine LV.skip rfl rfl rfl ?_
    refine LV.step (VAL.pure rfl) rfl rfl rfl ?_
    exact LV.atSeam (y2, y3, (.lit (.bool false)), T3, n3) hS h29 ⟨rfl, rfl, rfl, rfl, trivial⟩
  ·
   rintro ⟨y2, y3, y23, T4, n4⟩ ρ its hQ h11
   have hS : EY.ST w0 base envE ρ0 ρ T4 ro n4 its := hQ
   clear hQ
   change LV _ _ _ _ _ _ _ _ _ [(2, y2), (3, y3), (23, y23), (4, (.lit (.bool false)))] _
   have h12 : g39_k2 ro y2 y3 y23 T4 n4 = .ok r T' n' := h11
   unfold g39_k2 at h12
   clear h10 h11
   refine LV.step (VAL.move rfl) rfl rfl rfl ?_
   refine LV.seam (E := envE) (ro := ro) (ρ0 := ρ0) (τ := AV × AV × AV × HT × Nat) (fun t => [(2, t.1), (3, t.2.1), (30, t.2.2.1), (4, (.lit (.bool false)))]) (fun t => t.2.2.2.1) (fun t => t.2.2.2.2) (fun t => g39_k3 ro  t.1 t.2.1 t.2.2.1 t.2.2.2.1 t.2.2.2.2 = .ok r T' n') 6 ?_ ?_
   ·
    rcases condK_inv h12 with ⟨e, h23⟩ | ⟨e, h23⟩
    ·
     clear h12
     subst e
     refine LV.by (V.fa h23 rfl Trf.fo35_3) rfl rfl rfl fun x25_13 h24 => ?_
     refine LV.by (V.ld hS h24 rfl Trf.one4) rfl rfl rfl fun x26_14 h25 => ?_
     refine LV.by (V.fa h25 rfl Trf.fo35_3) rfl rfl rfl fun x27_15 h26 => ?_
     refine LV.by (V.ld hS h26 rfl Trf.one4) rfl rfl rfl fun x28_16 h27 => ?_
     refine LV.by (V.bin0 h27 rfl rfl) rfl rfl rfl fun x29_17 h28 => ?_
     refine LV.step (VAL.pure rfl) rfl rfl rfl ?_
     exact LV.atSeam (y2, y3, x29_17, T4, n4) hS h28 ⟨rfl, rfl, rfl, rfl, trivial⟩
    ·
     clear h12
     subst e
     refine LV.skip rfl rfl rfl ?_
     refine LV.skip rfl rfl rfl ?_
     refine LV.skip rfl rfl rfl ?_
     refine LV.skip rfl rfl rfl ?_
     refine LV.skip rfl rfl rfl ?_
     refine LV.step (VAL.pure rfl) rfl rfl rfl ?_
     exact LV.atSeam (y2, y3, (.lit (.bool false)), T4, n4) hS h23 ⟨rfl, rfl, rfl, rfl, trivial⟩
   ·
    rintro ⟨y2, y3, y30, T5, n5⟩ ρ its hQ h13
    have hS : EY.ST w0 base envE ρ0 ρ T5 ro n5 its := hQ
    clear hQ
    change LV _ _ _ _ _ _ _ _ _ [(2, y2), (3, y3), (30, y30), (4, (.lit (.bool false)))] _
    have h14 : g39_k3 ro y2 y3 y30 T5 n5 = .ok r T' n' := h13
    unfold g39_k3 at h14
    clear h12 h13
    refine LV.step (VAL.move rfl) rfl rfl rfl ?_
    refine LV.seam (E := envE) (ro := ro) (ρ0 := ρ0) (τ := AV × HT × Nat) (fun t => [(37, t.1), (4, (.lit (.bool false)))]) (fun t => t.2.1) (fun t => t.2.2) (fun t => g39_k4 ro  t.1 t.2.1 t.2.2 = .ok r T' n') 6 ?_ ?_
    ·
     rcases condK_inv h14 with ⟨e, h17⟩ | ⟨e, h17⟩
     ·
      clear h14
      subst e
      refine LV.by (V.fa h17 rfl Trf.fo35_4) rfl rfl rfl fun x32_8 h18 => ?_
      refine LV.by (V.ld hS h18 rfl Trf.one9) rfl rfl rfl fun x33_9 h19 => ?_
      refine LV.by (V.fa h19 rfl Trf.fo35_4) rfl rfl rfl fun x34_10 h20 => ?_
      refine LV.by (V.ld hS h20 rfl Trf.one9) rfl rfl rfl fun x35_11 h21 => ?_
      refine LV.by (V.eqS h21 rfl rfl) rfl rfl rfl fun x36_12 h22 => ?_
      refine LV.step (VAL.pure rfl) rfl rfl rfl ?_
      exact LV.atSeam (x36_12, T5, n5) hS h22 ⟨rfl, rfl, trivial⟩
     ·
      clear h14
      subst e
      refine LV.skip rfl rfl rfl ?_
      refine LV.skip rfl rfl rfl ?_
      refine LV.skip rfl rfl rfl ?_
      refine LV.skip rfl rfl rfl ?_
      refine LV.skip rfl rfl rfl ?_
      refine LV.step (VAL.pure rfl) rfl rfl rfl ?_
      exact LV.atSeam ((.lit (.bool false)), T5, n5) hS h17 ⟨rfl, rfl, trivial⟩
    ·
     rintro ⟨y37, T6, n6⟩ ρ its hQ h15
     have hS : EY.ST w0 base envE ρ0 ρ T6 ro n6 its := hQ
     clear hQ
     change LV _ _ _ _ _ _ _ _ _ [(37, y37), (4, (.lit (.bool false)))] _
     have h16 : g39_k4 ro y37 T6 n6 = .ok r T' n' := h15
     unfold g39_k4 at h16
     clear h14 h15
     refine LV.step (VAL.assign rfl) rfl rfl rfl ?_
     refine LV.done ?_
     refine PV.sub [(4, y37)] ⟨rfl, trivial⟩ ?_
     refine PV.thenN ?_
     refine CV.ret ?_
     cases h16
     exact PV.ret (by simp) Tryd.results39 hS (RS.tmp rfl RS.nil) rfl
noncomputable def g41 (ro : List HT) (T : HT) (nx : Nat) : R :=
 newK T nx (.obj [.lit (.int .i64 0), .lit (.bool false), .lit (.int .i64 0), .lit (.bool false), .lit (.string ⟨#[]⟩)] 35) fun x0_1 T1 n1 =>
 optK 410002 (bld35 []) fun x1_2 =>
 stAK 410003 T1 x0_1 x1_2 5 fun T2 =>
 ldAK 410004 T2 ro x0_1 5 fun x0_3 =>
 .ok (.val x0_3) T2 n1
theorem g41_ok (ro : List HT) (T : HT) (nx : Nat) : GOk Tryd.prog envE 41 [] ro T nx (g41 ro T nx) := by
 refine GOk.of_body Tryd.func41 rfl Tryd.ntmps41 (by kernel_rfl) rfl fun r T' n' h1 w0 base ρ0 its hS hP => ?_
 unfold g41 at h1
 refine CV.sub [] trivial ?_
 refine CV.seq ?_
 refine CV.region ?_
 refine LV.alloc hS h1 rfl Trf.zr35 rfl rfl rfl fun x0_1 T1 n1 h2 ρ its hS hdr => ?_
 refine LV.done ?_
 refine PV.sub [(0, x0_1)] ⟨rfl, trivial⟩ ?_
 refine PV.thenN ?_
 refine CV.seq ?_
 refine CV.region ?_
 refine LV.by (V.bld h2 rfl) rfl rfl rfl fun x1_2 h3 => ?_
 refine LV.stA hS h3 rfl rfl rfl Trf.agg35 rfl rfl rfl fun T2 its h4 hS => ?_
 refine LV.done ?_
 refine PV.sub [(0, x0_1)] ⟨rfl, trivial⟩ ?_
 refine PV.thenN ?_
 refine CV.ret ?_
 refine PV.ldA (x := .tmp 0) (t := 35) hS h4 rfl Trf.agg35 fun x0_3 h5 hVx0_3 => ?_
 cases h5
 exact PV.ret (by simp) Tryd.results41 hS (RS.cell hVx0_3 RS.nil) rfl
noncomputable def g46 (ro : List HT) (a0 : AV) (T : HT) (nx : Nat) : R :=
 newK T nx (.obj [.lit (.int .i64 0), .lit (.bool false), .lit (.int .i64 0), .lit (.bool false), .lit (.string ⟨#[]⟩)] 35) fun x2_1 T1 n1 =>
 optK 460003 (bld35 [(0, a0)]) fun x4_2 =>
 stAK 460004 T1 x2_1 x4_2 5 fun T2 =>
 ldAK 460005 T2 ro x2_1 5 fun x2_3 =>
 .ok (.val x2_3) T2 n1
theorem g46_ok (ro : List HT) (a0 : AV) (T : HT) (nx : Nat) : GOk Tryd.prog envE 46 [a0] ro T nx (g46 ro a0 T nx) := by
 refine GOk.of_body Tryd.func46 rfl Tryd.ntmps46 (by kernel_rfl) rfl fun r T' n' h1 w0 base ρ0 its hS hP => ?_
 unfold g46 at h1
 refine CV.sub [(0, a0)] ⟨rfl, trivial⟩ ?_
 refine CV.seq ?_
 refine CV.region ?_
 refine LV.alloc hS h1 rfl Trf.zr35 rfl rfl rfl fun x2_1 T1 n1 h2 ρ its hS hdr => ?_
 refine LV.done ?_
 refine PV.sub [(0, a0), (2, x2_1)] ⟨rfl, rfl, trivial⟩ ?_
 refine PV.thenN ?_
 refine CV.seq ?_
 refine CV.region ?_
 refine LV.step (VAL.move rfl) rfl rfl rfl ?_
 refine LV.by (V.bld h2 rfl) rfl rfl rfl fun x4_2 h3 => ?_
 refine LV.stA hS h3 rfl rfl rfl Trf.agg35 rfl rfl rfl fun T2 its h4 hS => ?_
 refine LV.done ?_
 refine PV.sub [(2, x2_1)] ⟨rfl, trivial⟩ ?_
 refine PV.thenN ?_
 refine CV.ret ?_
 refine PV.ldA (x := .tmp 2) (t := 35) hS h4 rfl Trf.agg35 fun x2_3 h5 hVx2_3 => ?_
 cases h5
 exact PV.ret (by simp) Tryd.results46 hS (RS.cell hVx2_3 RS.nil) rfl
noncomputable def g18 (ro : List HT) (a0 a1 : AV) (T : HT) (nx : Nat) : R :=
 newK T nx (.obj [.lit (.int .i64 0), .lit (.bool false), .lit (.int .i64 0), .lit (.bool false), .lit (.string ⟨#[]⟩)] 35) fun x4_1 T1 n1 =>
 eqK Tryd.prog 3 (.tmp 5) (.const (.int .i64 (.ofNat 0))) 180003 a0 (.lit (.int .i64 (.ofNat 0))) fun x6_2 =>
 condK 180004 x6_2
 (
  callK (g41 ro T1 n1) fun x7_3 T2 n2 =>
  stAK 180006 T2 x4_1 x7_3 5 fun T3 =>
  ldAK 180007 T3 ro x4_1 5 fun x4_4 =>
  .ok (.val x4_4) T3 n2
 )
 (
  optK 180010 (bld35 [(0, a0), (1, (.lit (.bool true))), (2, a1)]) fun x10_5 =>
  stAK 180011 T1 x4_1 x10_5 5 fun T4 =>
  ldAK 180012 T4 ro x4_1 5 fun x4_6 =>
  .ok (.val x4_6) T4 n1
 )
theorem g18_ok (ro : List HT) (a0 a1 : AV) (T : HT) (nx : Nat) : GOk Tryd.prog envE 18 [a0, a1] ro T nx (g18 ro a0 a1 T nx) := by
 refine GOk.of_body Tryd.func18 rfl Tryd.ntmps18 (by kernel_rfl) rfl fun r T' n' h1 w0 base ρ0 its hS hP => ?_
 unfold g18 at h1
 refine CV.sub [(0, a0), (1, a1)] ⟨rfl, rfl, trivial⟩ ?_
 refine CV.seq ?_
 refine CV.region ?_
 refine LV.alloc hS h1 rfl Trf.zr35 rfl rfl rfl fun x4_1 T1 n1 h2 ρ its hS hdr => ?_
 refine LV.done ?_
 refine PV.sub [(0, a0), (1, a1), (4, x4_1)] ⟨rfl, rfl, rfl, trivial⟩ ?_
 refine PV.thenN ?_
 refine CV.seq ?_
 refine CV.seq ?_
 refine CV.region ?_
 refine LV.step (VAL.move rfl) rfl rfl rfl ?_
 refine LV.by (V.eq h2 rfl rfl) rfl rfl rfl fun x6_2 h3 => ?_
 refine LV.done ?_
 refine PV.sub [(0, a0), (1, a1), (4, x4_1), (6, x6_2)] ⟨rfl, rfl, rfl, rfl, trivial⟩ ?_
 refine PV.thenN ?_
 refine CV.cond h3 rfl (fun e h4 => ?_) (fun e h4 => ?_)
 ·
  clear h1 h2 h3
  subst e
  refine CV.seq ?_
  refine CV.region ?_
  refine LV.call hS h4 (g41_ok _ _ _ ) hP rfl rfl rfl rfl fun x7_3 T2 n2 h5 ρ its hS => ?_
  refine LV.stA hS h5 rfl rfl rfl Trf.agg35 rfl rfl rfl fun T3 its h6 hS => ?_
  refine LV.done ?_
  refine PV.sub [(0, a0), (1, a1), (4, x4_1)] ⟨rfl, rfl, rfl, trivial⟩ ?_
  refine PV.thenN ?_
  refine CV.ret ?_
  refine PV.thenR ?_
  refine PV.ldA (x := .tmp 4) (t := 35) hS h6 rfl Trf.agg35 fun x4_4 h7 hVx4_4 => ?_
  cases h7
  exact PV.ret (by simp) Tryd.results18 hS (RS.cell hVx4_4 RS.nil) rfl
 ·
  clear h1 h2 h3
  subst e
  refine CV.skip ?_
  refine PV.thenN ?_
  refine CV.seq ?_
  refine CV.region ?_
  refine LV.step (VAL.move rfl) rfl rfl rfl ?_
  refine LV.step (VAL.move rfl) rfl rfl rfl ?_
  refine LV.by (V.bld h4 rfl) rfl rfl rfl fun x10_5 h8 => ?_
  refine LV.stA hS h8 rfl rfl rfl Trf.agg35 rfl rfl rfl fun T4 its h9 hS => ?_
  refine LV.done ?_
  refine PV.sub [(4, x4_1)] ⟨rfl, trivial⟩ ?_
  refine PV.thenN ?_
  refine CV.ret ?_
  refine PV.ldA (x := .tmp 4) (t := 35) hS h9 rfl Trf.agg35 fun x4_6 h10 hVx4_6 => ?_
  cases h10
  exact PV.ret (by simp) Tryd.results18 hS (RS.cell hVx4_6 RS.nil) rfl
noncomputable def g113 (ro : List HT) (T : HT) (nx : Nat) : R :=
 bsK 1130019 T nx 17 29 1 [(0, (.iface 143 (.opq 0))), (1, (.iface 143 (.opq 1))), (2, (.iface 143 (.opq 2))), (3, (.iface 143 (.opq 3))), (4, (.iface 143 (.opq 4))), (5, (.iface 143 (.opq 5))), (6, (.iface 143 (.opq 6))), (7, (.iface 143 (.opq 7))), (8, (.iface 143 (.opq 8))), (9, (.iface 143 (.opq 9))), (10, (.iface 143 (.opq 10))), (11, (.iface 143 (.opq 11))), (12, (.iface 143 (.opq 12))), (13, (.iface 143 (.opq 13))), (14, (.iface 143 (.opq 14))), (15, (.iface 143 (.opq 15))), (16, (.iface 143 (.opq 16)))] fun x18_1 T1 n1 =>
 .ok (.val x18_1) T1 n1
theorem g113_ok (ro : List HT) (T : HT) (nx : Nat) : GOk Tryd.prog envE 113 [] ro T nx (g113 ro T nx) := by
 refine GOk.of_body Tryd.func113 rfl Tryd.ntmps113 (by kernel_rfl) rfl fun r T' n' h1 w0 base ρ0 its hS hP => ?_
 unfold g113 at h1
 refine CV.sub [] trivial ?_
 refine CV.seq ?_
 refine CV.region ?_
 refine LV.step (VAL.assign rfl) rfl rfl rfl ?_
 refine LV.done ?_
 refine PV.sub [(0, (.lit (.slice none 0 0)))] ⟨rfl, trivial⟩ ?_
 refine PV.thenN ?_
 refine CV.seq ?_
 refine CV.region ?_
 refine LV.step (VAL.ldG hS (by rfl) Trf.one29) rfl rfl rfl ?_
 refine LV.step (VAL.ldG hS (by rfl) Trf.one29) rfl rfl rfl ?_
 refine LV.step (VAL.ldG hS (by rfl) Trf.one29) rfl rfl rfl ?_
 refine LV.step (VAL.ldG hS (by rfl) Trf.one29) rfl rfl rfl ?_
 refine LV.step (VAL.ldG hS (by rfl) Trf.one29) rfl rfl rfl ?_
 refine LV.step (VAL.ldG hS (by rfl) Trf.one29) rfl rfl rfl ?_
 refine LV.step (VAL.ldG hS (by rfl) Trf.one29) rfl rfl rfl ?_
 refine LV.step (VAL.ldG hS (by rfl) Trf.one29) rfl rfl rfl ?_
 refine LV.step (VAL.ldG hS (by rfl) Trf.one29) rfl rfl rfl ?_
 refine LV.step (VAL.ldG hS (by rfl) Trf.one29) rfl rfl rfl ?_
 refine LV.step (VAL.ldG hS (by rfl) Trf.one29) rfl rfl rfl ?_
 refine LV.step (VAL.ldG hS (by rfl) Trf.one29) rfl rfl rfl ?_
 refine LV.step (VAL.ldG hS (by rfl) Trf.one29) rfl rfl rfl ?_
 refine LV.step (VAL.ldG hS (by rfl) Trf.one29) rfl rfl rfl ?_
 refine LV.step (VAL.ldG hS (by rfl) Trf.one29) rfl rfl rfl ?_
 refine LV.step (VAL.ldG hS (by rfl) Trf.one29) rfl rfl rfl ?_
 refine LV.step (VAL.ldG hS (by rfl) Trf.one29) rfl rfl rfl ?_
 refine LV.bslice hS h1 rfl rfl Trf.el129 rfl rfl rfl rfl fun x18_1 T1 n1 h2 ρ its hS hdr => ?_
 refine LV.step (VAL.assign rfl) rfl rfl rfl ?_
 refine LV.done ?_
 refine PV.sub [(0, x18_1)] ⟨rfl, trivial⟩ ?_
 refine PV.thenN ?_
 refine CV.ret ?_
 cases h2
 exact PV.ret (by simp) Tryd.results113 hS (RS.tmp rfl RS.nil) rfl
noncomputable def g114_k2 (ro : List HT) (y0 y1 y16 : AV) (T2 : HT) (n2 : Nat) : R :=
 .ok (.val y16) T2 n2
noncomputable def g114_k1 (ro : List HT) (y0 y1 y10 : AV) (T1 : HT) (n1 : Nat) : R :=
 condK 1140005 y10
 (
  bin0 Tryd.prog .eql 29 (.tmp 11) (.const (.nilIface)) 1140007 y0 (.lit (.nilIface)) fun x12_2 =>
  condK 1140010 x12_2
  (
   bin0 Tryd.prog .eql 29 (.tmp 14) (.const (.nilIface)) 1140012 y1 (.lit (.nilIface)) fun x15_3 =>
   g114_k2 ro y0 y1 x15_3 T1 n1
  )
  (
   g114_k2 ro y0 y1 (.lit (.bool false)) T1 n1
  )
 )
 (
  eeK Tryd.prog 143 29 (.tmp 17) (.tmp 18) 1140017 y0 y1 fun x19_4 =>
  .ok (.val x19_4) T1 n1
 )
noncomputable def g114 (ro : List HT) (a0 a1 : AV) (T : HT) (nx : Nat) : R :=
 bin0 Tryd.prog .eql 29 (.tmp 5) (.const (.nilIface)) 1140003 a0 (.lit (.nilIface)) fun x6_1 =>
 condK 1140019 x6_1
 (
  g114_k1 ro a0 a1 (.lit (.bool true)) T nx
 )
 (
  bin0 Tryd.prog .eql 29 (.tmp 8) (.const (.nilIface)) 1140022 a1 (.lit (.nilIface)) fun x9_5 =>
  g114_k1 ro a0 a1 x9_5 T nx
 )
theorem g114_ok (ro : List HT) (a0 a1 : AV) (T : HT) (nx : Nat) : GOk Tryd.prog envE 114 [a0, a1] ro T nx (g114 ro a0 a1 T nx) := by
 refine GOk.of_body Tryd.func114 rfl Tryd.ntmps114 (by kernel_rfl) rfl fun r T' n' h1 w0 base ρ0 its hS hP => ?_
 unfold g114 at h1
 refine CV.sub [(0, a0), (1, a1)] ⟨rfl, rfl, trivial⟩ ?_
 refine CV.seq ?_
 refine CV.region ?_
 refine LV.step (VAL.assign rfl) rfl rfl rfl ?_
 refine LV.done ?_
 refine PV.sub [(0, a0), (1, a1), (4, (.lit (.bool false)))] ⟨rfl, rfl, rfl, trivial⟩ ?_
 refine PV.thenN ?_
 refine CV.seq ?_
 refine CV.seq ?_
 refine CV.region ?_
 refine LV.step (VAL.move rfl) rfl rfl rfl ?_
 refine LV.by (V.bin0 h1 rfl rfl) rfl rfl rfl fun x6_1 h2 => ?_
 refine LV.step (VAL.move rfl) rfl rfl rfl ?_
 refine LV.seam (E := envE) (ro := ro) (ρ0 := ρ0) (τ := AV × AV × AV × HT × Nat) (fun t => [(0, t.1), (1, t.2.1), (10, t.2.2.1), (4, (.lit (.bool false)))]) (fun t => t.2.2.2.1) (fun t => t.2.2.2.2) (fun t => g114_k1 ro  t.1 t.2.1 t.2.2.1 t.2.2.2.1 t.2.2.2.2 = .ok r T' n') 3 ?_ ?_
 ·
  rcases condK_inv h2 with ⟨e, h12⟩ | ⟨e, h12⟩
  ·
   clear h1 h2
   subst e
   refine LV.skip rfl rfl rfl ?_
   refine LV.skip rfl rfl rfl ?_
   refine LV.step (VAL.pure rfl) rfl rfl rfl ?_
   exact LV.atSeam (a0, a1, (.lit (.bool true)), T, nx) hS h12 ⟨rfl, rfl, rfl, rfl, trivial⟩
  ·
   clear h1 h2
   subst e
   refine LV.step (VAL.move rfl) rfl rfl rfl ?_
   refine LV.by (V.bin0 h12 rfl rfl) rfl rfl rfl fun x9_5 h13 => ?_
   refine LV.step (VAL.pure rfl) rfl rfl rfl ?_
   exact LV.atSeam (a0, a1, x9_5, T, nx) hS h13 ⟨rfl, rfl, rfl, rfl, trivial⟩
 ·
  rintro ⟨y0, y1, y10, T1, n1⟩ ρ its hQ h3
  have hS : EY.ST w0 base envE ρ0 ρ T1 ro n1 its := hQ
  clear hQ
  change LV _ _ _ _ _ _ _ _ _ [(0, y0), (1, y1), (10, y10), (4, (.lit (.bool false)))] _
  have h4 : g114_k1 ro y0 y1 y10 T1 n1 = .ok r T' n' := h3
  unfold g114_k1 at h4
  clear h1 h2 h3
  refine LV.done ?_
  refine PV.sub [(0, y0), (1, y1), (4, (.lit (.bool false))), (10, y10)] ⟨rfl, rfl, rfl, rfl, trivial⟩ ?_
  refine PV.thenN ?_
  refine CV.cond h4 rfl (fun e h5 => ?_) (fun e h5 => ?_)
  ·
   clear h4
   subst e
   refine CV.seq ?_
   refine CV.region ?_
   refine LV.step (VAL.move rfl) rfl rfl rfl ?_
   refine LV.by (V.bin0 h5 rfl rfl) rfl rfl rfl fun x12_2 h6 => ?_
   refine LV.step (VAL.move rfl) rfl rfl rfl ?_
   refine LV.seam (E := envE) (ro := ro) (ρ0 := ρ0) (τ := AV × AV × AV × HT × Nat) (fun t => [(0, t.1), (1, t.2.1), (16, t.2.2.1), (4, (.lit (.bool false)))]) (fun t => t.2.2.2.1) (fun t => t.2.2.2.2) (fun t => g114_k2 ro  t.1 t.2.1 t.2.2.1 t.2.2.2.1 t.2.2.2.2 = .ok r T' n') 3 ?_ ?_
   ·
    rcases condK_inv h6 with ⟨e, h9⟩ | ⟨e, h9⟩
    ·
     clear h5 h6
     subst e
     refine LV.step (VAL.move rfl) rfl rfl rfl ?_
     refine LV.by (V.bin0 h9 rfl rfl) rfl rfl rfl fun x15_3 h10 => ?_
     refine LV.step (VAL.pure rfl) rfl rfl rfl ?_
     exact LV.atSeam (y0, y1, x15_3, T1, n1) hS h10 ⟨rfl, rfl, rfl, rfl, trivial⟩
    ·
     clear h5 h6
     subst e
     refine LV.skip rfl rfl rfl ?_
     refine LV.skip rfl rfl rfl ?_
     refine LV.step (VAL.pure rfl) rfl rfl rfl ?_
     exact LV.atSeam (y0, y1, (.lit (.bool false)), T1, n1) hS h9 ⟨rfl, rfl, rfl, rfl, trivial⟩
   ·
    rintro ⟨y0, y1, y16, T2, n2⟩ ρ its hQ h7
    have hS : EY.ST w0 base envE ρ0 ρ T2 ro n2 its := hQ
    clear hQ
    change LV _ _ _ _ _ _ _ _ _ [(0, y0), (1, y1), (16, y16), (4, (.lit (.bool false)))] _
    have h8 : g114_k2 ro y0 y1 y16 T2 n2 = .ok r T' n' := h7
    unfold g114_k2 at h8
    clear h5 h6 h7
    refine LV.step (VAL.assign rfl) rfl rfl rfl ?_
    refine LV.done ?_
    refine PV.sub [(0, y0), (1, y1), (4, y16)] ⟨rfl, rfl, rfl, trivial⟩ ?_
    refine PV.thenN ?_
    refine CV.ret ?_
    refine PV.thenR ?_
    cases h8
    exact PV.ret (by simp) Tryd.results114 hS (RS.tmp rfl RS.nil) rfl
  ·
   clear h4
   subst e
   refine CV.skip ?_
   refine PV.thenN ?_
   refine CV.seq ?_
   refine CV.region ?_
   refine LV.step (VAL.move rfl) rfl rfl rfl ?_
   refine LV.step (VAL.move rfl) rfl rfl rfl ?_
   refine LV.by (V.ee hS h5 rfl rfl Trf.ii29 Trf.cp143) rfl rfl rfl fun x19_4 h11 => ?_
   refine LV.step (VAL.assign rfl) rfl rfl rfl ?_
   refine LV.done ?_
   refine PV.sub [(4, x19_4)] ⟨rfl, trivial⟩ ?_
   refine PV.thenN ?_
   refine CV.ret ?_
   cases h11
   exact PV.ret (by simp) Tryd.results114 hS (RS.tmp rfl RS.nil) rfl

end Go.Proofs.YtggoogbloaennaaDoor.Tr
