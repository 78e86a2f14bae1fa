/-
  Proved here: plain functions that do what the program's functions do, each with its proof.
-/
import Derived.Test.YtggoogbloaennaaDoorTrd
namespace Go.Proofs.YtggoogbloaennaaDoor.Tr
open Go.EY Go.EX Go.SX Go.RowKit
noncomputable def g93_b1 (ro : List HT) (lp1 : AV → AV → AV → AV → HT → Nat → R) (y0 y2 y3 y4 : AV) (T2 : HT) (n2 : Nat) : R :=
 lenSK 930007 y3 fun x8_2 =>
 ltK Tryd.prog 3 (.tmp 6) (.tmp 8) 930008 y4 x8_2 fun x9_3 =>
 condK 930009 x9_3
 (
  iaK 930013 y3 y4 1 fun x15_4 =>
  ldK 930014 T2 ro x15_4 fun x16_5 =>
  callK (g114 ro y0 x16_5 T2 n2) fun x17_6 T3 n3 =>
  condK 930016 x17_6
  (
   addK Tryd.prog 3 (.const (.int .i64 (.ofNat 101))) (.tmp 18) 930018 (.lit (.int .i64 (.ofNat 101))) y4 fun x19_7 =>
   .ok (.val x19_7) T3 n3
  )
  (
   addK Tryd.prog 3 (.tmp 10) (.const (.int .i64 (.ofNat 1))) 930021 y4 (.lit (.int .i64 (.ofNat 1))) fun x11_8 =>
   lp1 y0 y2 y3 x11_8 T3 n3
  )
 )
 (
  .ok (.val (.lit (.int .i64 (.negSucc 0)))) T2 n2
 )
noncomputable def g93_l1 (ro : List HT) (fuel : Nat) : AV → AV → AV → AV → HT → Nat → R :=
  Nat.rec (motive := fun _ => AV → AV → AV → AV → HT → Nat → R) (fun _ _ _ _ _ _ => .bad 930024) (fun _ lp => g93_b1 ro lp) fuel
noncomputable def g93 (ro : List HT) (a0 : AV) (T : HT) (nx : Nat) : R :=
 callK (g113 ro T nx) fun x5_1 T1 n1 =>
 g93_l1 ro 100000 a0 (.lit (.int .i64 (.ofNat 0))) x5_1 (.lit (.int .i64 (.ofNat 0))) T1 n1
theorem g93_ok (ro : List HT) (a0 : AV) (T : HT) (nx : Nat) : GOk Tryd.prog envE 93 [a0] ro T nx (g93 ro a0 T nx) := by
 refine GOk.of_body Tryd.func93 rfl Tryd.ntmps93 (by kernel_rfl) rfl fun r T' n' h1 w0 base ρ0 its hS hP => ?_
 unfold g93 at h1
 refine CV.sub [(0, a0)] ⟨rfl, trivial⟩ ?_
 refine CV.seq ?_
 refine CV.region ?_
 refine LV.step (VAL.assign rfl) rfl rfl rfl ?_
 refine LV.done ?_
 refine PV.sub [(0, a0), (2, (.lit (.int .i64 (.ofNat 0))))] ⟨rfl, rfl, trivial⟩ ?_
 refine PV.thenN ?_
 refine CV.seq ?_
 refine CV.region ?_
 refine LV.call hS h1 (g113_ok _ _ _ ) hP rfl rfl rfl rfl fun x5_1 T1 n1 h2 ρ its hS => ?_
 refine LV.step (VAL.assign rfl) rfl rfl rfl ?_
 refine LV.done ?_
 refine PV.sub [(0, a0), (2, (.lit (.int .i64 (.ofNat 0)))), (3, x5_1)] ⟨rfl, rfl, rfl, trivial⟩ ?_
 refine PV.thenN ?_
 refine CV.seq ?_
 refine CV.seq ?_
 refine CV.region ?_
 refine LV.step (VAL.assign rfl) rfl rfl rfl ?_
 refine LV.done ?_
 refine PV.sub [(0, a0), (2, (.lit (.int .i64 (.ofNat 0)))), (3, x5_1), (4, (.lit (.int .i64 (.ofNat 0))))] ⟨rfl, rfl, rfl, rfl, trivial⟩ ?_
 refine PV.thenN ?_
 refine CV.block ?_
 refine CV.loop (E := envE) (ro := ro) (ρ0 := ρ0) (τ := AV × AV × AV × AV × HT × Nat) (fun t => [(0, t.1), (2, t.2.1), (3, t.2.2.1), (4, t.2.2.2.1)]) (fun t => t.2.2.2.2.1) (fun t => t.2.2.2.2.2) (fun f t => g93_l1 ro f t.1 t.2.1 t.2.2.1 t.2.2.2.1 t.2.2.2.2.1 t.2.2.2.2.2 = .ok r T' n') 100000 (a0, (.lit (.int .i64 (.ofNat 0))), x5_1, (.lit (.int .i64 (.ofNat 0))), T1, n1) hS h2 ⟨rfl, rfl, rfl, rfl, trivial⟩ ?_
 rintro (_ | f1) ⟨y0, y2, y3, y4, T2, n2⟩ ρ its hQ h3
 · cases h3
 have hS : EY.ST w0 base envE ρ0 ρ T2 ro n2 its := hQ
 clear hQ
 change CV _ _ _ _ _ _ _ _ [(0, y0), (2, y2), (3, y3), (4, y4)] _
 have h4 : g93_b1 ro (g93_l1 ro f1) y0 y2 y3 y4 T2 n2 = .ok r T' n' := h3
 unfold g93_b1 at h4
 clear h1 h2 h3
 refine CV.seq ?_
 refine CV.seq ?_
 refine CV.region ?_
 refine LV.step (VAL.move rfl) rfl rfl rfl ?_
 refine LV.step (VAL.move rfl) rfl rfl rfl ?_
 refine LV.by (V.lenS h4 rfl Trf.ls129) rfl rfl rfl fun x8_2 h5 => ?_
 refine LV.by (V.lt h5 rfl rfl) rfl rfl rfl fun x9_3 h6 => ?_
 refine LV.done ?_
 refine PV.sub [(0, y0), (2, y2), (3, y3), (4, y4), (9, x9_3)] ⟨rfl, rfl, rfl, rfl, rfl, trivial⟩ ?_
 refine PV.thenN ?_
 refine CV.cond h6 rfl (fun e h7 => ?_) (fun e h7 => ?_)
 ·
  clear h4 h5 h6
  subst e
  refine CV.skip ?_
  refine PV.thenN ?_
  refine CV.seq ?_
  refine CV.block ?_
  refine CV.seq ?_
  refine CV.region ?_
  refine LV.step (VAL.move rfl) rfl rfl rfl ?_
  refine LV.step (VAL.move rfl) rfl rfl rfl ?_
  refine LV.step (VAL.move rfl) rfl rfl rfl ?_
  refine LV.by (V.ia h7 rfl rfl Trf.el129) rfl rfl rfl fun x15_4 h8 => ?_
  refine LV.by (V.ld hS h8 rfl Trf.one29) rfl rfl rfl fun x16_5 h9 => ?_
  refine LV.call hS h9 (g114_ok _ _ _ _ _ ) hP rfl rfl rfl rfl fun x17_6 T3 n3 h10 ρ its hS => ?_
  refine LV.done ?_
  refine PV.sub [(0, y0), (2, y2), (3, y3), (4, y4), (17, x17_6)] ⟨rfl, rfl, rfl, rfl, rfl, trivial⟩ ?_
  refine PV.thenN ?_
  refine CV.cond h10 rfl (fun e h11 => ?_) (fun e h11 => ?_)
  ·
   clear h7 h8 h9 h10
   subst e
   refine CV.seq ?_
   refine CV.region ?_
   refine LV.step (VAL.move rfl) rfl rfl rfl ?_
   refine LV.by (V.add h11 rfl rfl) rfl rfl rfl fun x19_7 h12 => ?_
   refine LV.step (VAL.assign rfl) rfl rfl rfl ?_
   refine LV.done ?_
   refine PV.sub [(0, y0), (2, x19_7), (3, y3), (4, y4)] ⟨rfl, rfl, rfl, rfl, trivial⟩ ?_
   refine PV.thenN ?_
   refine CV.ret ?_
   refine PV.blockR ?_
   refine PV.thenR ?_
   refine PV.thenR ?_
   refine PV.blockR ?_
   refine PV.thenR ?_
   cases h12
   exact PV.ret (by simp) Tryd.results93 hS (RS.tmp rfl RS.nil) rfl
  ·
   clear h7 h8 h9 h10
   subst e
   refine CV.skip ?_
   refine PV.blockN ?_
   refine PV.thenN ?_
   refine CV.region ?_
   refine LV.step (VAL.move rfl) rfl rfl rfl ?_
   refine LV.by (V.add h11 rfl rfl) rfl rfl rfl fun x11_8 h13 => ?_
   refine LV.step (VAL.assign rfl) rfl rfl rfl ?_
   refine LV.done ?_
   refine PV.sub [(0, y0), (2, y2), (3, y3), (4, x11_8)] ⟨rfl, rfl, rfl, rfl, trivial⟩ ?_
   exact PV.atSeam (τ := Nat × AV × AV × AV × AV × HT × Nat) (f1, y0, y2, y3, x11_8, T3, n3) hS ⟨Nat.lt_succ_self _, h13⟩ ⟨rfl, rfl, rfl, rfl, trivial⟩
 ·
  clear h4 h5 h6
  subst e
  refine CV.exit ?_
  refine PV.thenE ?_
  refine PV.thenE ?_
  refine PV.blockE ?_
  refine PV.thenN ?_
  refine CV.seq ?_
  refine CV.region ?_
  refine LV.step (VAL.assign rfl) rfl rfl rfl ?_
  refine LV.done ?_
  refine PV.sub [(2, (.lit (.int .i64 (.negSucc 0))))] ⟨rfl, trivial⟩ ?_
  refine PV.thenN ?_
  refine CV.ret ?_
  cases h7
  exact PV.ret (by simp) Tryd.results93 hS (RS.tmp rfl RS.nil) rfl
noncomputable def g69_k1 (ro : List HT) (y2 y3 y23 : AV) (T5 : HT) (n5 : Nat) : R :=
 condK 690020 y23
 (
  callK (g46 ro (.lit (.int .i64 (.negSucc 0))) T5 n5) fun x24_10 T6 n6 =>
  stAK 690022 T6 y2 x24_10 5 fun T7 =>
  ldAK 690023 T7 ro y2 5 fun x2_11 =>
  .ok (.val x2_11) T7 n6
 )
 (
  ncK 690025 y3 fun x26_12 =>
  faK 690026 x26_12 1 fun x27_13 =>
  ldK 690027 T5 ro x27_13 fun x28_14 =>
  ncK 690029 y3 fun x31_15 =>
  faK 690030 x31_15 0 fun x32_16 =>
  ldK 690031 T5 ro x32_16 fun x33_17 =>
  callQ 690032 (g93 (T5 :: ro) x28_14 .nil n5) fun x29_18 =>
  callK (g18 ro x29_18 x33_17 T5 n5) fun x34_19 T8 n8 =>
  stAK 690034 T8 y2 x34_19 5 fun T9 =>
  ldAK 690035 T9 ro y2 5 fun x2_20 =>
  .ok (.val x2_20) T9 n8
 )
noncomputable def g69 (ro : List HT) (a0 : AV) (T : HT) (nx : Nat) : R :=
 newK T nx (.obj [.lit (.int .i64 0), .lit (.bool false), .lit (.int .i64 0), .lit (.bool false), .lit (.string ⟨#[]⟩)] 35) fun x2_1 T1 n1 =>
 asK 690003 a0 66 (.tup [.lit (.pointer none), .lit (.bool false)]) fun x7_2 =>
 exK 690005 x7_2 0 fun x8_3 =>
 exK 690006 x7_2 1 fun x9_4 =>
 notK 690010 x9_4 fun x11_5 =>
 condK 690011 x11_5
 (
  callK (g93 ro a0 T1 n1) fun x13_6 T2 n2 =>
  callK (g46 ro x13_6 T2 n2) fun x14_7 T3 n3 =>
  stAK 690015 T3 x2_1 x14_7 5 fun T4 =>
  ldAK 690016 T4 ro x2_1 5 fun x2_8 =>
  .ok (.val x2_8) T4 n3
 )
 (
  bin0 Tryd.prog .eql 66 (.tmp 15) (.const (.pointer none)) 690018 x8_3 (.lit (.pointer none)) fun x16_9 =>
  condK 690036 x16_9
  (
   g69_k1 ro x2_1 x8_3 (.lit (.bool true)) T1 n1
  )
  (
   ncK 690039 x8_3 fun x19_21 =>
   faK 690040 x19_21 1 fun x20_22 =>
   ldK 690041 T1 ro x20_22 fun x21_23 =>
   bin0 Tryd.prog .eql 29 (.tmp 21) (.const (.nilIface)) 690042 x21_23 (.lit (.nilIface)) fun x22_24 =>
   g69_k1 ro x2_1 x8_3 x22_24 T1 n1
  )
 )
theorem g69_ok (ro : List HT) (a0 : AV) (T : HT) (nx : Nat) : GOk Tryd.prog envE 69 [a0] ro T nx (g69 ro a0 T nx) := by
 refine GOk.of_body Tryd.func69 rfl Tryd.ntmps69 (by kernel_rfl) rfl fun r T' n' h1 w0 base ρ0 its hS hP => ?_
 unfold g69 at h1
 refine CV.sub [(0, a0)] ⟨rfl, trivial⟩ ?_
 refine CV.seq ?_
 refine CV.region ?_
 refine LV.alloc hS h1 rfl Trf.zr35 rfl rfl rfl fun x2_1 T1 n1 h2 ρ its hS hdr => ?_
 refine LV.done ?_
 refine PV.sub [(0, a0), (2, x2_1)] ⟨rfl, rfl, trivial⟩ ?_
 refine PV.thenN ?_
 refine CV.seq ?_
 refine CV.region ?_
 refine LV.step (VAL.move rfl) rfl rfl rfl ?_
 refine LV.by (V.as h2 rfl Trf.ni66 Trf.za66) rfl rfl rfl fun x7_2 h3 => ?_
 refine LV.step (VAL.move rfl) rfl rfl rfl ?_
 refine LV.by (V.ex h3 rfl) rfl rfl rfl fun x8_3 h4 => ?_
 refine LV.by (V.ex h4 rfl) rfl rfl rfl fun x9_4 h5 => ?_
 refine LV.step (VAL.assign rfl) rfl rfl rfl ?_
 refine LV.step (VAL.assign rfl) rfl rfl rfl ?_
 refine LV.done ?_
 refine PV.sub [(0, a0), (2, x2_1), (3, x8_3), (4, x9_4)] ⟨rfl, rfl, rfl, rfl, trivial⟩ ?_
 refine PV.thenN ?_
 refine CV.seq ?_
 refine CV.seq ?_
 refine CV.region ?_
 refine LV.step (VAL.move rfl) rfl rfl rfl ?_
 refine LV.by (V.not h5 rfl) rfl rfl rfl fun x11_5 h6 => ?_
 refine LV.done ?_
 refine PV.sub [(0, a0), (2, x2_1), (3, x8_3), (11, x11_5)] ⟨rfl, rfl, rfl, rfl, trivial⟩ ?_
 refine PV.thenN ?_
 refine CV.cond h6 rfl (fun e h7 => ?_) (fun e h7 => ?_)
 ·
  clear h1 h2 h3 h4 h5 h6
  subst e
  refine CV.seq ?_
  refine CV.region ?_
  refine LV.step (VAL.move rfl) rfl rfl rfl ?_
  refine LV.call hS h7 (g93_ok _ _ _ _ ) hP rfl rfl rfl rfl fun x13_6 T2 n2 h8 ρ its hS => ?_
  refine LV.call hS h8 (g46_ok _ _ _ _ ) hP rfl rfl rfl rfl fun x14_7 T3 n3 h9 ρ its hS => ?_
  refine LV.stA hS h9 rfl rfl rfl Trf.agg35 rfl rfl rfl fun T4 its h10 hS => ?_
  refine LV.done ?_
  refine PV.sub [(2, x2_1), (3, x8_3)] ⟨rfl, rfl, trivial⟩ ?_
  refine PV.thenN ?_
  refine CV.ret ?_
  refine PV.thenR ?_
  refine PV.ldA (x := .tmp 2) (t := 35) hS h10 rfl Trf.agg35 fun x2_8 h11 hVx2_8 => ?_
  cases h11
  exact PV.ret (by simp) Tryd.results69 hS (RS.cell hVx2_8 RS.nil) rfl
 ·
  clear h1 h2 h3 h4 h5 h6
  subst e
  refine CV.skip ?_
  refine PV.thenN ?_
  refine CV.seq ?_
  refine CV.seq ?_
  refine CV.region ?_
  refine LV.step (VAL.move rfl) rfl rfl rfl ?_
  refine LV.by (V.bin0 h7 rfl rfl) rfl rfl rfl fun x16_9 h12 => ?_
  refine LV.step (VAL.move rfl) rfl rfl rfl ?_
  refine LV.seam (E := envE) (ro := ro) (ρ0 := ρ0) (τ := AV × AV × AV × HT × Nat) (fun t => [(2, t.1), (3, t.2.1), (23, t.2.2.1)]) (fun t => t.2.2.2.1) (fun t => t.2.2.2.2) (fun t => g69_k1 ro  t.1 t.2.1 t.2.2.1 t.2.2.2.1 t.2.2.2.2 = .ok r T' n') 6 ?_ ?_
  ·
   rcases condK_inv h12 with ⟨e, h29⟩ | ⟨e, h29⟩
   ·
    clear h7 h12
    subst e
    refine LV.skip rfl rfl rfl ?_
    refine LV.skip rfl rfl rfl ?_
    refine LV.skip rfl rfl rfl ?_
    refine LV.skip rfl rfl rfl ?_
    refine LV.skip rfl rfl rfl ?_
    refine LV.step (VAL.pure rfl) rfl rfl rfl ?_
    exact LV.atSeam (x2_1, x8_3, (.lit (.bool true)), T1, n1) hS h29 ⟨rfl, rfl, rfl, trivial⟩
   ·
    clear h7 h12
    subst e
    refine LV.step (VAL.move rfl) rfl rfl rfl ?_
    refine LV.by (V.nc h29 rfl) rfl rfl rfl fun x19_21 h30 => ?_
    refine LV.by (V.fa h30 rfl Trf.fo68_1) rfl rfl rfl fun x20_22 h31 => ?_
    refine LV.by (V.ld hS h31 rfl Trf.one29) rfl rfl rfl fun x21_23 h32 => ?_
    refine LV.by (V.bin0 h32 rfl rfl) rfl rfl rfl fun x22_24 h33 => ?_
    refine LV.step (VAL.pure rfl) rfl rfl rfl ?_
    exact LV.atSeam (x2_1, x8_3, x22_24, T1, n1) hS h33 ⟨rfl, rfl, rfl, trivial⟩
  ·
   rintro ⟨y2, y3, y23, T5, n5⟩ ρ its hQ h13
   have hS : EY.ST w0 base envE ρ0 ρ T5 ro n5 its := hQ
   clear hQ
   change LV _ _ _ _ _ _ _ _ _ [(2, y2), (3, y3), (23, y23)] _
   have h14 : g69_k1 ro y2 y3 y23 T5 n5 = .ok r T' n' := h13
   unfold g69_k1 at h14
   clear h7 h12 h13
   refine LV.done ?_
   refine PV.sub [(2, y2), (3, y3), (23, y23)] ⟨rfl, rfl, rfl, trivial⟩ ?_
   refine PV.thenN ?_
   refine CV.cond h14 rfl (fun e h15 => ?_) (fun e h15 => ?_)
   ·
    clear h14
    subst e
    refine CV.seq ?_
    refine CV.region ?_
    refine LV.call hS h15 (g46_ok _ _ _ _ ) hP rfl rfl rfl rfl fun x24_10 T6 n6 h16 ρ its hS => ?_
    refine LV.stA hS h16 rfl rfl rfl Trf.agg35 rfl rfl rfl fun T7 its h17 hS => ?_
    refine LV.done ?_
    refine PV.sub [(2, y2), (3, y3)] ⟨rfl, rfl, trivial⟩ ?_
    refine PV.thenN ?_
    refine CV.ret ?_
    refine PV.thenR ?_
    refine PV.ldA (x := .tmp 2) (t := 35) hS h17 rfl Trf.agg35 fun x2_11 h18 hVx2_11 => ?_
    cases h18
    exact PV.ret (by simp) Tryd.results69 hS (RS.cell hVx2_11 RS.nil) rfl
   ·
    clear h14
    subst e
    refine CV.skip ?_
    refine PV.thenN ?_
    refine CV.seq ?_
    refine CV.regionM [(0, .anywhere), (1, .anywhere), (2, .anywhere), (3, .held), (5, .anywhere), (6, .anywhere), (7, .anywhere), (8, .held), (4, .alone), (9, .alone), (10, .alone)] rfl (fun c a a' w hd hq => PanicOk.root (P := Tryd.prog) (fn := Tryd.f69) (w0 := w0) (base := base) (E := envE) (ro := ro) (r := r) (T' := T') (n' := n') (ρ0 := ρ0) c a a' w hd hq) (by kernel_rfl) ?_
    refine MV.step0 (i := 0) rfl (VAL.move rfl) rfl rfl rfl ?_
    refine MV.lift0 (i := 1) rfl (V.nc h15 rfl) rfl rfl rfl fun x26_12 h19 => ?_
    refine MV.lift0 (i := 2) rfl (V.fa h19 rfl Trf.fo68_1) rfl rfl rfl fun x27_13 h20 => ?_
    refine MV.lift1 (i := 3) rfl (fun _ z => z) (V.ld hS h20 rfl Trf.one29) rfl rfl rfl [] (by kernel_rfl) fun x28_14 h21 => ?_
    refine MV.step0 (i := 5) rfl (VAL.move rfl) rfl rfl rfl ?_
    refine MV.lift0 (i := 6) rfl (V.nc h21 rfl) rfl rfl rfl fun x31_15 h22 => ?_
    refine MV.lift0 (i := 7) rfl (V.fa h22 rfl Trf.fo68_0) rfl rfl rfl fun x32_16 h23 => ?_
    refine MV.lift1 (i := 8) rfl (fun _ z => z) (V.ld hS h23 rfl Trf.one3) rfl rfl rfl [3] (by kernel_rfl) fun x33_17 h24 => ?_
    refine MV.force (i := 4) rfl ?_
    refine LV.callQ hS h24 (g93_ok _ _ _ _ ) rfl rfl rfl rfl fun x29_18 h25 => ?_
    refine LV.nextM [8] (by kernel_rfl) (fun _ => fun _ z => z) ?_
    refine MV.force (i := 9) rfl ?_
    refine LV.call hS h25 (g18_ok _ _ _ _ _ ) hP rfl rfl rfl rfl fun x34_19 T8 n8 h26 ρ its hS => ?_
    refine LV.nextM [] (by kernel_rfl) (fun z => absurd rfl z) ?_
    refine MV.force (i := 10) rfl ?_
    refine LV.stA hS h26 rfl rfl rfl Trf.agg35 rfl rfl rfl fun T9 its h27 hS => ?_
    refine LV.nextM [] (by kernel_rfl) (fun z => absurd rfl z) ?_
    refine MV.sub [(2, y2)] ⟨rfl, trivial⟩ ?_
    refine MV.done ?_
    refine PV.thenN ?_
    refine CV.ret ?_
    refine PV.ldA (x := .tmp 2) (t := 35) hS h27 rfl Trf.agg35 fun x2_20 h28 hVx2_20 => ?_
    cases h28
    exact PV.ret (by simp) Tryd.results69 hS (RS.cell hVx2_20 RS.nil) rfl
noncomputable def g40_k1 (ro : List HT) (y2 y3 y26 : AV) (T6 : HT) (n6 : Nat) : R :=
 condK 400025 y26
 (
  callK (g46 ro (.lit (.int .i64 (.negSucc 0))) T6 n6) fun x27_12 T7 n7 =>
  stAK 400027 T7 y2 x27_12 5 fun T8 =>
  ldAK 400028 T8 ro y2 5 fun x2_13 =>
  .ok (.val x2_13) T8 n7
 )
 (
  ncK 400030 y3 fun x29_14 =>
  faK 400031 x29_14 1 fun x30_15 =>
  ldK 400032 T6 ro x30_15 fun x31_16 =>
  callK (g69 ro x31_16 T6 n6) fun x32_17 T9 n9 =>
  newK T9 n9 (.obj [.lit (.int .i64 0), .lit (.bool false), .lit (.int .i64 0), .lit (.bool false), .lit (.string ⟨#[]⟩)] 35) fun x5_18 T10 n10 =>
  stAK 400035 T10 x5_18 x32_17 5 fun T11 =>
  faK 400036 x5_18 0 fun x33_19 =>
  ldK 400037 T11 ro x33_19 fun x34_20 =>
  faK 400038 x5_18 1 fun x35_21 =>
  ldK 400039 T11 ro x35_21 fun x36_22 =>
  faK 400040 x5_18 2 fun x37_23 =>
  ldK 400041 T11 ro x37_23 fun x38_24 =>
  ncK 400043 y3 fun x40_25 =>
  faK 400044 x40_25 0 fun x41_26 =>
  ldK 400045 T11 ro x41_26 fun x42_27 =>
  optK 400046 (bld35 [(0, x34_20), (1, x36_22), (2, x38_24), (3, (.lit (.bool true))), (4, x42_27)]) fun x43_28 =>
  stAK 400047 T11 y2 x43_28 5 fun T12 =>
  ldAK 400048 T12 ro y2 5 fun x2_29 =>
  .ok (.val x2_29) T12 n10
 )
noncomputable def g40 (ro : List HT) (a0 : AV) (T : HT) (nx : Nat) : R :=
 newK T nx (.obj [.lit (.int .i64 0), .lit (.bool false), .lit (.int .i64 0), .lit (.bool false), .lit (.string ⟨#[]⟩)] 35) fun x2_1 T1 n1 =>
 bin0 Tryd.prog .eql 29 (.tmp 6) (.const (.nilIface)) 400003 a0 (.lit (.nilIface)) fun x7_2 =>
 condK 400004 x7_2
 (
  callK (g41 ro T1 n1) fun x8_3 T2 n2 =>
  stAK 400006 T2 x2_1 x8_3 5 fun T3 =>
  ldAK 400007 T3 ro x2_1 5 fun x2_4 =>
  .ok (.val x2_4) T3 n2
 )
 (
  asK 400009 a0 98 (.tup [.lit (.pointer none), .lit (.bool false)]) fun x11_5 =>
  exK 400011 x11_5 0 fun x12_6 =>
  exK 400012 x11_5 1 fun x13_7 =>
  notK 400016 x13_7 fun x15_8 =>
  condK 400017 x15_8
  (
   callK (g69 ro a0 T1 n1) fun x17_9 T4 n4 =>
   stAK 400020 T4 x2_1 x17_9 5 fun T5 =>
   ldAK 400021 T5 ro x2_1 5 fun x2_10 =>
   .ok (.val x2_10) T5 n4
  )
  (
   bin0 Tryd.prog .eql 98 (.tmp 18) (.const (.pointer none)) 400023 x12_6 (.lit (.pointer none)) fun x19_11 =>
   condK 400049 x19_11
   (
    g40_k1 ro x2_1 x12_6 (.lit (.bool true)) T1 n1
   )
   (
    ncK 400052 x12_6 fun x22_30 =>
    faK 400053 x22_30 1 fun x23_31 =>
    ldK 400054 T1 ro x23_31 fun x24_32 =>
    bin0 Tryd.prog .eql 29 (.tmp 24) (.const (.nilIface)) 400055 x24_32 (.lit (.nilIface)) fun x25_33 =>
    g40_k1 ro x2_1 x12_6 x25_33 T1 n1
   )
  )
 )
theorem g40_ok (ro : List HT) (a0 : AV) (T : HT) (nx : Nat) : GOk Tryd.prog envE 40 [a0] ro T nx (g40 ro a0 T nx) := by
 refine GOk.of_body Tryd.func40 rfl Tryd.ntmps40 (by kernel_rfl) rfl fun r T' n' h1 w0 base ρ0 its hS hP => ?_
 unfold g40 at h1
 refine CV.sub [(0, a0)] ⟨rfl, trivial⟩ ?_
 refine CV.seq ?_
 refine CV.region ?_
 refine LV.alloc hS h1 rfl Trf.zr35 rfl rfl rfl fun x2_1 T1 n1 h2 ρ its hS hdr => ?_
 refine LV.done ?_
 refine PV.sub [(0, a0), (2, x2_1)] ⟨rfl, rfl, trivial⟩ ?_
 refine PV.thenN ?_
 refine CV.seq ?_
 refine CV.seq ?_
 refine CV.region ?_
 refine LV.step (VAL.move rfl) rfl rfl rfl ?_
 refine LV.by (V.bin0 h2 rfl rfl) rfl rfl rfl fun x7_2 h3 => ?_
 refine LV.done ?_
 refine PV.sub [(0, a0), (2, x2_1), (7, x7_2)] ⟨rfl, rfl, rfl, trivial⟩ ?_
 refine PV.thenN ?_
 refine CV.cond h3 rfl (fun e h4 => ?_) (fun e h4 => ?_)
 ·
  clear h1 h2 h3
  subst e
  refine CV.seq ?_
  refine CV.region ?_
  refine LV.call hS h4 (g41_ok _ _ _ ) hP rfl rfl rfl rfl fun x8_3 T2 n2 h5 ρ its hS => ?_
  refine LV.stA hS h5 rfl rfl rfl Trf.agg35 rfl rfl rfl fun T3 its h6 hS => ?_
  refine LV.done ?_
  refine PV.sub [(0, a0), (2, x2_1)] ⟨rfl, rfl, trivial⟩ ?_
  refine PV.thenN ?_
  refine CV.ret ?_
  refine PV.thenR ?_
  refine PV.ldA (x := .tmp 2) (t := 35) hS h6 rfl Trf.agg35 fun x2_4 h7 hVx2_4 => ?_
  cases h7
  exact PV.ret (by simp) Tryd.results40 hS (RS.cell hVx2_4 RS.nil) rfl
 ·
  clear h1 h2 h3
  subst e
  refine CV.skip ?_
  refine PV.thenN ?_
  refine CV.seq ?_
  refine CV.region ?_
  refine LV.step (VAL.move rfl) rfl rfl rfl ?_
  refine LV.by (V.as h4 rfl Trf.ni98 Trf.za98) rfl rfl rfl fun x11_5 h8 => ?_
  refine LV.step (VAL.move rfl) rfl rfl rfl ?_
  refine LV.by (V.ex h8 rfl) rfl rfl rfl fun x12_6 h9 => ?_
  refine LV.by (V.ex h9 rfl) rfl rfl rfl fun x13_7 h10 => ?_
  refine LV.step (VAL.assign rfl) rfl rfl rfl ?_
  refine LV.step (VAL.assign rfl) rfl rfl rfl ?_
  refine LV.done ?_
  refine PV.sub [(0, a0), (2, x2_1), (3, x12_6), (4, x13_7)] ⟨rfl, rfl, rfl, rfl, trivial⟩ ?_
  refine PV.thenN ?_
  refine CV.seq ?_
  refine CV.seq ?_
  refine CV.region ?_
  refine LV.step (VAL.move rfl) rfl rfl rfl ?_
  refine LV.by (V.not h10 rfl) rfl rfl rfl fun x15_8 h11 => ?_
  refine LV.done ?_
  refine PV.sub [(0, a0), (2, x2_1), (3, x12_6), (15, x15_8)] ⟨rfl, rfl, rfl, rfl, trivial⟩ ?_
  refine PV.thenN ?_
  refine CV.cond h11 rfl (fun e h12 => ?_) (fun e h12 => ?_)
  ·
   clear h4 h8 h9 h10 h11
   subst e
   refine CV.seq ?_
   refine CV.region ?_
   refine LV.step (VAL.move rfl) rfl rfl rfl ?_
   refine LV.call hS h12 (g69_ok _ _ _ _ ) hP rfl rfl rfl rfl fun x17_9 T4 n4 h13 ρ its hS => ?_
   refine LV.stA hS h13 rfl rfl rfl Trf.agg35 rfl rfl rfl fun T5 its h14 hS => ?_
   refine LV.done ?_
   refine PV.sub [(2, x2_1), (3, x12_6)] ⟨rfl, rfl, trivial⟩ ?_
   refine PV.thenN ?_
   refine CV.ret ?_
   refine PV.thenR ?_
   refine PV.ldA (x := .tmp 2) (t := 35) hS h14 rfl Trf.agg35 fun x2_10 h15 hVx2_10 => ?_
   cases h15
   exact PV.ret (by simp) Tryd.results40 hS (RS.cell hVx2_10 RS.nil) rfl
  ·
   clear h4 h8 h9 h10 h11
   subst e
   refine CV.skip ?_
   refine PV.thenN ?_
   refine CV.seq ?_
   refine CV.seq ?_
   refine CV.region ?_
   refine LV.step (VAL.move rfl) rfl rfl rfl ?_
   refine LV.by (V.bin0 h12 rfl rfl) rfl rfl rfl fun x19_11 h16 => ?_
   refine LV.step (VAL.move rfl) rfl rfl rfl ?_
   refine LV.seam (E := envE) (ro := ro) (ρ0 := ρ0) (τ := AV × AV × AV × HT × Nat) (fun t => [(2, t.1), (3, t.2.1), (26, t.2.2.1)]) (fun t => t.2.2.2.1) (fun t => t.2.2.2.2) (fun t => g40_k1 ro  t.1 t.2.1 t.2.2.1 t.2.2.2.1 t.2.2.2.2 = .ok r T' n') 6 ?_ ?_
   ·
    rcases condK_inv h16 with ⟨e, h41⟩ | ⟨e, h41⟩
    ·
     clear h12 h16
     subst e
     refine LV.skip rfl rfl rfl ?_
     refine LV.skip rfl rfl rfl ?_
     refine LV.skip rfl rfl rfl ?_
     refine LV.skip rfl rfl rfl ?_
     refine LV.skip rfl rfl rfl ?_
     refine LV.step (VAL.pure rfl) rfl rfl rfl ?_
     exact LV.atSeam (x2_1, x12_6, (.lit (.bool true)), T1, n1) hS h41 ⟨rfl, rfl, rfl, trivial⟩
    ·
     clear h12 h16
     subst e
     refine LV.step (VAL.move rfl) rfl rfl rfl ?_
     refine LV.by (V.nc h41 rfl) rfl rfl rfl fun x22_30 h42 => ?_
     refine LV.by (V.fa h42 rfl Trf.fo101_1) rfl rfl rfl fun x23_31 h43 => ?_
     refine LV.by (V.ld hS h43 rfl Trf.one29) rfl rfl rfl fun x24_32 h44 => ?_
     refine LV.by (V.bin0 h44 rfl rfl) rfl rfl rfl fun x25_33 h45 => ?_
     refine LV.step (VAL.pure rfl) rfl rfl rfl ?_
     exact LV.atSeam (x2_1, x12_6, x25_33, T1, n1) hS h45 ⟨rfl, rfl, rfl, trivial⟩
   ·
    rintro ⟨y2, y3, y26, T6, n6⟩ ρ its hQ h17
    have hS : EY.ST w0 base envE ρ0 ρ T6 ro n6 its := hQ
    clear hQ
    change LV _ _ _ _ _ _ _ _ _ [(2, y2), (3, y3), (26, y26)] _
    have h18 : g40_k1 ro y2 y3 y26 T6 n6 = .ok r T' n' := h17
    unfold g40_k1 at h18
    clear h12 h16 h17
    refine LV.done ?_
    refine PV.sub [(2, y2), (3, y3), (26, y26)] ⟨rfl, rfl, rfl, trivial⟩ ?_
    refine PV.thenN ?_
    refine CV.cond h18 rfl (fun e h19 => ?_) (fun e h19 => ?_)
    ·
     clear h18
     subst e
     refine CV.seq ?_
     refine CV.region ?_
     refine LV.call hS h19 (g46_ok _ _ _ _ ) hP rfl rfl rfl rfl fun x27_12 T7 n7 h20 ρ its hS => ?_
     refine LV.stA hS h20 rfl rfl rfl Trf.agg35 rfl rfl rfl fun T8 its h21 hS => ?_
     refine LV.done ?_
     refine PV.sub [(2, y2), (3, y3)] ⟨rfl, rfl, trivial⟩ ?_
     refine PV.thenN ?_
     refine CV.ret ?_
     refine PV.thenR ?_
     refine PV.ldA (x := .tmp 2) (t := 35) hS h21 rfl Trf.agg35 fun x2_13 h22 hVx2_13 => ?_
     cases h22
     exact PV.ret (by simp) Tryd.results40 hS (RS.cell hVx2_13 RS.nil) rfl
    ·
     clear h18
     subst e
     refine CV.skip ?_
     refine PV.thenN ?_
     refine CV.seq ?_
     refine CV.region ?_
     refine LV.step (VAL.move rfl) rfl rfl rfl ?_
     refine LV.by (V.nc h19 rfl) rfl rfl rfl fun x29_14 h23 => ?_
     refine LV.by (V.fa h23 rfl Trf.fo101_1) rfl rfl rfl fun x30_15 h24 => ?_
     refine LV.by (V.ld hS h24 rfl Trf.one29) rfl rfl rfl fun x31_16 h25 => ?_
     refine LV.call hS h25 (g69_ok _ _ _ _ ) hP rfl rfl rfl rfl fun x32_17 T9 n9 h26 ρ its hS => ?_
     refine LV.alloc hS h26 rfl Trf.zr35 rfl rfl rfl fun x5_18 T10 n10 h27 ρ its hS hdr => ?_
     refine LV.stA hS h27 rfl rfl rfl Trf.agg35 rfl rfl rfl fun T11 its h28 hS => ?_
     refine LV.done ?_
     refine PV.sub [(2, y2), (3, y3), (5, x5_18)] ⟨rfl, rfl, rfl, trivial⟩ ?_
     refine PV.thenN ?_
     refine CV.seq ?_
     refine CV.regionM [(0, .anywhere), (1, .held), (2, .anywhere), (3, .held), (4, .anywhere), (5, .held), (6, .anywhere), (7, .anywhere), (8, .anywhere), (9, .held), (10, .held), (11, .alone)] rfl (fun c a a' w hd hq => PanicOk.root (P := Tryd.prog) (fn := Tryd.f40) (w0 := w0) (base := base) (E := envE) (ro := ro) (r := r) (T' := T') (n' := n') (ρ0 := ρ0) c a a' w hd hq) (by kernel_rfl) ?_
     refine MV.lift0 (i := 0) rfl (V.fa h28 rfl Trf.fo35_0) rfl rfl rfl fun x33_19 h29 => ?_
     refine MV.lift1 (i := 1) rfl (fun _ z => z) (V.ld hS h29 rfl Trf.one3) rfl rfl rfl [] (by kernel_rfl) fun x34_20 h30 => ?_
     refine MV.lift0 (i := 2) rfl (V.fa h30 rfl Trf.fo35_1) rfl rfl rfl fun x35_21 h31 => ?_
     refine MV.lift1 (i := 3) rfl (fun _ z => z) (V.ld hS h31 rfl Trf.one4) rfl rfl rfl [1] (by kernel_rfl) fun x36_22 h32 => ?_
     refine MV.lift0 (i := 4) rfl (V.fa h32 rfl Trf.fo35_2) rfl rfl rfl fun x37_23 h33 => ?_
     refine MV.lift1 (i := 5) rfl (fun _ z => z) (V.ld hS h33 rfl Trf.one3) rfl rfl rfl [3, 1] (by kernel_rfl) fun x38_24 h34 => ?_
     refine MV.step0 (i := 6) rfl (VAL.move rfl) rfl rfl rfl ?_
     refine MV.lift0 (i := 7) rfl (V.nc h34 rfl) rfl rfl rfl fun x40_25 h35 => ?_
     refine MV.lift0 (i := 8) rfl (V.fa h35 rfl Trf.fo101_0) rfl rfl rfl fun x41_26 h36 => ?_
     refine MV.lift1 (i := 9) rfl (fun _ z => z) (V.ld hS h36 rfl Trf.one9) rfl rfl rfl [5, 3, 1] (by kernel_rfl) fun x42_27 h37 => ?_
     refine MV.lift1 (i := 10) rfl (fun _ z => z) (V.bld h37 rfl) rfl rfl rfl [] (by kernel_rfl) fun x43_28 h38 => ?_
     refine MV.force (i := 11) rfl ?_
     refine LV.stA hS h38 rfl rfl rfl Trf.agg35 rfl rfl rfl fun T12 its h39 hS => ?_
     refine LV.nextM [] (by kernel_rfl) (fun z => absurd rfl z) ?_
     refine MV.sub [(2, y2)] ⟨rfl, trivial⟩ ?_
     refine MV.done ?_
     refine PV.thenN ?_
     refine CV.ret ?_
     refine PV.ldA (x := .tmp 2) (t := 35) hS h39 rfl Trf.agg35 fun x2_29 h40 hVx2_29 => ?_
     cases h40
     exact PV.ret (by simp) Tryd.results40 hS (RS.cell hVx2_29 RS.nil) rfl
noncomputable def g17 (ro : List HT) (a0 a1 : AV) (T : HT) (nx : Nat) : R :=
 boxK 170001 T nx a1 35 fun x3_1 T1 n1 =>
 ldAK 170004 T1 ro x3_1 5 fun x7_2 =>
 callQ 170005 (g40 (T1 :: ro) a0 .nil n1) fun x6_3 =>
 callK (g39 ro x6_3 x7_2 T1 n1) fun x8_4 T2 n2 =>
 .ok (.val x8_4) T2 n2
theorem g17_ok (ro : List HT) (a0 a1 : AV) (T : HT) (nx : Nat) : GOk Tryd.prog envE 17 [a0, a1] ro T nx (g17 ro a0 a1 T nx) := by
 refine GOk.of_body Tryd.func17 rfl Tryd.ntmps17 (by kernel_rfl) rfl fun r T' n' h1 w0 base ρ0 its hS hP => ?_
 unfold g17 at h1
 refine CV.sub [(0, a0), (1, a1)] ⟨rfl, rfl, trivial⟩ ?_
 refine CV.seq ?_
 refine CV.region ?_
 refine LV.box hS h1 rfl rfl rfl rfl rfl fun x3_1 T1 n1 h2 ρ its hS hdr => ?_
 refine LV.step (VAL.assign rfl) rfl rfl rfl ?_
 refine LV.done ?_
 refine PV.sub [(0, a0), (3, x3_1), (4, (.lit (.bool false)))] ⟨rfl, rfl, rfl, trivial⟩ ?_
 refine PV.thenN ?_
 refine CV.seq ?_
 refine CV.regionM [(0, .anywhere), (2, .held), (1, .alone), (3, .alone), (4, .alone)] rfl (fun c a a' w hd hq => PanicOk.root (P := Tryd.prog) (fn := Tryd.f17) (w0 := w0) (base := base) (E := envE) (ro := ro) (r := r) (T' := T') (n' := n') (ρ0 := ρ0) c a a' w hd hq) (by kernel_rfl) ?_
 refine MV.step0 (i := 0) rfl (VAL.move rfl) rfl rfl rfl ?_
 refine MV.lift1 (i := 2) rfl (fun _ z => z) (V.ldA hS h2 rfl Trf.agg35) rfl rfl rfl [] (by kernel_rfl) fun x7_2 h3 => ?_
 refine MV.force (i := 1) rfl ?_
 refine LV.callQ hS h3 (g40_ok _ _ _ _ ) rfl rfl rfl rfl fun x6_3 h4 => ?_
 refine LV.nextM [2] (by kernel_rfl) (fun _ => fun _ z => z) ?_
 refine MV.force (i := 3) rfl ?_
 refine LV.call hS h4 (g39_ok _ _ _ _ _ ) hP rfl rfl rfl rfl fun x8_4 T2 n2 h5 ρ its hS => ?_
 refine LV.nextM [] (by kernel_rfl) (fun z => absurd rfl z) ?_
 refine MV.force (i := 4) rfl ?_
 refine LV.step (VAL.assign rfl) rfl rfl rfl ?_
 refine LV.nextM [] (by kernel_rfl) (fun z => absurd rfl z) ?_
 refine MV.sub [(4, x8_4)] ⟨rfl, trivial⟩ ?_
 refine MV.done ?_
 refine PV.thenN ?_
 refine CV.ret ?_
 cases h5
 exact PV.ret (by simp) Tryd.results17 hS (RS.tmp rfl RS.nil) rfl
noncomputable def g3_k4 (c1 c2 : Value) (ro : List HT) (y4 y102 : AV) (T14 : HT) (n14 : Nat) : R :=
 .ok (.val y102) T14 n14
noncomputable def g3_k3 (c1 c2 : Value) (ro : List HT) (y4 y5 y6 y10 : AV) (T13 : HT) (n13 : Nat) : R :=
 condK 30058 y5
 (
  callK (g14 ro y6 T13 n13) fun x98_23 T15 n15 =>
  callK (g18 ro (.lit (.int .i64 (.ofNat 113))) y10 T15 n15) fun x100_24 T16 n16 =>
  callK (g17 ro x98_23 x100_24 T16 n16) fun x101_25 T17 n17 =>
  g3_k4 c1 c2 ro y4 x101_25 T17 n17
 )
 (
  g3_k4 c1 c2 ro y4 (.lit (.bool false)) T13 n13
 )
noncomputable def g3_k2 (c1 c2 : Value) (ro : List HT) (y0 y4 y5 y6 y7 y48 : AV) (T12 : HT) (n12 : Nat) : R :=
 condK 30048 y48
 (
  .ok (.val (.lit (.bool false))) T12 n12
 )
 (
  bin0 Tryd.prog .mul 3 (.const (.int .i64 (.ofNat 2))) (.tmp 49) 30051 (.lit (.int .i64 (.ofNat 2))) y0 fun x50_22 =>
  callK (.ok (.val (.lit c2)) T12 n12) fun x53_26 T18 n18 =>
  eqK Tryd.prog 3 (.tmp 53) (.const (.int .i64 (.ofNat 0))) 30068 x53_26 (.lit (.int .i64 (.ofNat 0))) fun x60_27 =>
  condK 30070 x60_27
  (
   iaK 30072 y6 (.lit (.int .i64 (.ofNat 1))) 5 fun x62_28 =>
   faK 30073 x62_28 4 fun x63_29 =>
   ldK 30074 T18 ro x63_29 fun x64_30 =>
   iaK 30075 x64_30 (.lit (.int .i64 (.ofNat 0))) 1 fun x65_31 =>
   stK 30076 T18 x65_31 (.lit (.int .i64 (.ofNat 1))) fun T19 =>
   g3_k3 c1 c2 ro y4 y5 y6 (.lit (.int .i64 (.ofNat 1))) T19 n18
  )
  (
   eqK Tryd.prog 3 (.tmp 53) (.const (.int .i64 (.ofNat 1))) 30078 x53_26 (.lit (.int .i64 (.ofNat 1))) fun x67_32 =>
   condK 30080 x67_32
   (
    callK (g16 ro y7 T18 n18) fun x71_33 T20 n20 =>
    bsK 30085 T20 n20 1 3 1 [(0, (.lit (.int .i64 (.ofNat 1))))] fun x72_34 T21 n21 =>
    appK 30086 T21 ro n21 3 1 8 x71_33 x72_34 fun x73_35 T22 n22 =>
    iaK 30087 y6 x50_22 5 fun x74_36 =>
    faK 30088 x74_36 4 fun x75_37 =>
    stK 30089 T22 x75_37 x73_35 fun T23 =>
    g3_k3 c1 c2 ro y4 y5 y6 x50_22 T23 n22
   )
   (
    eqK Tryd.prog 3 (.tmp 53) (.const (.int .i64 (.ofNat 2))) 30090 x53_26 (.lit (.int .i64 (.ofNat 2))) fun x77_38 =>
    condK 30092 x77_38
    (
     cutLoFK 30096 T18 ro y7 (.lit (.int .i64 (.ofNat 1))) 1 fun x81_39 =>
     iaK 30097 y6 x50_22 5 fun x82_40 =>
     faK 30098 x82_40 4 fun x83_41 =>
     stK 30099 T18 x83_41 x81_39 fun T24 =>
     eqK Tryd.prog 3 (.tmp 84) (.const (.int .i64 (.ofNat 1))) 30101 y0 (.lit (.int .i64 (.ofNat 1))) fun x85_42 =>
     condK 30102 x85_42
     (
      iaK 30105 y6 x50_22 5 fun x88_43 =>
      faK 30106 x88_43 4 fun x89_44 =>
      stK 30107 T24 x89_44 (.lit (.slice none 0 0)) fun T25 =>
      g3_k3 c1 c2 ro y4 y5 y6 x50_22 T25 n18
     )
     (
      g3_k3 c1 c2 ro y4 y5 y6 x50_22 T24 n18
     )
    )
    (
     eqK Tryd.prog 3 (.tmp 53) (.const (.int .i64 (.ofNat 3))) 30108 x53_26 (.lit (.int .i64 (.ofNat 3))) fun x91_45 =>
     condK 30110 x91_45
     (
      iaK 30112 y6 (.lit (.int .i64 (.ofNat 0))) 5 fun x93_46 =>
      faK 30113 x93_46 3 fun x94_47 =>
      stK 30114 T18 x94_47 (.lit (.string ⟨⟨[102, 111, 114]⟩⟩)) fun T26 =>
      g3_k3 c1 c2 ro y4 y5 y6 (.lit (.int .i64 (.ofNat 0))) T26 n18
     )
     (
      iaK 30117 y6 (.lit (.int .i64 (.ofNat 1))) 5 fun x55_48 =>
      faK 30118 x55_48 4 fun x56_49 =>
      ldK 30119 T18 ro x56_49 fun x57_50 =>
      iaK 30120 x57_50 (.lit (.int .i64 (.ofNat 0))) 1 fun x58_51 =>
      stK 30121 T18 x58_51 (.lit (.int .i64 (.negSucc 0))) fun T27 =>
      g3_k3 c1 c2 ro y4 y5 y6 (.lit (.int .i64 (.ofNat 1))) T27 n18
     )
    )
   )
  )
 )
noncomputable def g3_b1 (c1 c2 : Value) (ro : List HT) (lp1 : AV → AV → AV → AV → AV → AV → HT → Nat → R) (y0 y4 y5 y6 y7 y8 : AV) (T3 : HT) (n3 : Nat) : R :=
 ltK Tryd.prog 3 (.tmp 17) (.tmp 18) 30017 y8 y0 fun x19_5 =>
 condK 30018 x19_5
 (
  optK 30020 (bld27 [(0, (.lit (.int .i64 (.ofNat 6)))), (3, (.lit (.string ⟨⟨[120]⟩⟩)))]) fun x23_6 =>
  bin0 Tryd.prog .mul 3 (.const (.int .i64 (.ofNat 2))) (.tmp 24) 30022 (.lit (.int .i64 (.ofNat 2))) y8 fun x25_7 =>
  bsK 30023 T3 n3 1 3 1 [(0, x25_7)] fun x26_8 T4 n4 =>
  optK 30024 (bld27 [(0, (.lit (.int .i64 (.ofNat 35)))), (4, x26_8)]) fun x27_9 =>
  bsK 30025 T4 n4 2 27 5 [(0, x23_6), (1, x27_9)] fun x28_10 T5 n5 =>
  appK 30026 T5 ro n5 27 5 64 y6 x28_10 fun x29_11 T6 n6 =>
  bin0 Tryd.prog .mul 3 (.const (.int .i64 (.ofNat 2))) (.tmp 31) 30030 (.lit (.int .i64 (.ofNat 2))) y8 fun x32_12 =>
  addK Tryd.prog 3 (.tmp 32) (.const (.int .i64 (.ofNat 1))) 30031 x32_12 (.lit (.int .i64 (.ofNat 1))) fun x33_13 =>
  bsK 30032 T6 n6 1 3 1 [(0, x33_13)] fun x34_14 T7 n7 =>
  appK 30033 T7 ro n7 3 1 8 y7 x34_14 fun x35_15 T8 n8 =>
  addK Tryd.prog 3 (.tmp 20) (.const (.int .i64 (.ofNat 1))) 30036 y8 (.lit (.int .i64 (.ofNat 1))) fun x21_16 =>
  lp1 y0 y4 y5 x29_11 x35_15 x21_16 T8 n8
 )
 (
  optK 30040 (bld27 [(0, (.lit (.int .i64 (.ofNat 47)))), (4, y7)]) fun x38_17 =>
  bsK 30041 T3 n3 1 27 5 [(0, x38_17)] fun x39_18 T9 n9 =>
  appK 30042 T9 ro n9 27 5 64 y6 x39_18 fun x40_19 T10 n10 =>
  callK (g14 ro x40_19 T10 n10) fun x42_20 T11 n11 =>
  bin0 Tryd.prog .neq 29 (.tmp 42) (.const (.nilIface)) 30046 x42_20 (.lit (.nilIface)) fun x43_21 =>
  condK 30123 x43_21
  (
   g3_k2 c1 c2 ro y0 y4 y5 x40_19 y7 (.lit (.bool true)) T11 n11
  )
  (
   callK (g15 ro x40_19 T11 n11) fun x46_52 T28 n28 =>
   neK Tryd.prog 3 (.tmp 46) (.const (.int .i64 (.ofNat 3))) 30127 x46_52 (.lit (.int .i64 (.ofNat 3))) fun x47_53 =>
   g3_k2 c1 c2 ro y0 y4 y5 x40_19 y7 x47_53 T28 n28
  )
 )
noncomputable def g3_l1 (c1 c2 : Value) (ro : List HT) (fuel : Nat) : AV → AV → AV → AV → AV → AV → HT → Nat → R :=
  Nat.rec (motive := fun _ => AV → AV → AV → AV → AV → AV → HT → Nat → R) (fun _ _ _ _ _ _ _ _ => .bad 30129) (fun _ lp => g3_b1 c1 c2 ro lp) fuel
noncomputable def g3 (c1 c2 : Value) (ro : List HT) (q0 q1 : AV) (T : HT) (nx : Nat) : R :=
 callK (g12 ro T nx) fun x11_1 T1 n1 =>
 notK 30005 x11_1 fun x13_2 =>
 condK 30006 x13_2
 (
  .ok (.val (.lit (.bool false))) T1 n1
 )
 (
  callK (.ok (.val (.lit c1)) T1 n1) fun x15_3 T2 n2 =>
  addK Tryd.prog 3 (.tmp 15) (.const (.int .i64 (.ofNat 1))) 30010 x15_3 (.lit (.int .i64 (.ofNat 1))) fun x16_4 =>
  g3_l1 c1 c2 ro 100000 x16_4 (.lit (.bool false)) x11_1 (.lit (.slice none 0 0)) (.lit (.slice none 0 0)) (.lit (.int .i64 (.ofNat 0))) T2 n2
 )
theorem g3_ok (c1 c2 : Value) (q0 q1 : AV) (hC1 : ∀ ro T nx, GOk Tryd.prog envE 13 [q0, .lit (.int .i64 (.ofNat 20))] ro T nx (.ok (.val (.lit c1)) T nx)) (hC2 : ∀ ro T nx, GOk Tryd.prog envE 13 [q1, .lit (.int .i64 (.ofNat 5))] ro T nx (.ok (.val (.lit c2)) T nx)) (ro : List HT) (T : HT) (nx : Nat) : GOk Tryd.prog envE 3 [q0, q1] ro T nx (g3 c1 c2 ro q0 q1 T nx) := by
 refine GOk.of_body Tryd.func3 rfl Tryd.ntmps3 (by kernel_rfl) rfl fun r T' n' h1 w0 base ρ0 its hS hP => ?_
 unfold g3 at h1
 refine CV.sub [(0, q0), (1, q1)] ⟨rfl, rfl, trivial⟩ ?_
 refine CV.seq ?_
 refine CV.region ?_
 refine LV.step (VAL.assign rfl) rfl rfl rfl ?_
 refine LV.done ?_
 refine PV.sub [(0, q0), (1, q1), (4, (.lit (.bool false)))] ⟨rfl, rfl, rfl, trivial⟩ ?_
 refine PV.thenN ?_
 refine CV.seq ?_
 refine CV.region ?_
 refine LV.call hS h1 (g12_ok _ _ _ ) hP rfl rfl rfl rfl fun x11_1 T1 n1 h2 ρ its hS => ?_
 refine LV.step (VAL.assign rfl) rfl rfl rfl ?_
 refine LV.done ?_
 refine PV.sub [(0, q0), (1, q1), (4, (.lit (.bool false))), (5, x11_1)] ⟨rfl, rfl, rfl, rfl, trivial⟩ ?_
 refine PV.thenN ?_
 refine CV.seq ?_
 refine CV.seq ?_
 refine CV.region ?_
 refine LV.step (VAL.move rfl) rfl rfl rfl ?_
 refine LV.by (V.not h2 rfl) rfl rfl rfl fun x13_2 h3 => ?_
 refine LV.done ?_
 refine PV.sub [(0, q0), (1, q1), (4, (.lit (.bool false))), (5, x11_1), (13, x13_2)] ⟨rfl, rfl, rfl, rfl, rfl, trivial⟩ ?_
 refine PV.thenN ?_
 refine CV.cond h3 rfl (fun e h4 => ?_) (fun e h4 => ?_)
 ·
  clear h1 h2 h3
  subst e
  refine CV.seq ?_
  refine CV.region ?_
  refine LV.step (VAL.assign rfl) rfl rfl rfl ?_
  refine LV.done ?_
  refine PV.sub [(0, q0), (1, q1), (4, (.lit (.bool false))), (5, x11_1)] ⟨rfl, rfl, rfl, rfl, trivial⟩ ?_
  refine PV.thenN ?_
  refine CV.ret ?_
  refine PV.thenR ?_
  cases h4
  exact PV.ret (by simp) Tryd.results3 hS (RS.tmp rfl RS.nil) rfl
 ·
  clear h1 h2 h3
  subst e
  refine CV.skip ?_
  refine PV.thenN ?_
  refine CV.seq ?_
  refine CV.region ?_
  refine LV.step (VAL.move rfl) rfl rfl rfl ?_
  refine LV.call hS h4 (hC1 _ _ _) hP rfl rfl rfl rfl fun x15_3 T2 n2 h5 ρ its hS => ?_
  refine LV.by (V.add h5 rfl rfl) rfl rfl rfl fun x16_4 h6 => ?_
  refine LV.step (VAL.assign rfl) rfl rfl rfl ?_
  refine LV.done ?_
  refine PV.sub [(0, x16_4), (1, q1), (4, (.lit (.bool false))), (5, x11_1)] ⟨rfl, rfl, rfl, rfl, trivial⟩ ?_
  refine PV.thenN ?_
  refine CV.seq ?_
  refine CV.region ?_
  refine LV.step (VAL.assign rfl) rfl rfl rfl ?_
  refine LV.done ?_
  refine PV.sub [(0, x16_4), (1, q1), (4, (.lit (.bool false))), (5, x11_1), (6, (.lit (.slice none 0 0)))] ⟨rfl, rfl, rfl, rfl, rfl, trivial⟩ ?_
  refine PV.thenN ?_
  refine CV.seq ?_
  refine CV.region ?_
  refine LV.step (VAL.assign rfl) rfl rfl rfl ?_
  refine LV.done ?_
  refine PV.sub [(0, x16_4), (1, q1), (4, (.lit (.bool false))), (5, x11_1), (6, (.lit (.slice none 0 0))), (7, (.lit (.slice none 0 0)))] ⟨rfl, rfl, rfl, rfl, rfl, rfl, trivial⟩ ?_
  refine PV.thenN ?_
  refine CV.seq ?_
  refine CV.seq ?_
  refine CV.region ?_
  refine LV.step (VAL.assign rfl) rfl rfl rfl ?_
  refine LV.done ?_
  refine PV.sub [(0, x16_4), (1, q1), (4, (.lit (.bool false))), (5, x11_1), (6, (.lit (.slice none 0 0))), (7, (.lit (.slice none 0 0))), (8, (.lit (.int .i64 (.ofNat 0))))] ⟨rfl, rfl, rfl, rfl, rfl, rfl, rfl, trivial⟩ ?_
  refine PV.thenN ?_
  refine CV.block ?_
  refine CV.loop (E := envE) (ro := ro) (ρ0 := ρ0) (τ := AV × AV × AV × AV × AV × AV × HT × Nat) (fun t => [(0, t.1), (4, t.2.1), (5, t.2.2.1), (6, t.2.2.2.1), (7, t.2.2.2.2.1), (8, t.2.2.2.2.2.1), (1, q1)]) (fun t => t.2.2.2.2.2.2.1) (fun t => t.2.2.2.2.2.2.2) (fun f t => g3_l1 c1 c2 ro f t.1 t.2.1 t.2.2.1 t.2.2.2.1 t.2.2.2.2.1 t.2.2.2.2.2.1 t.2.2.2.2.2.2.1 t.2.2.2.2.2.2.2 = .ok r T' n') 100000 (x16_4, (.lit (.bool false)), x11_1, (.lit (.slice none 0 0)), (.lit (.slice none 0 0)), (.lit (.int .i64 (.ofNat 0))), T2, n2) hS h6 ⟨rfl, rfl, rfl, rfl, rfl, rfl, rfl, trivial⟩ ?_
  rintro (_ | f1) ⟨y0, y4, y5, y6, y7, y8, T3, n3⟩ ρ its hQ h7
  · cases h7
  have hS : EY.ST w0 base envE ρ0 ρ T3 ro n3 its := hQ
  clear hQ
  change CV _ _ _ _ _ _ _ _ [(0, y0), (4, y4), (5, y5), (6, y6), (7, y7), (8, y8), (1, q1)] _
  have h8 : g3_b1 c1 c2 ro (g3_l1 c1 c2 ro f1) y0 y4 y5 y6 y7 y8 T3 n3 = .ok r T' n' := h7
  unfold g3_b1 at h8
  clear h4 h5 h6 h7
  refine CV.seq ?_
  refine CV.seq ?_
  refine CV.region ?_
  refine LV.step (VAL.move rfl) rfl rfl rfl ?_
  refine LV.step (VAL.move rfl) rfl rfl rfl ?_
  refine LV.by (V.lt h8 rfl rfl) rfl rfl rfl fun x19_5 h9 => ?_
  refine LV.done ?_
  refine PV.sub [(0, y0), (1, q1), (4, y4), (5, y5), (6, y6), (7, y7), (8, y8), (19, x19_5)] ⟨rfl, rfl, rfl, rfl, rfl, rfl, rfl, rfl, trivial⟩ ?_
  refine PV.thenN ?_
  refine CV.cond h9 rfl (fun e h10 => ?_) (fun e h10 => ?_)
  ·
   clear h8 h9
   subst e
   refine CV.skip ?_
   refine PV.thenN ?_
   refine CV.seq ?_
   refine CV.block ?_
   refine CV.seq ?_
   refine CV.region ?_
   refine LV.step (VAL.move rfl) rfl rfl rfl ?_
   refine LV.by (V.bld h10 rfl) rfl rfl rfl fun x23_6 h11 => ?_
   refine LV.step (VAL.move rfl) rfl rfl rfl ?_
   refine LV.by (V.bin0 h11 rfl rfl) rfl rfl rfl fun x25_7 h12 => ?_
   refine LV.bslice hS h12 rfl rfl Trf.el25 rfl rfl rfl rfl fun x26_8 T4 n4 h13 ρ its hS hdr => ?_
   refine LV.by (V.bld h13 rfl) rfl rfl rfl fun x27_9 h14 => ?_
   refine LV.bslice hS h14 rfl rfl Trf.el24 rfl rfl rfl rfl fun x28_10 T5 n5 h15 ρ its hS hdr => ?_
   refine LV.app hS h15 rfl rfl rfl rfl Trf.el24 rfl rfl rfl fun x29_11 T6 n6 h16 ρ its hS => ?_
   refine LV.step (VAL.assign rfl) rfl rfl rfl ?_
   refine LV.done ?_
   refine PV.sub [(0, y0), (1, q1), (4, y4), (5, y5), (6, x29_11), (7, y7), (8, y8)] ⟨rfl, rfl, rfl, rfl, rfl, rfl, rfl, trivial⟩ ?_
   refine PV.thenN ?_
   refine CV.region ?_
   refine LV.step (VAL.move rfl) rfl rfl rfl ?_
   refine LV.step (VAL.move rfl) rfl rfl rfl ?_
   refine LV.by (V.bin0 h16 rfl rfl) rfl rfl rfl fun x32_12 h17 => ?_
   refine LV.by (V.add h17 rfl rfl) rfl rfl rfl fun x33_13 h18 => ?_
   refine LV.bslice hS h18 rfl rfl Trf.el25 rfl rfl rfl rfl fun x34_14 T7 n7 h19 ρ its hS hdr => ?_
   refine LV.app hS h19 rfl rfl rfl rfl Trf.el25 rfl rfl rfl fun x35_15 T8 n8 h20 ρ its hS => ?_
   refine LV.step (VAL.assign rfl) rfl rfl rfl ?_
   refine LV.done ?_
   refine PV.sub [(0, y0), (1, q1), (4, y4), (5, y5), (6, x29_11), (7, x35_15), (8, y8)] ⟨rfl, rfl, rfl, rfl, rfl, rfl, rfl, trivial⟩ ?_
   refine PV.blockN ?_
   refine PV.thenN ?_
   refine CV.region ?_
   refine LV.step (VAL.move rfl) rfl rfl rfl ?_
   refine LV.by (V.add h20 rfl rfl) rfl rfl rfl fun x21_16 h21 => ?_
   refine LV.step (VAL.assign rfl) rfl rfl rfl ?_
   refine LV.done ?_
   refine PV.sub [(0, y0), (1, q1), (4, y4), (5, y5), (6, x29_11), (7, x35_15), (8, x21_16)] ⟨rfl, rfl, rfl, rfl, rfl, rfl, rfl, trivial⟩ ?_
   exact PV.atSeam (τ := Nat × AV × AV × AV × AV × AV × AV × HT × Nat) (f1, y0, y4, y5, x29_11, x35_15, x21_16, T8, n8) hS ⟨Nat.lt_succ_self _, h21⟩ ⟨rfl, rfl, rfl, rfl, rfl, rfl, rfl, trivial⟩
  ·
   clear h8 h9
   subst e
   refine CV.exit ?_
   refine PV.thenE ?_
   refine PV.thenE ?_
   refine PV.blockE ?_
   refine PV.thenN ?_
   refine CV.seq ?_
   refine CV.region ?_
   refine LV.step (VAL.move rfl) rfl rfl rfl ?_
   refine LV.step (VAL.move rfl) rfl rfl rfl ?_
   refine LV.by (V.bld h10 rfl) rfl rfl rfl fun x38_17 h22 => ?_
   refine LV.bslice hS h22 rfl rfl Trf.el24 rfl rfl rfl rfl fun x39_18 T9 n9 h23 ρ its hS hdr => ?_
   refine LV.app hS h23 rfl rfl rfl rfl Trf.el24 rfl rfl rfl fun x40_19 T10 n10 h24 ρ its hS => ?_
   refine LV.step (VAL.assign rfl) rfl rfl rfl ?_
   refine LV.done ?_
   refine PV.sub [(0, y0), (1, q1), (4, y4), (5, y5), (6, x40_19), (7, y7)] ⟨rfl, rfl, rfl, rfl, rfl, rfl, trivial⟩ ?_
   refine PV.thenN ?_
   refine CV.seq ?_
   refine CV.seq ?_
   refine CV.region ?_
   refine LV.step (VAL.move rfl) rfl rfl rfl ?_
   refine LV.call hS h24 (g14_ok _ _ _ _ ) hP rfl rfl rfl rfl fun x42_20 T11 n11 h25 ρ its hS => ?_
   refine LV.by (V.bin0 h25 rfl rfl) rfl rfl rfl fun x43_21 h26 => ?_
   refine LV.step (VAL.move rfl) rfl rfl rfl ?_
   refine LV.seam (E := envE) (ro := ro) (ρ0 := ρ0) (τ := AV × AV × AV × AV × AV × AV × HT × Nat) (fun t => [(0, t.1), (4, t.2.1), (5, t.2.2.1), (6, t.2.2.2.1), (7, t.2.2.2.2.1), (48, t.2.2.2.2.2.1), (1, q1)]) (fun t => t.2.2.2.2.2.2.1) (fun t => t.2.2.2.2.2.2.2) (fun t => g3_k2 c1 c2 ro  t.1 t.2.1 t.2.2.1 t.2.2.2.1 t.2.2.2.2.1 t.2.2.2.2.2.1 t.2.2.2.2.2.2.1 t.2.2.2.2.2.2.2 = .ok r T' n') 4 ?_ ?_
   ·
    rcases condK_inv h26 with ⟨e, h76⟩ | ⟨e, h76⟩
    ·
     clear h10 h22 h23 h24 h25 h26
     subst e
     refine LV.skip rfl rfl rfl ?_
     refine LV.skip rfl rfl rfl ?_
     refine LV.skip rfl rfl rfl ?_
     refine LV.step (VAL.pure rfl) rfl rfl rfl ?_
     exact LV.atSeam (y0, y4, y5, x40_19, y7, (.lit (.bool true)), T11, n11) hS h76 ⟨rfl, rfl, rfl, rfl, rfl, rfl, rfl, trivial⟩
    ·
     clear h10 h22 h23 h24 h25 h26
     subst e
     refine LV.step (VAL.move rfl) rfl rfl rfl ?_
     refine LV.call hS h76 (g15_ok _ _ _ _ ) hP rfl rfl rfl rfl fun x46_52 T28 n28 h77 ρ its hS => ?_
     refine LV.by (V.ne h77 rfl rfl) rfl rfl rfl fun x47_53 h78 => ?_
     refine LV.step (VAL.pure rfl) rfl rfl rfl ?_
     exact LV.atSeam (y0, y4, y5, x40_19, y7, x47_53, T28, n28) hS h78 ⟨rfl, rfl, rfl, rfl, rfl, rfl, rfl, trivial⟩
   ·
    rintro ⟨y0, y4, y5, y6, y7, y48, T12, n12⟩ ρ its hQ h27
    have hS : EY.ST w0 base envE ρ0 ρ T12 ro n12 its := hQ
    clear hQ
    change LV _ _ _ _ _ _ _ _ _ [(0, y0), (4, y4), (5, y5), (6, y6), (7, y7), (48, y48), (1, q1)] _
    have h28 : g3_k2 c1 c2 ro y0 y4 y5 y6 y7 y48 T12 n12 = .ok r T' n' := h27
    unfold g3_k2 at h28
    clear h10 h22 h23 h24 h25 h26 h27
    refine LV.done ?_
    refine PV.sub [(0, y0), (1, q1), (4, y4), (5, y5), (6, y6), (7, y7), (48, y48)] ⟨rfl, rfl, rfl, rfl, rfl, rfl, rfl, trivial⟩ ?_
    refine PV.thenN ?_
    refine CV.cond h28 rfl (fun e h29 => ?_) (fun e h29 => ?_)
    ·
     clear h28
     subst e
     refine CV.seq ?_
     refine CV.region ?_
     refine LV.step (VAL.assign rfl) rfl rfl rfl ?_
     refine LV.done ?_
     refine PV.sub [(0, y0), (1, q1), (4, (.lit (.bool false))), (5, y5), (6, y6), (7, y7)] ⟨rfl, rfl, rfl, rfl, rfl, rfl, trivial⟩ ?_
     refine PV.thenN ?_
     refine CV.ret ?_
     refine PV.thenR ?_
     cases h29
     exact PV.ret (by simp) Tryd.results3 hS (RS.tmp rfl RS.nil) rfl
    ·
     clear h28
     subst e
     refine CV.skip ?_
     refine PV.thenN ?_
     refine CV.seq ?_
     refine CV.region ?_
     refine LV.step (VAL.move rfl) rfl rfl rfl ?_
     refine LV.by (V.bin0 h29 rfl rfl) rfl rfl rfl fun x50_22 h30 => ?_
     refine LV.step (VAL.assign rfl) rfl rfl rfl ?_
     refine LV.done ?_
     refine PV.sub [(0, y0), (1, q1), (4, y4), (5, y5), (6, y6), (7, y7), (9, x50_22)] ⟨rfl, rfl, rfl, rfl, rfl, rfl, rfl, trivial⟩ ?_
     refine PV.thenN ?_
     refine CV.seq ?_
     refine CV.region ?_
     refine LV.step (VAL.move rfl) rfl rfl rfl ?_
     refine LV.step (VAL.assign rfl) rfl rfl rfl ?_
     refine LV.done ?_
     refine PV.sub [(0, y0), (1, q1), (4, y4), (5, y5), (6, y6), (7, y7), (9, x50_22), (10, x50_22)] ⟨rfl, rfl, rfl, rfl, rfl, rfl, rfl, rfl, trivial⟩ ?_
     refine PV.thenN ?_
     refine CV.seam (E := envE) (ro := ro) (ρ0 := ρ0) (τ := AV × AV × AV × AV × HT × Nat) (fun t => [(4, t.1), (5, t.2.1), (6, t.2.2.1), (10, t.2.2.2.1)]) (fun t => t.2.2.2.2.1) (fun t => t.2.2.2.2.2) (fun t => g3_k3 c1 c2 ro  t.1 t.2.1 t.2.2.1 t.2.2.2.1 t.2.2.2.2.1 t.2.2.2.2.2 = .ok r T' n') ?_ ?_
     ·
      refine CV.seq ?_
      refine CV.region ?_
      refine LV.step (VAL.move rfl) rfl rfl rfl ?_
      refine LV.call hS h30 (hC2 _ _ _) hP rfl rfl rfl rfl fun x53_26 T18 n18 h39 ρ its hS => ?_
      refine LV.done ?_
      refine PV.sub [(0, y0), (4, y4), (5, y5), (6, y6), (7, y7), (9, x50_22), (10, x50_22), (53, x53_26)] ⟨rfl, rfl, rfl, rfl, rfl, rfl, rfl, rfl, trivial⟩ ?_
      refine PV.thenN ?_
      refine CV.block ?_
      refine CV.seq ?_
      refine CV.region ?_
      refine LV.by (V.eq h39 rfl rfl) rfl rfl rfl fun x60_27 h40 => ?_
      refine LV.step (VAL.assign rfl) rfl rfl rfl ?_
      refine LV.done ?_
      refine PV.sub [(0, y0), (4, y4), (5, y5), (6, y6), (7, y7), (9, x50_22), (10, x50_22), (53, x53_26), (59, x60_27)] ⟨rfl, rfl, rfl, rfl, rfl, rfl, rfl, rfl, rfl, trivial⟩ ?_
      refine PV.thenN ?_
      refine CV.cond h40 rfl (fun e h41 => ?_) (fun e h41 => ?_)
      ·
       clear h29 h30 h39 h40
       subst e
       refine CV.seq ?_
       refine CV.region ?_
       refine LV.step (VAL.move rfl) rfl rfl rfl ?_
       refine LV.by (V.ia h41 rfl rfl Trf.el24) rfl rfl rfl fun x62_28 h42 => ?_
       refine LV.by (V.fa h42 rfl Trf.fo27_4) rfl rfl rfl fun x63_29 h43 => ?_
       refine LV.by (V.ld hS h43 rfl Trf.one25) rfl rfl rfl fun x64_30 h44 => ?_
       refine LV.by (V.ia h44 rfl rfl Trf.el25) rfl rfl rfl fun x65_31 h45 => ?_
       refine LV.st hS h45 rfl rfl rfl Trf.siz3 rfl rfl fun T19 its h46 hS => ?_
       refine LV.done ?_
       refine PV.sub [(4, y4), (5, y5), (6, y6), (10, x50_22)] ⟨rfl, rfl, rfl, rfl, trivial⟩ ?_
       refine PV.thenN ?_
       refine CV.region ?_
       refine LV.step (VAL.assign rfl) rfl rfl rfl ?_
       refine LV.done ?_
       refine PV.sub [(4, y4), (5, y5), (6, y6), (10, (.lit (.int .i64 (.ofNat 1))))] ⟨rfl, rfl, rfl, rfl, trivial⟩ ?_
       refine PV.blockN ?_
       exact PV.atSeam (y4, y5, y6, (.lit (.int .i64 (.ofNat 1))), T19, n18) hS h46 ⟨rfl, rfl, rfl, rfl, trivial⟩
      ·
       clear h29 h30 h39 h40
       subst e
       refine CV.seq ?_
       refine CV.region ?_
       refine LV.by (V.eq h41 rfl rfl) rfl rfl rfl fun x67_32 h47 => ?_
       refine LV.step (VAL.assign rfl) rfl rfl rfl ?_
       refine LV.done ?_
       refine PV.sub [(0, y0), (4, y4), (5, y5), (6, y6), (7, y7), (9, x50_22), (10, x50_22), (53, x53_26), (66, x67_32)] ⟨rfl, rfl, rfl, rfl, rfl, rfl, rfl, rfl, rfl, trivial⟩ ?_
       refine PV.thenN ?_
       refine CV.cond h47 rfl (fun e h48 => ?_) (fun e h48 => ?_)
       ·
        clear h41 h47
        subst e
        refine CV.region ?_
        refine LV.step (VAL.move rfl) rfl rfl rfl ?_
        refine LV.step (VAL.move rfl) rfl rfl rfl ?_
        refine LV.step (VAL.move rfl) rfl rfl rfl ?_
        refine LV.call hS h48 (g16_ok _ _ _ _ ) hP rfl rfl rfl rfl fun x71_33 T20 n20 h49 ρ its hS => ?_
        refine LV.bslice hS h49 rfl rfl Trf.el25 rfl rfl rfl rfl fun x72_34 T21 n21 h50 ρ its hS hdr => ?_
        refine LV.app hS h50 rfl rfl rfl rfl Trf.el25 rfl rfl rfl fun x73_35 T22 n22 h51 ρ its hS => ?_
        refine LV.by (V.ia h51 rfl rfl Trf.el24) rfl rfl rfl fun x74_36 h52 => ?_
        refine LV.by (V.fa h52 rfl Trf.fo27_4) rfl rfl rfl fun x75_37 h53 => ?_
        refine LV.st hS h53 rfl rfl rfl Trf.siz25 rfl rfl fun T23 its h54 hS => ?_
        refine LV.done ?_
        refine PV.sub [(4, y4), (5, y5), (6, y6), (10, x50_22)] ⟨rfl, rfl, rfl, rfl, trivial⟩ ?_
        refine PV.blockN ?_
        exact PV.atSeam (y4, y5, y6, x50_22, T23, n22) hS h54 ⟨rfl, rfl, rfl, rfl, trivial⟩
       ·
        clear h41 h47
        subst e
        refine CV.seq ?_
        refine CV.region ?_
        refine LV.by (V.eq h48 rfl rfl) rfl rfl rfl fun x77_38 h55 => ?_
        refine LV.step (VAL.assign rfl) rfl rfl rfl ?_
        refine LV.done ?_
        refine PV.sub [(0, y0), (4, y4), (5, y5), (6, y6), (7, y7), (9, x50_22), (10, x50_22), (53, x53_26), (76, x77_38)] ⟨rfl, rfl, rfl, rfl, rfl, rfl, rfl, rfl, rfl, trivial⟩ ?_
        refine PV.thenN ?_
        refine CV.cond h55 rfl (fun e h56 => ?_) (fun e h56 => ?_)
        ·
         clear h48 h55
         subst e
         refine CV.seq ?_
         refine CV.region ?_
         refine LV.step (VAL.move rfl) rfl rfl rfl ?_
         refine LV.step (VAL.move rfl) rfl rfl rfl ?_
         refine LV.step (VAL.move rfl) rfl rfl rfl ?_
         refine LV.cutLoF hS h56 rfl rfl rfl Trf.el25 rfl rfl rfl fun x81_39 h57 => ?_
         refine LV.by (V.ia h57 rfl rfl Trf.el24) rfl rfl rfl fun x82_40 h58 => ?_
         refine LV.by (V.fa h58 rfl Trf.fo27_4) rfl rfl rfl fun x83_41 h59 => ?_
         refine LV.st hS h59 rfl rfl rfl Trf.siz25 rfl rfl fun T24 its h60 hS => ?_
         refine LV.done ?_
         refine PV.sub [(0, y0), (4, y4), (5, y5), (6, y6), (9, x50_22), (10, x50_22)] ⟨rfl, rfl, rfl, rfl, rfl, rfl, trivial⟩ ?_
         refine PV.thenN ?_
         refine CV.seq ?_
         refine CV.region ?_
         refine LV.step (VAL.move rfl) rfl rfl rfl ?_
         refine LV.by (V.eq h60 rfl rfl) rfl rfl rfl fun x85_42 h61 => ?_
         refine LV.done ?_
         refine PV.sub [(4, y4), (5, y5), (6, y6), (9, x50_22), (10, x50_22), (85, x85_42)] ⟨rfl, rfl, rfl, rfl, rfl, rfl, trivial⟩ ?_
         refine PV.thenN ?_
         refine CV.cond h61 rfl (fun e h62 => ?_) (fun e h62 => ?_)
         ·
          clear h56 h57 h58 h59 h60 h61
          subst e
          refine CV.region ?_
          refine LV.step (VAL.move rfl) rfl rfl rfl ?_
          refine LV.step (VAL.move rfl) rfl rfl rfl ?_
          refine LV.by (V.ia h62 rfl rfl Trf.el24) rfl rfl rfl fun x88_43 h63 => ?_
          refine LV.by (V.fa h63 rfl Trf.fo27_4) rfl rfl rfl fun x89_44 h64 => ?_
          refine LV.st hS h64 rfl rfl rfl Trf.siz25 rfl rfl fun T25 its h65 hS => ?_
          refine LV.done ?_
          refine PV.sub [(4, y4), (5, y5), (6, y6), (10, x50_22)] ⟨rfl, rfl, rfl, rfl, trivial⟩ ?_
          refine PV.blockN ?_
          exact PV.atSeam (y4, y5, y6, x50_22, T25, n18) hS h65 ⟨rfl, rfl, rfl, rfl, trivial⟩
         ·
          clear h56 h57 h58 h59 h60 h61
          subst e
          refine CV.skip ?_
          refine PV.blockN ?_
          exact PV.atSeam (y4, y5, y6, x50_22, T24, n18) hS h62 ⟨rfl, rfl, rfl, rfl, trivial⟩
        ·
         clear h48 h55
         subst e
         refine CV.seq ?_
         refine CV.region ?_
         refine LV.by (V.eq h56 rfl rfl) rfl rfl rfl fun x91_45 h66 => ?_
         refine LV.step (VAL.assign rfl) rfl rfl rfl ?_
         refine LV.done ?_
         refine PV.sub [(4, y4), (5, y5), (6, y6), (10, x50_22), (90, x91_45)] ⟨rfl, rfl, rfl, rfl, rfl, trivial⟩ ?_
         refine PV.thenN ?_
         refine CV.cond h66 rfl (fun e h67 => ?_) (fun e h67 => ?_)
         ·
          clear h56 h66
          subst e
          refine CV.seq ?_
          refine CV.region ?_
          refine LV.step (VAL.move rfl) rfl rfl rfl ?_
          refine LV.by (V.ia h67 rfl rfl Trf.el24) rfl rfl rfl fun x93_46 h68 => ?_
          refine LV.by (V.fa h68 rfl Trf.fo27_3) rfl rfl rfl fun x94_47 h69 => ?_
          refine LV.st hS h69 rfl rfl rfl Trf.siz9 rfl rfl fun T26 its h70 hS => ?_
          refine LV.done ?_
          refine PV.sub [(4, y4), (5, y5), (6, y6), (10, x50_22)] ⟨rfl, rfl, rfl, rfl, trivial⟩ ?_
          refine PV.thenN ?_
          refine CV.region ?_
          refine LV.step (VAL.assign rfl) rfl rfl rfl ?_
          refine LV.done ?_
          refine PV.sub [(4, y4), (5, y5), (6, y6), (10, (.lit (.int .i64 (.ofNat 0))))] ⟨rfl, rfl, rfl, rfl, trivial⟩ ?_
          refine PV.blockN ?_
          exact PV.atSeam (y4, y5, y6, (.lit (.int .i64 (.ofNat 0))), T26, n18) hS h70 ⟨rfl, rfl, rfl, rfl, trivial⟩
         ·
          clear h56 h66
          subst e
          refine CV.seq ?_
          refine CV.region ?_
          refine LV.step (VAL.move rfl) rfl rfl rfl ?_
          refine LV.by (V.ia h67 rfl rfl Trf.el24) rfl rfl rfl fun x55_48 h71 => ?_
          refine LV.by (V.fa h71 rfl Trf.fo27_4) rfl rfl rfl fun x56_49 h72 => ?_
          refine LV.by (V.ld hS h72 rfl Trf.one25) rfl rfl rfl fun x57_50 h73 => ?_
          refine LV.by (V.ia h73 rfl rfl Trf.el25) rfl rfl rfl fun x58_51 h74 => ?_
          refine LV.st hS h74 rfl rfl rfl Trf.siz3 rfl rfl fun T27 its h75 hS => ?_
          refine LV.done ?_
          refine PV.sub [(4, y4), (5, y5), (6, y6), (10, x50_22)] ⟨rfl, rfl, rfl, rfl, trivial⟩ ?_
          refine PV.thenN ?_
          refine CV.region ?_
          refine LV.step (VAL.assign rfl) rfl rfl rfl ?_
          refine LV.done ?_
          refine PV.sub [(4, y4), (5, y5), (6, y6), (10, (.lit (.int .i64 (.ofNat 1))))] ⟨rfl, rfl, rfl, rfl, trivial⟩ ?_
          refine PV.blockN ?_
          exact PV.atSeam (y4, y5, y6, (.lit (.int .i64 (.ofNat 1))), T27, n18) hS h75 ⟨rfl, rfl, rfl, rfl, trivial⟩
     ·
      rintro ⟨y4, y5, y6, y10, T13, n13⟩ ρ its hQ h31
      have hS : EY.ST w0 base envE ρ0 ρ T13 ro n13 its := hQ
      clear hQ
      change CV _ _ _ _ _ _ _ _ [(4, y4), (5, y5), (6, y6), (10, y10)] _
      have h32 : g3_k3 c1 c2 ro y4 y5 y6 y10 T13 n13 = .ok r T' n' := h31
      unfold g3_k3 at h32
      clear h29 h30 h31
      refine CV.seq ?_
      refine CV.region ?_
      refine LV.step (VAL.move rfl) rfl rfl rfl ?_
      refine LV.step (VAL.move rfl) rfl rfl rfl ?_
      refine LV.seam (E := envE) (ro := ro) (ρ0 := ρ0) (τ := AV × AV × HT × Nat) (fun t => [(4, t.1), (102, t.2.1)]) (fun t => t.2.2.1) (fun t => t.2.2.2) (fun t => g3_k4 c1 c2 ro  t.1 t.2.1 t.2.2.1 t.2.2.2 = .ok r T' n') 6 ?_ ?_
      ·
       rcases condK_inv h32 with ⟨e, h35⟩ | ⟨e, h35⟩
       ·
        clear h32
        subst e
        refine LV.step (VAL.move rfl) rfl rfl rfl ?_
        refine LV.call hS h35 (g14_ok _ _ _ _ ) hP rfl rfl rfl rfl fun x98_23 T15 n15 h36 ρ its hS => ?_
        refine LV.step (VAL.move rfl) rfl rfl rfl ?_
        refine LV.call hS h36 (g18_ok _ _ _ _ _ ) hP rfl rfl rfl rfl fun x100_24 T16 n16 h37 ρ its hS => ?_
        refine LV.call hS h37 (g17_ok _ _ _ _ _ ) hP rfl rfl rfl rfl fun x101_25 T17 n17 h38 ρ its hS => ?_
        refine LV.step (VAL.pure rfl) rfl rfl rfl ?_
        exact LV.atSeam (y4, x101_25, T17, n17) hS h38 ⟨rfl, rfl, trivial⟩
       ·
        clear h32
        subst e
        refine LV.skip rfl rfl rfl ?_
        refine LV.skip rfl rfl rfl ?_
        refine LV.skip rfl rfl rfl ?_
        refine LV.skip rfl rfl rfl ?_
        refine LV.skip rfl rfl rfl ?_
        refine LV.step (VAL.pure rfl) rfl rfl rfl ?_
        exact LV.atSeam (y4, (.lit (.bool false)), T13, n13) hS h35 ⟨rfl, rfl, trivial⟩
      ·
       rintro ⟨y4, y102, T14, n14⟩ ρ its hQ h33
       have hS : EY.ST w0 base envE ρ0 ρ T14 ro n14 its := hQ
       clear hQ
       change LV _ _ _ _ _ _ _ _ _ [(4, y4), (102, y102)] _
       have h34 : g3_k4 c1 c2 ro y4 y102 T14 n14 = .ok r T' n' := h33
       unfold g3_k4 at h34
       clear h32 h33
       refine LV.step (VAL.assign rfl) rfl rfl rfl ?_
       refine LV.done ?_
       refine PV.sub [(4, y102)] ⟨rfl, trivial⟩ ?_
       refine PV.thenN ?_
       refine CV.ret ?_
       cases h34
       exact PV.ret (by simp) Tryd.results3 hS (RS.tmp rfl RS.nil) rfl

end Go.Proofs.YtggoogbloaennaaDoor.Tr
