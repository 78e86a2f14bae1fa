/-
  Proved here: plain functions that do what the program's functions do, each with its proof.
-/
import Derived.Test.YtljaoofbklkglaaDoorArf
namespace Go.Proofs.YtljaoofbklkglaaDoor.Ar
open Go.EY Go.EX Go.SX Go.RowKit
variable {pn pm : Nat}
def envE (pn pm : Nat) : List (Nat × AV) := [(0, (.iface 92 (.opq 0))), (1, (.iface 92 (.opq 1))), (0, .ptr pn pm)]
theorem envE_last (pn pm : Nat) : (envE pn pm).getLast? = some (0, .ptr pn pm) := rfl
theorem env_opq (pn pm : Nat) : ∀ g u, lookE (envE pn pm) g = some u → ∀ ρ ρ' : Rho, ρ.opq = ρ'.opq → inst ρ u = inst ρ' u := by
  intro g u h ρ ρ' hq
  unfold envE at h
  simp only [lookE] at h
  split at h
  · cases h; simp only [inst, hq]
  split at h
  · cases h; simp only [inst, hq]
  split at h
  · simp_all
  · cases h
noncomputable def bld28 (ps : List (Nat × AV)) : Option AV := (placesA Tryd.prog 28).bind fun q => (fillA q.2 (q.1.map .lit) ps).map .agg
noncomputable def bld43 (ps : List (Nat × AV)) : Option AV := (placesA Tryd.prog 43).bind fun q => (fillA q.2 (q.1.map .lit) ps).map .agg
noncomputable def bld54 (ps : List (Nat × AV)) : Option AV := (placesA Tryd.prog 54).bind fun q => (fillA q.2 (q.1.map .lit) ps).map .agg
noncomputable def g14_k3 (ro : List HT) (lp1 : AV → AV → AV → AV → AV → AV → HT → Nat → R) (y1 y2 y6 y8 y9 y10 y11 y27 : AV) (T3 : HT) (n3 : Nat) : R :=
 condK 140015 y27
 (
  .bad 140016
 )
 (
  iaK 140019 y2 y8 1 fun x30_6 =>
  stK 140020 T3 x30_6 (.lit (.bool true)) fun T4 =>
  addK Tryd.prog 3 (.tmp 11) (.const (.int .i64 (.ofNat 1))) 140021 y11 (.lit (.int .i64 (.ofNat 1))) fun x31_7 =>
  lp1 y1 y2 y6 y9 y10 x31_7 T4 n3
 )
noncomputable def g14_k2 (ro : List HT) (lp1 : AV → AV → AV → AV → AV → AV → HT → Nat → R) (y1 y2 y6 y8 y9 y10 y11 y21 : AV) (T2 : HT) (n2 : Nat) : R :=
 condK 140023 y21
 (
  g14_k3 ro lp1 y1 y2 y6 y8 y9 y10 y11 (.lit (.bool true)) T2 n2
 )
 (
  iaK 140027 y2 y8 1 fun x25_8 =>
  ldK 140028 T2 ro x25_8 fun x26_9 =>
  g14_k3 ro lp1 y1 y2 y6 y8 y9 y10 y11 x26_9 T2 n2
 )
noncomputable def g14_b1 (ro : List HT) (lp1 : AV → AV → AV → AV → AV → AV → HT → Nat → R) (y1 y2 y6 y9 y10 y11 : AV) (T1 : HT) (n1 : Nat) : R :=
 ltK Tryd.prog 3 (.tmp 11) (.tmp 10) 140006 y11 y10 fun x12_2 =>
 condK 140007 x12_2
 (
  iaK 140008 y9 y11 1 fun x13_3 =>
  ldK 140009 T1 ro x13_3 fun x14_4 =>
  ltK Tryd.prog 3 (.tmp 15) (.const (.int .i64 (.ofNat 0))) 140012 x14_4 (.lit (.int .i64 (.ofNat 0))) fun x16_5 =>
  condK 140030 x16_5
  (
   g14_k2 ro lp1 y1 y2 y6 x14_4 y9 y10 y11 (.lit (.bool true)) T1 n1
  )
  (
   geK Tryd.prog 3 (.tmp 18) (.tmp 19) 140034 x14_4 y1 fun x20_10 =>
   g14_k2 ro lp1 y1 y2 y6 x14_4 y9 y10 y11 x20_10 T1 n1
  )
 )
 (
  .ok (.val (.lit (.bool true))) T1 n1
 )
noncomputable def g14 (ro : List HT) (a0 a1 a2 : AV) (T : HT) (nx : Nat) : R :=
 lenSK 140003 a0 fun x10_1 =>
 lpf6 140005 (g14_b1 ro) 100000 a1 a2 (.lit (.bool false)) a0 x10_1 (.lit (.int .i64 (.ofNat 0))) T nx
theorem g14_ok (ro : List HT) (a0 a1 a2 : AV) (T : HT) (nx : Nat) : GOk Tryd.prog (envE pn pm) 14 [a0, a1, a2] ro T nx (g14 ro a0 a1 a2 T nx) := by
 refine GOk.of_body Tryd.func14 rfl Tryd.ntmps14 (by kernel_rfl) rfl fun r T' n' h1 w0 base ρ0 its hS hP => ?_
 have X : CtxW (envE pn pm) ρ0 ro r T' n' := trivial
 unfold g14 at h1
 refine sr ?_
 refine as_ ?_
 refine dn ?_
 refine CV.seq ?_
 refine sr ?_
 refine mv ?_
 refine vy (V.lenS h1 rfl Arf.ls22) fun x10_1 h2 => ?_
 refine mv ?_
 refine dn ?_
 refine CV.block ?_
 refine cl6 X 1 2 6 9 10 11 [] hS h2 ⟨rfl, rfl, rfl, rfl, rfl, rfl, trivial⟩ ?_
 intro f1 y1 y2 y6 y9 y10 y11 T1 n1 ρ its hS h3
 unfold g14_b1 at h3
 clear h1 h2
 refine sr ?_
 refine vy (V.lt h3 rfl rfl) fun x12_2 h4 => ?_
 refine dn ?_
 refine CV.seq ?_
 refine CV.cond h4 rfl (fun e h5 => ?_) (fun e h5 => ?_)
 ·
  clear h3 h4
  subst e
  refine CV.skip ?_
  refine PV.thenN ?_
  refine CV.seq ?_
  refine CV.block ?_
  refine sr ?_
  refine vy (V.ia h5 rfl rfl Arf.el22) fun x13_3 h6 => ?_
  refine vy (V.ld hS h6 rfl Arf.one3) fun x14_4 h7 => ?_
  refine as_ ?_
  refine dn ?_
  refine CV.seq ?_
  refine sr ?_
  refine mv ?_
  refine vy (V.lt h7 rfl rfl) fun x16_5 h8 => ?_
  refine mv ?_
  refine ls8 X 1 2 6 8 9 10 11 21 [] (g14_k2 ro (lpf6 140005 (g14_b1 ro) f1)) 4 ?_ ?_
  ·
   rcases condK_inv h8 with ⟨e, h18⟩ | ⟨e, h18⟩
   ·
    clear h5 h6 h7 h8
    subst e
    refine sk ?_
    refine sk ?_
    refine sk ?_
    refine pu ?_
    exact la8 hS h18 ⟨rfl, rfl, rfl, rfl, rfl, rfl, rfl, rfl, trivial⟩
   ·
    clear h5 h6 h7 h8
    subst e
    refine mv ?_
    refine mv ?_
    refine vy (V.ge h18 rfl rfl) fun x20_10 h19 => ?_
    refine pu ?_
    exact la8 hS h19 ⟨rfl, rfl, rfl, rfl, rfl, rfl, rfl, rfl, trivial⟩
  ·
   intro y1 y2 y6 y8 y9 y10 y11 y21 T2 n2 ρ its hS h9
   unfold g14_k2 at h9
   clear h5 h6 h7 h8
   refine mv ?_
   refine ls8 X 1 2 6 8 9 10 11 27 [] (g14_k3 ro (lpf6 140005 (g14_b1 ro) f1)) 5 ?_ ?_
   ·
    rcases condK_inv h9 with ⟨e, h15⟩ | ⟨e, h15⟩
    ·
     clear h9
     subst e
     refine sk ?_
     refine sk ?_
     refine sk ?_
     refine sk ?_
     refine pu ?_
     exact la8 hS h15 ⟨rfl, rfl, rfl, rfl, rfl, rfl, rfl, rfl, trivial⟩
    ·
     clear h9
     subst e
     refine mv ?_
     refine mv ?_
     refine vy (V.ia h15 rfl rfl Arf.el41) fun x25_8 h16 => ?_
     refine vy (V.ld hS h16 rfl Arf.one4) fun x26_9 h17 => ?_
     refine pu ?_
     exact la8 hS h17 ⟨rfl, rfl, rfl, rfl, rfl, rfl, rfl, rfl, trivial⟩
   ·
    intro y1 y2 y6 y8 y9 y10 y11 y27 T3 n3 ρ its hS h10
    unfold g14_k3 at h10
    clear h9
    refine dn ?_
    refine CV.cond h10 rfl (fun e h11 => ?_) (fun e h11 => ?_)
    ·
     clear h10
     subst e
     cases h11
    ·
     clear h10
     subst e
     refine CV.skip ?_
     refine PV.thenN ?_
     refine CV.region ?_
     refine mv ?_
     refine mv ?_
     refine vy (V.ia h11 rfl rfl Arf.el41) fun x30_6 h12 => ?_
     refine LV.st hS h12 rfl rfl rfl Arf.siz4 rfl rfl fun T4 its h13 hS => ?_
     refine LV.done ?_
     refine PV.blockN ?_
     refine PV.thenN ?_
     refine CV.region ?_
     refine vy (V.add h13 rfl rfl) fun x31_7 h14 => ?_
     refine mv ?_
     refine LV.done ?_
     exact pb6 hS h14 ⟨rfl, rfl, rfl, rfl, rfl, rfl, trivial⟩
 ·
  clear h3 h4
  subst e
  refine CV.exit ?_
  refine PV.thenE ?_
  refine PV.thenE ?_
  refine PV.blockE ?_
  refine PV.thenN ?_
  refine sr ?_
  refine as_ ?_
  refine dn ?_
  refine CV.ret ?_
  cases h5
  exact PV.ret (by simp) Tryd.results14 hS (RS.tmp rfl RS.nil) rfl
noncomputable def g24_b1 (ro : List HT) (lp1 : AV → AV → AV → AV → AV → HT → Nat → R) (y0 y1 y4 y7 y8 : AV) (T1 : HT) (n1 : Nat) : R :=
 ltK Tryd.prog 3 (.tmp 8) (.tmp 7) 240006 y8 y7 fun x9_2 =>
 condK 240007 x9_2
 (
  iaK 240013 y0 y8 1 fun x14_3 =>
  ldK 240014 T1 ro x14_3 fun x15_4 =>
  bin0 Tryd.prog .eql 4 (.tmp 11) (.tmp 15) 240015 y1 x15_4 fun x16_5 =>
  condK 240016 x16_5
  (
   .bad 240017
  )
  (
   addK Tryd.prog 3 (.tmp 8) (.const (.int .i64 (.ofNat 1))) 240018 y8 (.lit (.int .i64 (.ofNat 1))) fun x18_6 =>
   lp1 y0 y1 y4 y7 x18_6 T1 n1
  )
 )
 (
  .ok (.val (.lit (.int .i64 (.negSucc 0)))) T1 n1
 )
noncomputable def g24 (ro : List HT) (a0 a1 : AV) (T : HT) (nx : Nat) : R :=
 lenSK 240003 a0 fun x7_1 =>
 lpf5 240005 (g24_b1 ro) 100000 a0 a1 (.lit (.int .i64 (.ofNat 0))) x7_1 (.lit (.int .i64 (.ofNat 0))) T nx
theorem g24_ok (ro : List HT) (a0 a1 : AV) (T : HT) (nx : Nat) : GOk Tryd.prog (envE pn pm) 24 [a0, a1] ro T nx (g24 ro a0 a1 T nx) := by
 refine GOk.of_body Tryd.func24 rfl Tryd.ntmps24 (by kernel_rfl) rfl fun r T' n' h1 w0 base ρ0 its hS hP => ?_
 have X : CtxW (envE pn pm) ρ0 ro r T' n' := trivial
 unfold g24 at h1
 refine sr ?_
 refine as_ ?_
 refine dn ?_
 refine CV.seq ?_
 refine sr ?_
 refine mv ?_
 refine vy (V.lenS h1 rfl Arf.ls41) fun x7_1 h2 => ?_
 refine mv ?_
 refine dn ?_
 refine CV.block ?_
 refine cl5 X 0 1 4 7 8 [] hS h2 ⟨rfl, rfl, rfl, rfl, rfl, trivial⟩ ?_
 intro f1 y0 y1 y4 y7 y8 T1 n1 ρ its hS h3
 unfold g24_b1 at h3
 clear h1 h2
 refine sr ?_
 refine vy (V.lt h3 rfl rfl) fun x9_2 h4 => ?_
 refine dn ?_
 refine CV.seq ?_
 refine CV.cond h4 rfl (fun e h5 => ?_) (fun e h5 => ?_)
 ·
  clear h3 h4
  subst e
  refine CV.skip ?_
  refine PV.thenN ?_
  refine CV.seq ?_
  refine CV.block ?_
  refine sr ?_
  refine mv ?_
  refine as_ ?_
  refine dn ?_
  refine sr ?_
  refine mv ?_
  refine mv ?_
  refine mv ?_
  refine vy (V.ia h5 rfl rfl Arf.el41) fun x14_3 h6 => ?_
  refine vy (V.ld hS h6 rfl Arf.one4) fun x15_4 h7 => ?_
  refine vy (V.bin0 h7 rfl rfl) fun x16_5 h8 => ?_
  refine dn ?_
  refine CV.cond h8 rfl (fun e h9 => ?_) (fun e h9 => ?_)
  ·
   clear h5 h6 h7 h8
   subst e
   cases h9
  ·
   clear h5 h6 h7 h8
   subst e
   refine CV.skip ?_
   refine PV.blockN ?_
   refine PV.thenN ?_
   refine CV.region ?_
   refine vy (V.add h9 rfl rfl) fun x18_6 h10 => ?_
   refine mv ?_
   refine LV.done ?_
   exact pb5 hS h10 ⟨rfl, rfl, rfl, rfl, rfl, trivial⟩
 ·
  clear h3 h4
  subst e
  refine CV.exit ?_
  refine PV.thenE ?_
  refine PV.thenE ?_
  refine PV.blockE ?_
  refine PV.thenN ?_
  refine sr ?_
  refine as_ ?_
  refine dn ?_
  refine CV.ret ?_
  cases h5
  exact PV.ret (by simp) Tryd.results24 hS (RS.tmp rfl RS.nil) rfl
noncomputable def g16 (ro : List HT) (a0 a1 : AV) (T : HT) (nx : Nat) : R :=
 callK (g24 ro a0 a1 T nx) fun x7_1 T1 n1 =>
 geK Tryd.prog 3 (.tmp 7) (.const (.int .i64 (.ofNat 0))) 160005 x7_1 (.lit (.int .i64 (.ofNat 0))) fun x8_2 =>
 .ok (.val x8_2) T1 n1
theorem g16_ok (ro : List HT) (a0 a1 : AV) (T : HT) (nx : Nat) : GOk Tryd.prog (envE pn pm) 16 [a0, a1] ro T nx (g16 ro a0 a1 T nx) := by
 refine GOk.of_body Tryd.func16 rfl Tryd.ntmps16 (by kernel_rfl) rfl fun r T' n' h1 w0 base ρ0 its hS hP => ?_
 have X : CtxW (envE pn pm) ρ0 ro r T' n' := trivial
 unfold g16 at h1
 refine sr ?_
 refine as_ ?_
 refine dn ?_
 refine sr ?_
 refine mv ?_
 refine mv ?_
 refine LV.call hS h1 (g24_ok _ _ _ _ _ ) hP rfl rfl rfl rfl fun x7_1 T1 n1 h2 ρ its hS => ?_
 refine vy (V.ge h2 rfl rfl) fun x8_2 h3 => ?_
 refine as_ ?_
 refine dn ?_
 refine CV.ret ?_
 cases h3
 exact PV.ret (by simp) Tryd.results16 hS (RS.tmp rfl RS.nil) rfl
noncomputable def g18_k2 (ro : List HT) (y2 y34 : AV) (T6 : HT) (n6 : Nat) : R :=
 .ok (.val y34) T6 n6
noncomputable def g18_b1 (ro : List HT) (lp1 : AV → AV → AV → AV → AV → AV → HT → Nat → R) (y0 y2 y3 y9 y10 y11 : AV) (T2 : HT) (n2 : Nat) : R :=
 ltK Tryd.prog 3 (.tmp 11) (.tmp 10) 180010 y11 y10 fun x12_4 =>
 condK 180011 x12_4
 (
  iaK 180013 y9 y11 5 fun x14_5 =>
  ldAK 180014 T2 ro x14_5 5 fun x15_6 =>
  newK T2 n2 (.obj [.lit (.int .i64 0), .lit (.int .i64 0), .lit (.int .i64 0), .lit (.string ⟨#[]⟩), .lit (.slice none 0 0)] 28) fun x5_7 T3 n3 =>
  stAK 180017 T3 x5_7 x15_6 5 fun T4 =>
  faK 180018 x5_7 4 fun x16_8 =>
  ldK 180019 T4 ro x16_8 fun x17_9 =>
  callK (g14 ro x17_9 y11 y3 T4 n3) fun x20_10 T5 n5 =>
  notK 180023 x20_10 fun x21_11 =>
  condK 180024 x21_11
  (
   .bad 180025
  )
  (
   addK Tryd.prog 3 (.tmp 11) (.const (.int .i64 (.ofNat 1))) 180026 y11 (.lit (.int .i64 (.ofNat 1))) fun x22_12 =>
   lp1 y0 y2 y3 y9 y10 x22_12 T5 n5
  )
 )
 (
  lenSK 180029 y0 fun x24_13 =>
  gtK Tryd.prog 3 (.tmp 24) (.const (.int .i64 (.ofNat 0))) 180030 x24_13 (.lit (.int .i64 (.ofNat 0))) fun x25_14 =>
  condK 180033 x25_14
  (
   lenSK 180036 y0 fun x29_15 =>
   subK Tryd.prog 3 (.tmp 29) (.const (.int .i64 (.ofNat 1))) 180037 x29_15 (.lit (.int .i64 (.ofNat 1))) fun x30_16 =>
   cutHiK 180038 T2 ro y3 x30_16 fun x31_17 =>
   callK (g16 ro x31_17 (.lit (.bool false)) T2 n2) fun x32_18 T7 n7 =>
   notK 180040 x32_18 fun x33_19 =>
   g18_k2 ro y2 x33_19 T7 n7
  )
  (
   g18_k2 ro y2 (.lit (.bool false)) T2 n2
  )
 )
noncomputable def g18 (ro : List HT) (a0 : AV) (T : HT) (nx : Nat) : R :=
 lenSK 180003 a0 fun x7_1 =>
 mkK 180004 T nx 4 1 (.lit (.bool false)) x7_1 fun x8_2 T1 n1 =>
 lenSK 180007 a0 fun x10_3 =>
 lpf6 180009 (g18_b1 ro) 100000 a0 (.lit (.bool false)) x8_2 a0 x10_3 (.lit (.int .i64 (.ofNat 0))) T1 n1
theorem g18_ok (ro : List HT) (a0 : AV) (T : HT) (nx : Nat) : GOk Tryd.prog (envE pn pm) 18 [a0] ro T nx (g18 ro a0 T nx) := by
 refine GOk.of_body Tryd.func18 rfl Tryd.ntmps18 (by kernel_rfl) rfl fun r T' n' h1 w0 base ρ0 its hS hP => ?_
 have X : CtxW (envE pn pm) ρ0 ro r T' n' := trivial
 unfold g18 at h1
 refine sr ?_
 refine as_ ?_
 refine dn ?_
 refine sr ?_
 refine mv ?_
 refine vy (V.lenS h1 rfl Arf.ls24) fun x7_1 h2 => ?_
 refine LV.mk hS h2 rfl rfl rfl Arf.el41 rfl rfl rfl rfl fun x8_2 T1 n1 h3 ρ its hS hdr => ?_
 refine as_ ?_
 refine dn ?_
 refine CV.seq ?_
 refine sr ?_
 refine mv ?_
 refine vy (V.lenS h3 rfl Arf.ls24) fun x10_3 h4 => ?_
 refine mv ?_
 refine dn ?_
 refine CV.block ?_
 refine cl6 X 0 2 3 9 10 11 [] hS h4 ⟨rfl, rfl, rfl, rfl, rfl, rfl, trivial⟩ ?_
 intro f1 y0 y2 y3 y9 y10 y11 T2 n2 ρ its hS h5
 unfold g18_b1 at h5
 clear h1 h2 h3 h4
 refine sr ?_
 refine vy (V.lt h5 rfl rfl) fun x12_4 h6 => ?_
 refine dn ?_
 refine CV.seq ?_
 refine CV.cond h6 rfl (fun e h7 => ?_) (fun e h7 => ?_)
 ·
  clear h5 h6
  subst e
  refine CV.skip ?_
  refine PV.thenN ?_
  refine CV.seq ?_
  refine CV.block ?_
  refine sr ?_
  refine mv ?_
  refine vy (V.ia h7 rfl rfl Arf.el24) fun x14_5 h8 => ?_
  refine vy (V.ldA hS h8 rfl Arf.agg28) fun x15_6 h9 => ?_
  refine LV.alloc hS h9 rfl Arf.zr28 rfl rfl rfl fun x5_7 T3 n3 h10 ρ its hS hdr => ?_
  refine as_ ?_
  refine LV.stA hS h10 rfl rfl rfl Arf.agg28 rfl rfl rfl fun T4 its h11 hS => ?_
  refine dn ?_
  refine sr ?_
  refine vy (V.fa h11 rfl Arf.fo28_4) fun x16_8 h12 => ?_
  refine vy (V.ld hS h12 rfl Arf.one22) fun x17_9 h13 => ?_
  refine mv ?_
  refine mv ?_
  refine LV.call hS h13 (g14_ok _ _ _ _ _ _ ) hP rfl rfl rfl rfl fun x20_10 T5 n5 h14 ρ its hS => ?_
  refine vy (V.not h14 rfl) fun x21_11 h15 => ?_
  refine dn ?_
  refine CV.cond h15 rfl (fun e h16 => ?_) (fun e h16 => ?_)
  ·
   clear h7 h8 h9 h10 h11 h12 h13 h14 h15
   subst e
   cases h16
  ·
   clear h7 h8 h9 h10 h11 h12 h13 h14 h15
   subst e
   refine CV.skip ?_
   refine PV.blockN ?_
   refine PV.thenN ?_
   refine CV.region ?_
   refine vy (V.add h16 rfl rfl) fun x22_12 h17 => ?_
   refine mv ?_
   refine LV.done ?_
   exact pb6 hS h17 ⟨rfl, rfl, rfl, rfl, rfl, rfl, trivial⟩
 ·
  clear h5 h6
  subst e
  refine CV.exit ?_
  refine PV.thenE ?_
  refine PV.thenE ?_
  refine PV.blockE ?_
  refine PV.thenN ?_
  refine sr ?_
  refine mv ?_
  refine vy (V.lenS h7 rfl Arf.ls24) fun x24_13 h18 => ?_
  refine vy (V.gt h18 rfl rfl) fun x25_14 h19 => ?_
  refine mv ?_
  refine ls2 X 2 34 [] (g18_k2 ro) 8 ?_ ?_
  ·
   rcases condK_inv h19 with ⟨e, h21⟩ | ⟨e, h21⟩
   ·
    clear h7 h18 h19
    subst e
    refine mv ?_
    refine mv ?_
    refine vy (V.lenS h21 rfl Arf.ls24) fun x29_15 h22 => ?_
    refine vy (V.sub h22 rfl rfl) fun x30_16 h23 => ?_
    refine vy (V.cutHi hS h23 rfl rfl Arf.el41) fun x31_17 h24 => ?_
    refine LV.call hS h24 (g16_ok _ _ _ _ _ ) hP rfl rfl rfl rfl fun x32_18 T7 n7 h25 ρ its hS => ?_
    refine vy (V.not h25 rfl) fun x33_19 h26 => ?_
    refine pu ?_
    exact la2 hS h26 ⟨rfl, rfl, trivial⟩
   ·
    clear h7 h18 h19
    subst e
    refine sk ?_
    refine sk ?_
    refine sk ?_
    refine sk ?_
    refine sk ?_
    refine sk ?_
    refine sk ?_
    refine pu ?_
    exact la2 hS h21 ⟨rfl, rfl, trivial⟩
  ·
   intro y2 y34 T6 n6 ρ its hS h20
   unfold g18_k2 at h20
   clear h7 h18 h19
   refine as_ ?_
   refine dn ?_
   refine CV.ret ?_
   cases h20
   exact PV.ret (by simp) Tryd.results18 hS (RS.tmp rfl RS.nil) rfl
noncomputable def g8_b2 (ro : List HT) (lp1 : AV → AV → AV → AV → AV → AV → HT → Nat → R) (lp2 : AV → AV → AV → AV → AV → AV → AV → AV → AV → AV → HT → Nat → R) (y0 y2 y3 y4 y14 y15 y16 y22 y23 y24 : AV) (T6 : HT) (n6 : Nat) : R :=
 ltK Tryd.prog 3 (.tmp 24) (.tmp 23) 80028 y24 y23 fun x25_13 =>
 condK 80029 x25_13
 (
  iaK 80030 y22 y24 1 fun x26_14 =>
  ldK 80031 T6 ro x26_14 fun x27_15 =>
  iaK 80037 y3 y4 1 fun x32_16 =>
  ldK 80038 T6 ro x32_16 fun x33_17 =>
  iaK 80041 y3 x27_15 1 fun x36_18 =>
  ldK 80042 T6 ro x36_18 fun x37_19 =>
  optK 80043 (mmV x33_17 x37_19 true) fun x38_20 =>
  iaK 80044 y3 y4 1 fun x39_21 =>
  stK 80045 T6 x39_21 x38_20 fun T7 =>
  addK Tryd.prog 3 (.tmp 24) (.const (.int .i64 (.ofNat 1))) 80046 y24 (.lit (.int .i64 (.ofNat 1))) fun x40_22 =>
  lp2 y0 y2 y3 y4 y14 y15 y16 y22 y23 x40_22 T7 n6
 )
 (
  iaK 80050 y3 y4 1 fun x43_23 =>
  ldK 80051 T6 ro x43_23 fun x44_24 =>
  addK Tryd.prog 3 (.tmp 44) (.const (.int .i64 (.ofNat 1))) 80052 x44_24 (.lit (.int .i64 (.ofNat 1))) fun x45_25 =>
  iaK 80053 y3 y4 1 fun x46_26 =>
  stK 80054 T6 x46_26 x45_25 fun T8 =>
  addK Tryd.prog 3 (.tmp 16) (.const (.int .i64 (.ofNat 1))) 80055 y16 (.lit (.int .i64 (.ofNat 1))) fun x47_27 =>
  lp1 y0 y2 y3 y14 y15 x47_27 T8 n6
 )
noncomputable def g8_b1 (ro : List HT) (lp1 : AV → AV → AV → AV → AV → AV → HT → Nat → R) (y0 y2 y3 y14 y15 y16 : AV) (T3 : HT) (n3 : Nat) : R :=
 ltK Tryd.prog 3 (.tmp 16) (.tmp 15) 80015 y16 y15 fun x17_6 =>
 condK 80016 x17_6
 (
  iaK 80018 y14 y16 5 fun x19_7 =>
  ldAK 80019 T3 ro x19_7 5 fun x20_8 =>
  newK T3 n3 (.obj [.lit (.int .i64 0), .lit (.int .i64 0), .lit (.int .i64 0), .lit (.string ⟨#[]⟩), .lit (.slice none 0 0)] 28) fun x5_9 T4 n4 =>
  stAK 80022 T4 x5_9 x20_8 5 fun T5 =>
  faK 80023 x5_9 4 fun x21_10 =>
  ldK 80024 T5 ro x21_10 fun x22_11 =>
  lenSK 80025 x22_11 fun x23_12 =>
  lpf10 80027 (g8_b2 ro lp1) 100000 y0 y2 y3 y16 y14 y15 y16 x22_11 x23_12 (.lit (.int .i64 (.ofNat 0))) T5 n4
 )
 (
  lenSK 80059 y0 fun x50_28 =>
  subK Tryd.prog 3 (.tmp 50) (.const (.int .i64 (.ofNat 1))) 80060 x50_28 (.lit (.int .i64 (.ofNat 1))) fun x51_29 =>
  iaK 80061 y3 x51_29 1 fun x52_30 =>
  ldK 80062 T3 ro x52_30 fun x53_31 =>
  .ok (.val x53_31) T3 n3
 )
noncomputable def g8 (ro : List HT) (a0 : AV) (T : HT) (nx : Nat) : R :=
 callK (g18 ro a0 T nx) fun x9_1 T1 n1 =>
 notK 80004 x9_1 fun x10_2 =>
 condK 80005 x10_2
 (
  .bad 80006
 )
 (
  lenSK 80008 a0 fun x12_3 =>
  mkK 80009 T1 n1 3 8 (.lit (.int .i64 0)) x12_3 fun x13_4 T2 n2 =>
  lenSK 80012 a0 fun x15_5 =>
  lpf6 80014 (g8_b1 ro) 100000 a0 (.lit (.int .i64 (.ofNat 0))) x13_4 a0 x15_5 (.lit (.int .i64 (.ofNat 0))) T2 n2
 )
theorem g8_ok (ro : List HT) (a0 : AV) (T : HT) (nx : Nat) : GOk Tryd.prog (envE pn pm) 8 [a0] ro T nx (g8 ro a0 T nx) := by
 refine GOk.of_body Tryd.func8 rfl Tryd.ntmps8 (by kernel_rfl) rfl fun r T' n' h1 w0 base ρ0 its hS hP => ?_
 have X : CtxW (envE pn pm) ρ0 ro r T' n' := trivial
 unfold g8 at h1
 refine sr ?_
 refine as_ ?_
 refine dn ?_
 refine CV.seq ?_
 refine sr ?_
 refine mv ?_
 refine LV.call hS h1 (g18_ok _ _ _ _ ) hP rfl rfl rfl rfl fun x9_1 T1 n1 h2 ρ its hS => ?_
 refine vy (V.not h2 rfl) fun x10_2 h3 => ?_
 refine dn ?_
 refine CV.cond h3 rfl (fun e h4 => ?_) (fun e h4 => ?_)
 ·
  clear h1 h2 h3
  subst e
  cases h4
 ·
  clear h1 h2 h3
  subst e
  refine CV.skip ?_
  refine PV.thenN ?_
  refine sr ?_
  refine mv ?_
  refine vy (V.lenS h4 rfl Arf.ls24) fun x12_3 h5 => ?_
  refine LV.mk hS h5 rfl rfl rfl Arf.el22 rfl rfl rfl rfl fun x13_4 T2 n2 h6 ρ its hS hdr => ?_
  refine as_ ?_
  refine dn ?_
  refine CV.seq ?_
  refine sr ?_
  refine mv ?_
  refine vy (V.lenS h6 rfl Arf.ls24) fun x15_5 h7 => ?_
  refine mv ?_
  refine dn ?_
  refine CV.block ?_
  refine cl6 X 0 2 3 14 15 16 [] hS h7 ⟨rfl, rfl, rfl, rfl, rfl, rfl, trivial⟩ ?_
  intro f1 y0 y2 y3 y14 y15 y16 T3 n3 ρ its hS h8
  unfold g8_b1 at h8
  clear h4 h5 h6 h7
  refine sr ?_
  refine vy (V.lt h8 rfl rfl) fun x17_6 h9 => ?_
  refine dn ?_
  refine CV.seq ?_
  refine CV.cond h9 rfl (fun e h10 => ?_) (fun e h10 => ?_)
  ·
   clear h8 h9
   subst e
   refine CV.skip ?_
   refine PV.thenN ?_
   refine CV.seq ?_
   refine CV.block ?_
   refine sr ?_
   refine mv ?_
   refine vy (V.ia h10 rfl rfl Arf.el24) fun x19_7 h11 => ?_
   refine vy (V.ldA hS h11 rfl Arf.agg28) fun x20_8 h12 => ?_
   refine LV.alloc hS h12 rfl Arf.zr28 rfl rfl rfl fun x5_9 T4 n4 h13 ρ its hS hdr => ?_
   refine as_ ?_
   refine LV.stA hS h13 rfl rfl rfl Arf.agg28 rfl rfl rfl fun T5 its h14 hS => ?_
   refine dn ?_
   refine CV.seq ?_
   refine sr ?_
   refine vy (V.fa h14 rfl Arf.fo28_4) fun x21_10 h15 => ?_
   refine vy (V.ld hS h15 rfl Arf.one22) fun x22_11 h16 => ?_
   refine vy (V.lenS h16 rfl Arf.ls22) fun x23_12 h17 => ?_
   refine mv ?_
   refine dn ?_
   refine CV.block ?_
   refine cl10 X 0 2 3 4 14 15 16 22 23 24 [] hS h17 ⟨rfl, rfl, rfl, rfl, rfl, rfl, rfl, rfl, rfl, rfl, trivial⟩ ?_
   intro f2 y0 y2 y3 y4 y14 y15 y16 y22 y23 y24 T6 n6 ρ its hS h18
   unfold g8_b2 at h18
   clear h10 h11 h12 h13 h14 h15 h16 h17
   refine sr ?_
   refine vy (V.lt h18 rfl rfl) fun x25_13 h19 => ?_
   refine dn ?_
   refine CV.seq ?_
   refine CV.cond h19 rfl (fun e h20 => ?_) (fun e h20 => ?_)
   ·
    clear h18 h19
    subst e
    refine CV.skip ?_
    refine PV.thenN ?_
    refine CV.seq ?_
    refine CV.block ?_
    refine sr ?_
    refine vy (V.ia h20 rfl rfl Arf.el22) fun x26_14 h21 => ?_
    refine vy (V.ld hS h21 rfl Arf.one3) fun x27_15 h22 => ?_
    refine as_ ?_
    refine dn ?_
    refine CV.regionM [(0, .anywhere), (1, .anywhere), (2, .anywhere), (3, .anywhere), (4, .anywhere), (5, .held), (6, .anywhere), (7, .anywhere), (8, .anywhere), (9, .held), (10, .held), (11, .held), (12, .alone)] rfl (fun c a a' w hd hq => PanicOk.root (P := Tryd.prog) (fn := Tryd.f8) (w0 := w0) (base := base) (E := (envE pn pm)) (ro := ro) (r := r) (T' := T') (n' := n') (ρ0 := ρ0) c a a' w hd hq) (by kernel_rfl) ?_
    refine MV.step0 (i := 0) rfl (VAL.move rfl) rfl rfl rfl ?_
    refine MV.step0 (i := 1) rfl (VAL.move rfl) rfl rfl rfl ?_
    refine MV.step0 (i := 2) rfl (VAL.move rfl) rfl rfl rfl ?_
    refine MV.step0 (i := 3) rfl (VAL.move rfl) rfl rfl rfl ?_
    refine MV.lift0 (i := 4) rfl (V.ia h22 rfl rfl Arf.el22) rfl rfl rfl fun x32_16 h23 => ?_
    refine MV.lift1 (i := 5) rfl (fun _ z => z) (V.ld hS h23 rfl Arf.one3) rfl rfl rfl [] (by kernel_rfl) fun x33_17 h24 => ?_
    refine MV.step0 (i := 6) rfl (VAL.move rfl) rfl rfl rfl ?_
    refine MV.step0 (i := 7) rfl (VAL.move rfl) rfl rfl rfl ?_
    refine MV.lift0 (i := 8) rfl (V.ia h24 rfl rfl Arf.el22) rfl rfl rfl fun x36_18 h25 => ?_
    refine MV.lift1 (i := 9) rfl (fun _ z => z) (V.ld hS h25 rfl Arf.one3) rfl rfl rfl [5] (by kernel_rfl) fun x37_19 h26 => ?_
    refine MV.lift1 (i := 10) rfl (fun _ z => z) (V.max h26 rfl rfl) rfl rfl rfl [] (by kernel_rfl) fun x38_20 h27 => ?_
    refine MV.lift1 (i := 11) rfl (fun _ z => z) (V.ia h27 rfl rfl Arf.el22) rfl rfl rfl [] (by kernel_rfl) fun x39_21 h28 => ?_
    refine MV.force (i := 12) rfl ?_
    refine LV.st hS h28 rfl rfl rfl Arf.siz3 rfl rfl fun T7 its h29 hS => ?_
    refine LV.nextM [] (by kernel_rfl) (fun z => absurd rfl z) ?_
    refine MV.done ?_
    refine PV.blockN ?_
    refine PV.thenN ?_
    refine CV.region ?_
    refine vy (V.add h29 rfl rfl) fun x40_22 h30 => ?_
    refine mv ?_
    refine LV.done ?_
    exact pb10 hS h30 ⟨rfl, rfl, rfl, rfl, rfl, rfl, rfl, rfl, rfl, rfl, trivial⟩
   ·
    clear h18 h19
    subst e
    refine CV.exit ?_
    refine PV.thenE ?_
    refine PV.thenE ?_
    refine PV.blockE ?_
    refine PV.thenN ?_
    refine CV.region ?_
    refine mv ?_
    refine mv ?_
    refine vy (V.ia h20 rfl rfl Arf.el22) fun x43_23 h31 => ?_
    refine vy (V.ld hS h31 rfl Arf.one3) fun x44_24 h32 => ?_
    refine vy (V.add h32 rfl rfl) fun x45_25 h33 => ?_
    refine vy (V.ia h33 rfl rfl Arf.el22) fun x46_26 h34 => ?_
    refine LV.st hS h34 rfl rfl rfl Arf.siz3 rfl rfl fun T8 its h35 hS => ?_
    refine LV.done ?_
    refine PV.blockN ?_
    refine PV.thenN ?_
    refine CV.region ?_
    refine vy (V.add h35 rfl rfl) fun x47_27 h36 => ?_
    refine mv ?_
    refine LV.done ?_
    exact pb6 hS h36 ⟨rfl, rfl, rfl, rfl, rfl, rfl, trivial⟩
  ·
   clear h8 h9
   subst e
   refine CV.exit ?_
   refine PV.thenE ?_
   refine PV.thenE ?_
   refine PV.blockE ?_
   refine PV.thenN ?_
   refine sr ?_
   refine mv ?_
   refine mv ?_
   refine vy (V.lenS h10 rfl Arf.ls24) fun x50_28 h37 => ?_
   refine vy (V.sub h37 rfl rfl) fun x51_29 h38 => ?_
   refine vy (V.ia h38 rfl rfl Arf.el22) fun x52_30 h39 => ?_
   refine vy (V.ld hS h39 rfl Arf.one3) fun x53_31 h40 => ?_
   refine as_ ?_
   refine dn ?_
   refine CV.ret ?_
   cases h40
   exact PV.ret (by simp) Tryd.results8 hS (RS.tmp rfl RS.nil) rfl
noncomputable def g4 (ro : List HT) (T : HT) (nx : Nat) : R :=
 optK 40002 (bld28 [(0, (.lit (.int .i64 (.ofNat 6)))), (3, (.lit (.string ⟨⟨[120]⟩⟩)))]) fun x1_1 =>
 bsK 40003 T nx 1 3 1 [(0, (.lit (.int .i64 (.ofNat 0))))] fun x2_2 T1 n1 =>
 optK 40004 (bld28 [(0, (.lit (.int .i64 (.ofNat 35)))), (4, x2_2)]) fun x3_3 =>
 bsK 40005 T1 n1 1 3 1 [(0, (.lit (.int .i64 (.ofNat 1))))] fun x4_4 T2 n2 =>
 optK 40006 (bld28 [(0, (.lit (.int .i64 (.ofNat 47)))), (4, x4_4)]) fun x5_5 =>
 bsK 40007 T2 n2 3 28 5 [(0, x1_1), (1, x3_3), (2, x5_5)] fun x6_6 T3 n3 =>
 callK (g8 ro x6_6 T3 n3) fun x7_7 T4 n4 =>
 eqK Tryd.prog 3 (.tmp 7) (.const (.int .i64 (.ofNat 3))) 40009 x7_7 (.lit (.int .i64 (.ofNat 3))) fun x8_8 =>
 .ok (.val x8_8) T4 n4
theorem g4_ok (ro : List HT) (T : HT) (nx : Nat) : GOk Tryd.prog (envE pn pm) 4 [] ro T nx (g4 ro T nx) := by
 refine GOk.of_body Tryd.func4 rfl Tryd.ntmps4 (by kernel_rfl) rfl fun r T' n' h1 w0 base ρ0 its hS hP => ?_
 have X : CtxW (envE pn pm) ρ0 ro r T' n' := trivial
 unfold g4 at h1
 refine sr ?_
 refine as_ ?_
 refine dn ?_
 refine sr ?_
 refine vy (V.bld h1 rfl) fun x1_1 h2 => ?_
 refine LV.bslice hS h2 rfl rfl Arf.el22 rfl rfl rfl rfl fun x2_2 T1 n1 h3 ρ its hS hdr => ?_
 refine vy (V.bld h3 rfl) fun x3_3 h4 => ?_
 refine LV.bslice hS h4 rfl rfl Arf.el22 rfl rfl rfl rfl fun x4_4 T2 n2 h5 ρ its hS hdr => ?_
 refine vy (V.bld h5 rfl) fun x5_5 h6 => ?_
 refine LV.bslice hS h6 rfl rfl Arf.el24 rfl rfl rfl rfl fun x6_6 T3 n3 h7 ρ its hS hdr => ?_
 refine LV.call hS h7 (g8_ok _ _ _ _ ) hP rfl rfl rfl rfl fun x7_7 T4 n4 h8 ρ its hS => ?_
 refine vy (V.eq h8 rfl rfl) fun x8_8 h9 => ?_
 refine as_ ?_
 refine dn ?_
 refine CV.ret ?_
 cases h9
 exact PV.ret (by simp) Tryd.results4 hS (RS.tmp rfl RS.nil) rfl
noncomputable def g13 (ro : List HT) (a0 : AV) (T : HT) (nx : Nat) : R :=
 slEqK Tryd.prog .eql false 22 (.tmp 3) (.const (.slice none 0 0)) 130003 a0 fun x4_1 =>
 condK 130004 x4_1
 (
  .bad 130005
 )
 (
  bs0K T nx 3 1 fun x5_2 T1 n1 =>
  shrK 130009 T1 x5_2 fun T2 =>
  appEK 130008 T2 ro n1 3 1 8 x5_2 a0 fun x7_3 T3 n3 =>
  .ok (.val x7_3) T3 n3
 )
theorem g13_ok (ro : List HT) (a0 : AV) (T : HT) (nx : Nat) : GOk Tryd.prog (envE pn pm) 13 [a0] ro T nx (g13 ro a0 T nx) := by
 refine GOk.of_body Tryd.func13 rfl Tryd.ntmps13 (by kernel_rfl) rfl fun r T' n' h1 w0 base ρ0 its hS hP => ?_
 have X : CtxW (envE pn pm) ρ0 ro r T' n' := trivial
 unfold g13 at h1
 refine sr ?_
 refine as_ ?_
 refine dn ?_
 refine CV.seq ?_
 refine sr ?_
 refine mv ?_
 refine vy (V.slEq h1 rfl Arf.slt22) fun x4_1 h2 => ?_
 refine dn ?_
 refine CV.cond h2 rfl (fun e h3 => ?_) (fun e h3 => ?_)
 ·
  clear h1 h2
  subst e
  cases h3
 ·
  clear h1 h2
  subst e
  refine CV.skip ?_
  refine PV.thenN ?_
  refine sr ?_
  refine LV.bs0 hS h3 rfl Arf.el22 rfl rfl rfl fun x5_2 T1 n1 h4 ρ its hS hdr => ?_
  refine mv ?_
  obtain ⟨T2, its1, h5, hS, hW⟩ := shrK_inv hS h4
  refine LV.world hW ?_
  refine LV.appE hS h5 rfl rfl rfl rfl Arf.el22 rfl rfl rfl fun x7_3 T3 n3 h6 ρ its hS => ?_
  refine as_ ?_
  refine dn ?_
  refine CV.ret ?_
  cases h6
  exact PV.ret (by simp) Tryd.results13 hS (RS.tmp rfl RS.nil) rfl
noncomputable def g6_k1 (ro : List HT) (y0 y1 y12 : AV) (T1 : HT) (n1 : Nat) : R :=
 condK 60005 y12
 (
  .ok (.val (.lit (.slice none 0 0))) T1 n1
 )
 (
  iaK 60009 y0 y1 5 fun x15_2 =>
  faK 60010 x15_2 4 fun x16_3 =>
  ldK 60011 T1 ro x16_3 fun x17_4 =>
  callK (g13 ro x17_4 T1 n1) fun x18_5 T2 n2 =>
  .ok (.val x18_5) T2 n2
 )
noncomputable def g6 (ro : List HT) (a0 a1 : AV) (T : HT) (nx : Nat) : R :=
 ltK Tryd.prog 3 (.tmp 5) (.const (.int .i64 (.ofNat 0))) 60003 a1 (.lit (.int .i64 (.ofNat 0))) fun x6_1 =>
 condK 60014 x6_1
 (
  g6_k1 ro a0 a1 (.lit (.bool true)) T nx
 )
 (
  lenSK 60018 a0 fun x10_6 =>
  geK Tryd.prog 3 (.tmp 8) (.tmp 10) 60019 a1 x10_6 fun x11_7 =>
  g6_k1 ro a0 a1 x11_7 T nx
 )
theorem g6_ok (ro : List HT) (a0 a1 : AV) (T : HT) (nx : Nat) : GOk Tryd.prog (envE pn pm) 6 [a0, a1] ro T nx (g6 ro a0 a1 T nx) := by
 refine GOk.of_body Tryd.func6 rfl Tryd.ntmps6 (by kernel_rfl) rfl fun r T' n' h1 w0 base ρ0 its hS hP => ?_
 have X : CtxW (envE pn pm) ρ0 ro r T' n' := trivial
 unfold g6 at h1
 refine sr ?_
 refine as_ ?_
 refine dn ?_
 refine CV.seq ?_
 refine sr ?_
 refine mv ?_
 refine vy (V.lt h1 rfl rfl) fun x6_1 h2 => ?_
 refine mv ?_
 refine ls3 X 0 1 12 [(4, (.lit (.slice none 0 0)))] (g6_k1 ro) 5 ?_ ?_
 ·
  rcases condK_inv h2 with ⟨e, h9⟩ | ⟨e, h9⟩
  ·
   clear h1 h2
   subst e
   refine sk ?_
   refine sk ?_
   refine sk ?_
   refine sk ?_
   refine pu ?_
   exact la3 hS h9 ⟨rfl, rfl, rfl, rfl, trivial⟩
  ·
   clear h1 h2
   subst e
   refine mv ?_
   refine mv ?_
   refine vy (V.lenS h9 rfl Arf.ls24) fun x10_6 h10 => ?_
   refine vy (V.ge h10 rfl rfl) fun x11_7 h11 => ?_
   refine pu ?_
   exact la3 hS h11 ⟨rfl, rfl, rfl, rfl, trivial⟩
 ·
  intro y0 y1 y12 T1 n1 ρ its hS h3
  unfold g6_k1 at h3
  clear h1 h2
  refine dn ?_
  refine CV.cond h3 rfl (fun e h4 => ?_) (fun e h4 => ?_)
  ·
   clear h3
   subst e
   refine sr ?_
   refine as_ ?_
   refine dn ?_
   refine CV.ret ?_
   refine PV.thenR ?_
   cases h4
   exact PV.ret (by simp) Tryd.results6 hS (RS.tmp rfl RS.nil) rfl
  ·
   clear h3
   subst e
   refine CV.skip ?_
   refine PV.thenN ?_
   refine sr ?_
   refine mv ?_
   refine mv ?_
   refine vy (V.ia h4 rfl rfl Arf.el24) fun x15_2 h5 => ?_
   refine vy (V.fa h5 rfl Arf.fo28_4) fun x16_3 h6 => ?_
   refine vy (V.ld hS h6 rfl Arf.one22) fun x17_4 h7 => ?_
   refine LV.call hS h7 (g13_ok _ _ _ _ ) hP rfl rfl rfl rfl fun x18_5 T2 n2 h8 ρ its hS => ?_
   refine as_ ?_
   refine dn ?_
   refine CV.ret ?_
   cases h8
   exact PV.ret (by simp) Tryd.results6 hS (RS.tmp rfl RS.nil) rfl
noncomputable def g28_k3 (ro : List HT) (y20 : AV) (T3 : HT) (n3 : Nat) : R :=
 .ok (.val y20) T3 n3
noncomputable def g28_k2 (ro : List HT) (y0 y16 : AV) (T2 : HT) (n2 : Nat) : R :=
 condK 280008 y16
 (
  g28_k3 ro (.lit (.bool true)) T2 n2
 )
 (
  eqK Tryd.prog 5 (.tmp 18) (.const (.int .u8 (.ofNat 95))) 280011 y0 (.lit (.int .u8 (.ofNat 95))) fun x19_2 =>
  g28_k3 ro x19_2 T2 n2
 )
noncomputable def g28_k4 (ro : List HT) (y0 y15 : AV) (T4 : HT) (n4 : Nat) : R :=
 g28_k2 ro y0 y15 T4 n4
noncomputable def g28_k1 (ro : List HT) (y0 y8 : AV) (T1 : HT) (n1 : Nat) : R :=
 condK 280013 y8
 (
  g28_k2 ro y0 (.lit (.bool true)) T1 n1
 )
 (
  geK Tryd.prog 5 (.tmp 10) (.const (.int .u8 (.ofNat 65))) 280016 y0 (.lit (.int .u8 (.ofNat 65))) fun x11_3 =>
  condK 280019 x11_3
  (
   leK Tryd.prog 5 (.tmp 13) (.const (.int .u8 (.ofNat 90))) 280021 y0 (.lit (.int .u8 (.ofNat 90))) fun x14_4 =>
   g28_k4 ro y0 x14_4 T1 n1
  )
  (
   g28_k4 ro y0 (.lit (.bool false)) T1 n1
  )
 )
noncomputable def g28 (ro : List HT) (a0 : AV) (T : HT) (nx : Nat) : R :=
 geK Tryd.prog 5 (.tmp 3) (.const (.int .u8 (.ofNat 97))) 280003 a0 (.lit (.int .u8 (.ofNat 97))) fun x4_1 =>
 condK 280024 x4_1
 (
  leK Tryd.prog 5 (.tmp 6) (.const (.int .u8 (.ofNat 122))) 280026 a0 (.lit (.int .u8 (.ofNat 122))) fun x7_5 =>
  g28_k1 ro a0 x7_5 T nx
 )
 (
  g28_k1 ro a0 (.lit (.bool false)) T nx
 )
theorem g28_ok (ro : List HT) (a0 : AV) (T : HT) (nx : Nat) : GOk Tryd.prog (envE pn pm) 28 [a0] ro T nx (g28 ro a0 T nx) := by
 refine GOk.of_body Tryd.func28 rfl Tryd.ntmps28 (by kernel_rfl) rfl fun r T' n' h1 w0 base ρ0 its hS hP => ?_
 have X : CtxW (envE pn pm) ρ0 ro r T' n' := trivial
 unfold g28 at h1
 refine sr ?_
 refine as_ ?_
 refine dn ?_
 refine sr ?_
 refine mv ?_
 refine vy (V.ge h1 rfl rfl) fun x4_1 h2 => ?_
 refine mv ?_
 refine ls2 X 0 8 [(2, (.lit (.bool false)))] (g28_k1 ro) 3 ?_ ?_
 ·
  rcases condK_inv h2 with ⟨e, h13⟩ | ⟨e, h13⟩
  ·
   clear h1 h2
   subst e
   refine mv ?_
   refine vy (V.le h13 rfl rfl) fun x7_5 h14 => ?_
   refine pu ?_
   exact la2 hS h14 ⟨rfl, rfl, rfl, trivial⟩
  ·
   clear h1 h2
   subst e
   refine sk ?_
   refine sk ?_
   refine pu ?_
   exact la2 hS h13 ⟨rfl, rfl, rfl, trivial⟩
 ·
  intro y0 y8 T1 n1 ρ its hS h3
  unfold g28_k1 at h3
  clear h1 h2
  refine mv ?_
  refine ls2 X 0 16 [(2, (.lit (.bool false)))] (g28_k2 ro) 7 ?_ ?_
  ·
   rcases condK_inv h3 with ⟨e, h8⟩ | ⟨e, h8⟩
   ·
    clear h3
    subst e
    refine sk ?_
    refine sk ?_
    refine sk ?_
    refine sk ?_
    refine sk ?_
    refine sk ?_
    refine pu ?_
    exact la2 hS h8 ⟨rfl, rfl, rfl, trivial⟩
   ·
    clear h3
    subst e
    refine mv ?_
    refine vy (V.ge h8 rfl rfl) fun x11_3 h9 => ?_
    refine mv ?_
    refine ls2 X 0 15 [(2, (.lit (.bool false))), (9, (.lit (.bool false)))] (g28_k4 ro) 3 ?_ ?_
    ·
     rcases condK_inv h9 with ⟨e, h11⟩ | ⟨e, h11⟩
     ·
      clear h8 h9
      subst e
      refine mv ?_
      refine vy (V.le h11 rfl rfl) fun x14_4 h12 => ?_
      refine pu ?_
      exact la2 hS h12 ⟨rfl, rfl, rfl, rfl, trivial⟩
     ·
      clear h8 h9
      subst e
      refine sk ?_
      refine sk ?_
      refine pu ?_
      exact la2 hS h11 ⟨rfl, rfl, rfl, rfl, trivial⟩
    ·
     intro y0 y15 T4 n4 ρ its hS h10
     unfold g28_k4 at h10
     clear h8 h9
     refine pu ?_
     exact la2 hS h10 ⟨rfl, rfl, rfl, trivial⟩
  ·
   intro y0 y16 T2 n2 ρ its hS h4
   unfold g28_k2 at h4
   clear h3
   refine mv ?_
   refine ls1 X 20 [(2, (.lit (.bool false)))] (g28_k3 ro) 3 ?_ ?_
   ·
    rcases condK_inv h4 with ⟨e, h6⟩ | ⟨e, h6⟩
    ·
     clear h4
     subst e
     refine sk ?_
     refine sk ?_
     refine pu ?_
     exact la1 hS h6 ⟨rfl, rfl, trivial⟩
    ·
     clear h4
     subst e
     refine mv ?_
     refine vy (V.eq h6 rfl rfl) fun x19_2 h7 => ?_
     refine pu ?_
     exact la1 hS h7 ⟨rfl, rfl, trivial⟩
   ·
    intro y20 T3 n3 ρ its hS h5
    unfold g28_k3 at h5
    clear h4
    refine as_ ?_
    refine dn ?_
    refine CV.ret ?_
    cases h5
    exact PV.ret (by simp) Tryd.results28 hS (RS.tmp rfl RS.nil) rfl
noncomputable def g29_k1 (ro : List HT) (y8 : AV) (T1 : HT) (n1 : Nat) : R :=
 .ok (.val y8) T1 n1
noncomputable def g29 (ro : List HT) (a0 : AV) (T : HT) (nx : Nat) : R :=
 geK Tryd.prog 5 (.tmp 3) (.const (.int .u8 (.ofNat 48))) 290003 a0 (.lit (.int .u8 (.ofNat 48))) fun x4_1 =>
 condK 290006 x4_1
 (
  leK Tryd.prog 5 (.tmp 6) (.const (.int .u8 (.ofNat 57))) 290008 a0 (.lit (.int .u8 (.ofNat 57))) fun x7_2 =>
  g29_k1 ro x7_2 T nx
 )
 (
  g29_k1 ro (.lit (.bool false)) T nx
 )
theorem g29_ok (ro : List HT) (a0 : AV) (T : HT) (nx : Nat) : GOk Tryd.prog (envE pn pm) 29 [a0] ro T nx (g29 ro a0 T nx) := by
 refine GOk.of_body Tryd.func29 rfl Tryd.ntmps29 (by kernel_rfl) rfl fun r T' n' h1 w0 base ρ0 its hS hP => ?_
 have X : CtxW (envE pn pm) ρ0 ro r T' n' := trivial
 unfold g29 at h1
 refine sr ?_
 refine as_ ?_
 refine dn ?_
 refine sr ?_
 refine mv ?_
 refine vy (V.ge h1 rfl rfl) fun x4_1 h2 => ?_
 refine mv ?_
 refine ls1 X 8 [(2, (.lit (.bool false)))] (g29_k1 ro) 3 ?_ ?_
 ·
  rcases condK_inv h2 with ⟨e, h4⟩ | ⟨e, h4⟩
  ·
   clear h1 h2
   subst e
   refine mv ?_
   refine vy (V.le h4 rfl rfl) fun x7_2 h5 => ?_
   refine pu ?_
   exact la1 hS h5 ⟨rfl, rfl, trivial⟩
  ·
   clear h1 h2
   subst e
   refine sk ?_
   refine sk ?_
   refine pu ?_
   exact la1 hS h4 ⟨rfl, rfl, trivial⟩
 ·
  intro y8 T1 n1 ρ its hS h3
  unfold g29_k1 at h3
  clear h1 h2
  refine as_ ?_
  refine dn ?_
  refine CV.ret ?_
  cases h3
  exact PV.ret (by simp) Tryd.results29 hS (RS.tmp rfl RS.nil) rfl
noncomputable def g55_b1 (ro : List HT) (lp1 : AV → AV → AV → AV → AV → HT → Nat → R) (y0 y1 y4 y7 y8 : AV) (T1 : HT) (n1 : Nat) : R :=
 ltK Tryd.prog 3 (.tmp 8) (.tmp 7) 550006 y8 y7 fun x9_2 =>
 condK 550007 x9_2
 (
  iaK 550013 y0 y8 1 fun x14_3 =>
  ldK 550014 T1 ro x14_3 fun x15_4 =>
  eqTSK Tryd.prog 9 (.tmp 11) (.tmp 15) 550015 y1 x15_4 fun x16_5 =>
  condK 550016 x16_5
  (
   .bad 550017
  )
  (
   addK Tryd.prog 3 (.tmp 8) (.const (.int .i64 (.ofNat 1))) 550018 y8 (.lit (.int .i64 (.ofNat 1))) fun x18_6 =>
   lp1 y0 y1 y4 y7 x18_6 T1 n1
  )
 )
 (
  .ok (.val (.lit (.int .i64 (.negSucc 0)))) T1 n1
 )
noncomputable def g55 (ro : List HT) (a0 a1 : AV) (T : HT) (nx : Nat) : R :=
 lenSK 550003 a0 fun x7_1 =>
 lpf5 550005 (g55_b1 ro) 100000 a0 a1 (.lit (.int .i64 (.ofNat 0))) x7_1 (.lit (.int .i64 (.ofNat 0))) T nx
theorem g55_ok (ro : List HT) (a0 a1 : AV) (T : HT) (nx : Nat) : GOk Tryd.prog (envE pn pm) 55 [a0, a1] ro T nx (g55 ro a0 a1 T nx) := by
 refine GOk.of_body Tryd.func55 rfl Tryd.ntmps55 (by kernel_rfl) rfl fun r T' n' h1 w0 base ρ0 its hS hP => ?_
 have X : CtxW (envE pn pm) ρ0 ro r T' n' := trivial
 unfold g55 at h1
 refine sr ?_
 refine as_ ?_
 refine dn ?_
 refine CV.seq ?_
 refine sr ?_
 refine mv ?_
 refine vy (V.lenS h1 rfl Arf.ls25) fun x7_1 h2 => ?_
 refine mv ?_
 refine dn ?_
 refine CV.block ?_
 refine cl5 X 0 1 4 7 8 [] hS h2 ⟨rfl, rfl, rfl, rfl, rfl, trivial⟩ ?_
 intro f1 y0 y1 y4 y7 y8 T1 n1 ρ its hS h3
 unfold g55_b1 at h3
 clear h1 h2
 refine sr ?_
 refine vy (V.lt h3 rfl rfl) fun x9_2 h4 => ?_
 refine dn ?_
 refine CV.seq ?_
 refine CV.cond h4 rfl (fun e h5 => ?_) (fun e h5 => ?_)
 ·
  clear h3 h4
  subst e
  refine CV.skip ?_
  refine PV.thenN ?_
  refine CV.seq ?_
  refine CV.block ?_
  refine sr ?_
  refine mv ?_
  refine as_ ?_
  refine dn ?_
  refine sr ?_
  refine mv ?_
  refine mv ?_
  refine mv ?_
  refine vy (V.ia h5 rfl rfl Arf.el25) fun x14_3 h6 => ?_
  refine vy (V.ld hS h6 rfl Arf.one9) fun x15_4 h7 => ?_
  refine vy (V.eqTS hS (envE_last _ _) h7 rfl rfl) fun x16_5 h8 => ?_
  refine dn ?_
  refine CV.cond h8 rfl (fun e h9 => ?_) (fun e h9 => ?_)
  ·
   clear h5 h6 h7 h8
   subst e
   cases h9
  ·
   clear h5 h6 h7 h8
   subst e
   refine CV.skip ?_
   refine PV.blockN ?_
   refine PV.thenN ?_
   refine CV.region ?_
   refine vy (V.add h9 rfl rfl) fun x18_6 h10 => ?_
   refine mv ?_
   refine LV.done ?_
   exact pb5 hS h10 ⟨rfl, rfl, rfl, rfl, rfl, trivial⟩
 ·
  clear h3 h4
  subst e
  refine CV.exit ?_
  refine PV.thenE ?_
  refine PV.thenE ?_
  refine PV.blockE ?_
  refine PV.thenN ?_
  refine sr ?_
  refine as_ ?_
  refine dn ?_
  refine CV.ret ?_
  cases h5
  exact PV.ret (by simp) Tryd.results55 hS (RS.tmp rfl RS.nil) rfl
noncomputable def g30 (ro : List HT) (a0 a1 : AV) (T : HT) (nx : Nat) : R :=
 callK (g55 ro a0 a1 T nx) fun x7_1 T1 n1 =>
 geK Tryd.prog 3 (.tmp 7) (.const (.int .i64 (.ofNat 0))) 300005 x7_1 (.lit (.int .i64 (.ofNat 0))) fun x8_2 =>
 .ok (.val x8_2) T1 n1
theorem g30_ok (ro : List HT) (a0 a1 : AV) (T : HT) (nx : Nat) : GOk Tryd.prog (envE pn pm) 30 [a0, a1] ro T nx (g30 ro a0 a1 T nx) := by
 refine GOk.of_body Tryd.func30 rfl Tryd.ntmps30 (by kernel_rfl) rfl fun r T' n' h1 w0 base ρ0 its hS hP => ?_
 have X : CtxW (envE pn pm) ρ0 ro r T' n' := trivial
 unfold g30 at h1
 refine sr ?_
 refine as_ ?_
 refine dn ?_
 refine sr ?_
 refine mv ?_
 refine mv ?_
 refine LV.call hS h1 (g55_ok _ _ _ _ _ ) hP rfl rfl rfl rfl fun x7_1 T1 n1 h2 ρ its hS => ?_
 refine vy (V.ge h2 rfl rfl) fun x8_2 h3 => ?_
 refine as_ ?_
 refine dn ?_
 refine CV.ret ?_
 cases h3
 exact PV.ret (by simp) Tryd.results30 hS (RS.tmp rfl RS.nil) rfl
noncomputable def g31 (ro : List HT) (T : HT) (nx : Nat) : R :=
 bsK 310002 T nx 17 9 1 [(0, (.lit (.string ⟨⟨[70, 97, 108, 115, 101]⟩⟩))), (1, (.lit (.string ⟨⟨[78, 111, 110, 101]⟩⟩))), (2, (.lit (.string ⟨⟨[84, 114, 117, 101]⟩⟩))), (3, (.lit (.string ⟨⟨[97, 110, 100]⟩⟩))), (4, (.lit (.string ⟨⟨[98, 114, 101, 97, 107]⟩⟩))), (5, (.lit (.string ⟨⟨[99, 111, 110, 116, 105, 110, 117, 101]⟩⟩))), (6, (.lit (.string ⟨⟨[100, 101, 102]⟩⟩))), (7, (.lit (.string ⟨⟨[101, 108, 105, 102]⟩⟩))), (8, (.lit (.string ⟨⟨[101, 108, 115, 101]⟩⟩))), (9, (.lit (.string ⟨⟨[102, 111, 114]⟩⟩))), (10, (.lit (.string ⟨⟨[105, 102]⟩⟩))), (11, (.lit (.string ⟨⟨[105, 110]⟩⟩))), (12, (.lit (.string ⟨⟨[108, 111, 97, 100]⟩⟩))), (13, (.lit (.string ⟨⟨[110, 111, 116]⟩⟩))), (14, (.lit (.string ⟨⟨[111, 114]⟩⟩))), (15, (.lit (.string ⟨⟨[112, 97, 115, 115]⟩⟩))), (16, (.lit (.string ⟨⟨[114, 101, 116, 117, 114, 110]⟩⟩)))] fun x1_1 T1 n1 =>
 .ok (.val x1_1) T1 n1
theorem g31_ok (ro : List HT) (T : HT) (nx : Nat) : GOk Tryd.prog (envE pn pm) 31 [] ro T nx (g31 ro T nx) := by
 refine GOk.of_body Tryd.func31 rfl Tryd.ntmps31 (by kernel_rfl) rfl fun r T' n' h1 w0 base ρ0 its hS hP => ?_
 have X : CtxW (envE pn pm) ρ0 ro r T' n' := trivial
 unfold g31 at h1
 refine sr ?_
 refine as_ ?_
 refine dn ?_
 refine sr ?_
 refine LV.bslice hS h1 rfl rfl Arf.el25 rfl rfl rfl rfl fun x1_1 T1 n1 h2 ρ its hS hdr => ?_
 refine as_ ?_
 refine dn ?_
 refine CV.ret ?_
 cases h2
 exact PV.ret (by simp) Tryd.results31 hS (RS.tmp rfl RS.nil) rfl
noncomputable def g21_k2 (ro : List HT) (lp1 : AV → AV → AV → AV → HT → Nat → R) (y0 y2 y5 y6 y24 : AV) (T3 : HT) (n3 : Nat) : R :=
 condK 210016 y24
 (
  .bad 210017
 )
 (
  addK Tryd.prog 3 (.tmp 6) (.const (.int .i64 (.ofNat 1))) 210018 y6 (.lit (.int .i64 (.ofNat 1))) fun x25_6 =>
  lp1 y0 y2 y5 x25_6 T3 n3
 )
noncomputable def g21_k3 (ro : List HT) (lp1 : AV → AV → AV → AV → HT → Nat → R) (y0 y2 y5 y6 y23 : AV) (T4 : HT) (n4 : Nat) : R :=
 g21_k2 ro lp1 y0 y2 y5 y6 y23 T4 n4
noncomputable def g21_k4 (ro : List HT) (y2 y33 : AV) (T6 : HT) (n6 : Nat) : R :=
 .ok (.val y33) T6 n6
noncomputable def g21_b1 (ro : List HT) (lp1 : AV → AV → AV → AV → HT → Nat → R) (y0 y2 y5 y6 : AV) (T1 : HT) (n1 : Nat) : R :=
 ltK Tryd.prog 3 (.tmp 6) (.tmp 5) 210006 y6 y5 fun x7_2 =>
 condK 210007 x7_2
 (
  ixK 210012 y0 y6 fun x11_3 =>
  callK (g28 ro x11_3 T1 n1) fun x12_4 T2 n2 =>
  notK 210014 x12_4 fun x13_5 =>
  condK 210020 x13_5
  (
   eqK Tryd.prog 3 (.tmp 15) (.const (.int .i64 (.ofNat 0))) 210022 y6 (.lit (.int .i64 (.ofNat 0))) fun x16_7 =>
   condK 210025 x16_7
   (
    g21_k3 ro lp1 y0 y2 y5 y6 (.lit (.bool true)) T2 n2
   )
   (
    ixK 210029 y0 y6 fun x20_8 =>
    callK (g29 ro x20_8 T2 n2) fun x21_9 T5 n5 =>
    notK 210031 x21_9 fun x22_10 =>
    g21_k3 ro lp1 y0 y2 y5 y6 x22_10 T5 n5
   )
  )
  (
   g21_k2 ro lp1 y0 y2 y5 y6 (.lit (.bool false)) T2 n2
  )
 )
 (
  neTSK Tryd.prog 9 (.tmp 26) (.const (.string ⟨⟨[]⟩⟩)) 210035 y0 (.lit (.string ⟨⟨[]⟩⟩)) fun x27_11 =>
  condK 210038 x27_11
  (
   callK (g31 ro T1 n1) fun x29_12 T7 n7 =>
   callK (g30 ro x29_12 y0 T7 n7) fun x31_13 T8 n8 =>
   notK 210042 x31_13 fun x32_14 =>
   g21_k4 ro y2 x32_14 T8 n8
  )
  (
   g21_k4 ro y2 (.lit (.bool false)) T1 n1
  )
 )
noncomputable def g21 (ro : List HT) (a0 : AV) (T : HT) (nx : Nat) : R :=
 lenTK 210003 a0 fun x5_1 =>
 lpf4 210005 (g21_b1 ro) 100000 a0 (.lit (.bool false)) x5_1 (.lit (.int .i64 (.ofNat 0))) T nx
theorem g21_ok (ro : List HT) (a0 : AV) (T : HT) (nx : Nat) : GOk Tryd.prog (envE pn pm) 21 [a0] ro T nx (g21 ro a0 T nx) := by
 refine GOk.of_body Tryd.func21 rfl Tryd.ntmps21 (by kernel_rfl) rfl fun r T' n' h1 w0 base ρ0 its hS hP => ?_
 have X : CtxW (envE pn pm) ρ0 ro r T' n' := trivial
 unfold g21 at h1
 refine sr ?_
 refine as_ ?_
 refine dn ?_
 refine CV.seq ?_
 refine sr ?_
 refine mv ?_
 refine vy (V.lenT h1 rfl Arf.ls9) fun x5_1 h2 => ?_
 refine mv ?_
 refine dn ?_
 refine CV.block ?_
 refine cl4 X 0 2 5 6 [] hS h2 ⟨rfl, rfl, rfl, rfl, trivial⟩ ?_
 intro f1 y0 y2 y5 y6 T1 n1 ρ its hS h3
 unfold g21_b1 at h3
 clear h1 h2
 refine sr ?_
 refine vy (V.lt h3 rfl rfl) fun x7_2 h4 => ?_
 refine dn ?_
 refine CV.seq ?_
 refine CV.cond h4 rfl (fun e h5 => ?_) (fun e h5 => ?_)
 ·
  clear h3 h4
  subst e
  refine CV.skip ?_
  refine PV.thenN ?_
  refine CV.seq ?_
  refine CV.block ?_
  refine sr ?_
  refine mv ?_
  refine as_ ?_
  refine dn ?_
  refine sr ?_
  refine mv ?_
  refine mv ?_
  refine vy (V.ix h5 rfl rfl Arf.st9) fun x11_3 h6 => ?_
  refine LV.call hS h6 (g28_ok _ _ _ _ ) hP rfl rfl rfl rfl fun x12_4 T2 n2 h7 ρ its hS => ?_
  refine vy (V.not h7 rfl) fun x13_5 h8 => ?_
  refine mv ?_
  refine ls5 X 0 2 5 6 24 [] (g21_k2 ro (lpf4 210005 (g21_b1 ro) f1)) 10 ?_ ?_
  ·
   rcases condK_inv h8 with ⟨e, h12⟩ | ⟨e, h12⟩
   ·
    clear h5 h6 h7 h8
    subst e
    refine mv ?_
    refine vy (V.eq h12 rfl rfl) fun x16_7 h13 => ?_
    refine mv ?_
    refine ls5 X 0 2 5 6 23 [(14, (.lit (.bool true)))] (g21_k3 ro (lpf4 210005 (g21_b1 ro) f1)) 6 ?_ ?_
    ·
     rcases condK_inv h13 with ⟨e, h15⟩ | ⟨e, h15⟩
     ·
      clear h12 h13
      subst e
      refine sk ?_
      refine sk ?_
      refine sk ?_
      refine sk ?_
      refine sk ?_
      refine pu ?_
      exact la5 hS h15 ⟨rfl, rfl, rfl, rfl, rfl, rfl, trivial⟩
     ·
      clear h12 h13
      subst e
      refine mv ?_
      refine mv ?_
      refine vy (V.ix h15 rfl rfl Arf.st9) fun x20_8 h16 => ?_
      refine LV.call hS h16 (g29_ok _ _ _ _ ) hP rfl rfl rfl rfl fun x21_9 T5 n5 h17 ρ its hS => ?_
      refine vy (V.not h17 rfl) fun x22_10 h18 => ?_
      refine pu ?_
      exact la5 hS h18 ⟨rfl, rfl, rfl, rfl, rfl, rfl, trivial⟩
    ·
     intro y0 y2 y5 y6 y23 T4 n4 ρ its hS h14
     unfold g21_k3 at h14
     clear h12 h13
     refine pu ?_
     exact la5 hS h14 ⟨rfl, rfl, rfl, rfl, rfl, trivial⟩
   ·
    clear h5 h6 h7 h8
    subst e
    refine sk ?_
    refine sk ?_
    refine sk ?_
    refine sk ?_
    refine sk ?_
    refine sk ?_
    refine sk ?_
    refine sk ?_
    refine sk ?_
    refine pu ?_
    exact la5 hS h12 ⟨rfl, rfl, rfl, rfl, rfl, trivial⟩
  ·
   intro y0 y2 y5 y6 y24 T3 n3 ρ its hS h9
   unfold g21_k2 at h9
   clear h5 h6 h7 h8
   refine dn ?_
   refine CV.cond h9 rfl (fun e h10 => ?_) (fun e h10 => ?_)
   ·
    clear h9
    subst e
    cases h10
   ·
    clear h9
    subst e
    refine CV.skip ?_
    refine PV.blockN ?_
    refine PV.thenN ?_
    refine CV.region ?_
    refine vy (V.add h10 rfl rfl) fun x25_6 h11 => ?_
    refine mv ?_
    refine LV.done ?_
    exact pb4 hS h11 ⟨rfl, rfl, rfl, rfl, trivial⟩
 ·
  clear h3 h4
  subst e
  refine CV.exit ?_
  refine PV.thenE ?_
  refine PV.thenE ?_
  refine PV.blockE ?_
  refine PV.thenN ?_
  refine sr ?_
  refine mv ?_
  refine vy (V.neTS hS (envE_last _ _) h5 rfl rfl) fun x27_11 h19 => ?_
  refine mv ?_
  refine ls2 X 2 33 [] (g21_k4 ro) 5 ?_ ?_
  ·
   rcases condK_inv h19 with ⟨e, h21⟩ | ⟨e, h21⟩
   ·
    clear h5 h19
    subst e
    refine LV.call hS h21 (g31_ok _ _ _ ) hP rfl rfl rfl rfl fun x29_12 T7 n7 h22 ρ its hS => ?_
    refine mv ?_
    refine LV.call hS h22 (g30_ok _ _ _ _ _ ) hP rfl rfl rfl rfl fun x31_13 T8 n8 h23 ρ its hS => ?_
    refine vy (V.not h23 rfl) fun x32_14 h24 => ?_
    refine pu ?_
    exact la2 hS h24 ⟨rfl, rfl, trivial⟩
   ·
    clear h5 h19
    subst e
    refine sk ?_
    refine sk ?_
    refine sk ?_
    refine sk ?_
    refine pu ?_
    exact la2 hS h21 ⟨rfl, rfl, trivial⟩
  ·
   intro y2 y33 T6 n6 ρ its hS h20
   unfold g21_k4 at h20
   clear h5 h19
   refine as_ ?_
   refine dn ?_
   refine CV.ret ?_
   cases h20
   exact PV.ret (by simp) Tryd.results21 hS (RS.tmp rfl RS.nil) rfl
noncomputable def g42_k1 (ro : List HT) (y8 : AV) (T1 : HT) (n1 : Nat) : R :=
 .ok (.val y8) T1 n1
noncomputable def g42 (ro : List HT) (a0 : AV) (T : HT) (nx : Nat) : R :=
 geK Tryd.prog 3 (.tmp 3) (.const (.int .i64 (.ofNat 35))) 420003 a0 (.lit (.int .i64 (.ofNat 35))) fun x4_1 =>
 condK 420006 x4_1
 (
  leK Tryd.prog 3 (.tmp 6) (.const (.int .i64 (.ofNat 45))) 420008 a0 (.lit (.int .i64 (.ofNat 45))) fun x7_2 =>
  g42_k1 ro x7_2 T nx
 )
 (
  g42_k1 ro (.lit (.bool false)) T nx
 )
theorem g42_ok (ro : List HT) (a0 : AV) (T : HT) (nx : Nat) : GOk Tryd.prog (envE pn pm) 42 [a0] ro T nx (g42 ro a0 T nx) := by
 refine GOk.of_body Tryd.func42 rfl Tryd.ntmps42 (by kernel_rfl) rfl fun r T' n' h1 w0 base ρ0 its hS hP => ?_
 have X : CtxW (envE pn pm) ρ0 ro r T' n' := trivial
 unfold g42 at h1
 refine sr ?_
 refine as_ ?_
 refine dn ?_
 refine sr ?_
 refine mv ?_
 refine vy (V.ge h1 rfl rfl) fun x4_1 h2 => ?_
 refine mv ?_
 refine ls1 X 8 [(2, (.lit (.bool false)))] (g42_k1 ro) 3 ?_ ?_
 ·
  rcases condK_inv h2 with ⟨e, h4⟩ | ⟨e, h4⟩
  ·
   clear h1 h2
   subst e
   refine mv ?_
   refine vy (V.le h4 rfl rfl) fun x7_2 h5 => ?_
   refine pu ?_
   exact la1 hS h5 ⟨rfl, rfl, trivial⟩
  ·
   clear h1 h2
   subst e
   refine sk ?_
   refine sk ?_
   refine pu ?_
   exact la1 hS h4 ⟨rfl, rfl, trivial⟩
 ·
  intro y8 T1 n1 ρ its hS h3
  unfold g42_k1 at h3
  clear h1 h2
  refine as_ ?_
  refine dn ?_
  refine CV.ret ?_
  cases h3
  exact PV.ret (by simp) Tryd.results42 hS (RS.tmp rfl RS.nil) rfl
noncomputable def g41 (ro : List HT) (a0 : AV) (T : HT) (nx : Nat) : R :=
 boxK 410001 T nx a0 28 fun x1_1 T1 n1 =>
 faK 410003 x1_1 0 fun x3_2 =>
 ldK 410004 T1 ro x3_2 fun x4_3 =>
 callK (g42 ro x4_3 T1 n1) fun x5_4 T2 n2 =>
 .ok (.val x5_4) T2 n2
theorem g41_ok (ro : List HT) (a0 : AV) (T : HT) (nx : Nat) : GOk Tryd.prog (envE pn pm) 41 [a0] ro T nx (g41 ro a0 T nx) := by
 refine GOk.of_body Tryd.func41 rfl Tryd.ntmps41 (by kernel_rfl) rfl fun r T' n' h1 w0 base ρ0 its hS hP => ?_
 have X : CtxW (envE pn pm) ρ0 ro r T' n' := trivial
 unfold g41 at h1
 refine sr ?_
 refine LV.box hS h1 rfl rfl rfl rfl rfl fun x1_1 T1 n1 h2 ρ its hS hdr => ?_
 refine as_ ?_
 refine dn ?_
 refine sr ?_
 refine vy (V.fa h2 rfl Arf.fo28_0) fun x3_2 h3 => ?_
 refine vy (V.ld hS h3 rfl Arf.one3) fun x4_3 h4 => ?_
 refine LV.call hS h4 (g42_ok _ _ _ _ ) hP rfl rfl rfl rfl fun x5_4 T2 n2 h5 ρ its hS => ?_
 refine as_ ?_
 refine dn ?_
 refine CV.ret ?_
 cases h5
 exact PV.ret (by simp) Tryd.results41 hS (RS.tmp rfl RS.nil) rfl
noncomputable def g36_k3 (ro : List HT) (y16 : AV) (T3 : HT) (n3 : Nat) : R :=
 .ok (.val y16) T3 n3
noncomputable def g36_k2 (ro : List HT) (y0 y12 : AV) (T2 : HT) (n2 : Nat) : R :=
 condK 360008 y12
 (
  neK Tryd.prog 3 (.tmp 14) (.const (.int .i64 (.ofNat 15))) 360010 y0 (.lit (.int .i64 (.ofNat 15))) fun x15_2 =>
  g36_k3 ro x15_2 T2 n2
 )
 (
  g36_k3 ro (.lit (.bool false)) T2 n2
 )
noncomputable def g36_k1 (ro : List HT) (y0 y8 : AV) (T1 : HT) (n1 : Nat) : R :=
 condK 360013 y8
 (
  neK Tryd.prog 3 (.tmp 10) (.const (.int .i64 (.ofNat 11))) 360015 y0 (.lit (.int .i64 (.ofNat 11))) fun x11_3 =>
  g36_k2 ro y0 x11_3 T1 n1
 )
 (
  g36_k2 ro y0 (.lit (.bool false)) T1 n1
 )
noncomputable def g36 (ro : List HT) (a0 : AV) (T : HT) (nx : Nat) : R :=
 geK Tryd.prog 3 (.tmp 3) (.const (.int .i64 (.ofNat 1))) 360003 a0 (.lit (.int .i64 (.ofNat 1))) fun x4_1 =>
 condK 360018 x4_1
 (
  leK Tryd.prog 3 (.tmp 6) (.const (.int .i64 (.ofNat 34))) 360020 a0 (.lit (.int .i64 (.ofNat 34))) fun x7_4 =>
  g36_k1 ro a0 x7_4 T nx
 )
 (
  g36_k1 ro a0 (.lit (.bool false)) T nx
 )
theorem g36_ok (ro : List HT) (a0 : AV) (T : HT) (nx : Nat) : GOk Tryd.prog (envE pn pm) 36 [a0] ro T nx (g36 ro a0 T nx) := by
 refine GOk.of_body Tryd.func36 rfl Tryd.ntmps36 (by kernel_rfl) rfl fun r T' n' h1 w0 base ρ0 its hS hP => ?_
 have X : CtxW (envE pn pm) ρ0 ro r T' n' := trivial
 unfold g36 at h1
 refine sr ?_
 refine as_ ?_
 refine dn ?_
 refine sr ?_
 refine mv ?_
 refine vy (V.ge h1 rfl rfl) fun x4_1 h2 => ?_
 refine mv ?_
 refine ls2 X 0 8 [(2, (.lit (.bool false)))] (g36_k1 ro) 3 ?_ ?_
 ·
  rcases condK_inv h2 with ⟨e, h10⟩ | ⟨e, h10⟩
  ·
   clear h1 h2
   subst e
   refine mv ?_
   refine vy (V.le h10 rfl rfl) fun x7_4 h11 => ?_
   refine pu ?_
   exact la2 hS h11 ⟨rfl, rfl, rfl, trivial⟩
  ·
   clear h1 h2
   subst e
   refine sk ?_
   refine sk ?_
   refine pu ?_
   exact la2 hS h10 ⟨rfl, rfl, rfl, trivial⟩
 ·
  intro y0 y8 T1 n1 ρ its hS h3
  unfold g36_k1 at h3
  clear h1 h2
  refine mv ?_
  refine ls2 X 0 12 [(2, (.lit (.bool false)))] (g36_k2 ro) 3 ?_ ?_
  ·
   rcases condK_inv h3 with ⟨e, h8⟩ | ⟨e, h8⟩
   ·
    clear h3
    subst e
    refine mv ?_
    refine vy (V.ne h8 rfl rfl) fun x11_3 h9 => ?_
    refine pu ?_
    exact la2 hS h9 ⟨rfl, rfl, rfl, trivial⟩
   ·
    clear h3
    subst e
    refine sk ?_
    refine sk ?_
    refine pu ?_
    exact la2 hS h8 ⟨rfl, rfl, rfl, trivial⟩
  ·
   intro y0 y12 T2 n2 ρ its hS h4
   unfold g36_k2 at h4
   clear h3
   refine mv ?_
   refine ls1 X 16 [(2, (.lit (.bool false)))] (g36_k3 ro) 3 ?_ ?_
   ·
    rcases condK_inv h4 with ⟨e, h6⟩ | ⟨e, h6⟩
    ·
     clear h4
     subst e
     refine mv ?_
     refine vy (V.ne h6 rfl rfl) fun x15_2 h7 => ?_
     refine pu ?_
     exact la1 hS h7 ⟨rfl, rfl, trivial⟩
    ·
     clear h4
     subst e
     refine sk ?_
     refine sk ?_
     refine pu ?_
     exact la1 hS h6 ⟨rfl, rfl, trivial⟩
   ·
    intro y16 T3 n3 ρ its hS h5
    unfold g36_k3 at h5
    clear h4
    refine as_ ?_
    refine dn ?_
    refine CV.ret ?_
    cases h5
    exact PV.ret (by simp) Tryd.results36 hS (RS.tmp rfl RS.nil) rfl
noncomputable def g56 (ro : List HT) (a0 : AV) (T : HT) (nx : Nat) : R :=
 boxK 560001 T nx a0 28 fun x1_1 T1 n1 =>
 faK 560003 x1_1 0 fun x3_2 =>
 ldK 560004 T1 ro x3_2 fun x4_3 =>
 callK (g36 ro x4_3 T1 n1) fun x5_4 T2 n2 =>
 .ok (.val x5_4) T2 n2
theorem g56_ok (ro : List HT) (a0 : AV) (T : HT) (nx : Nat) : GOk Tryd.prog (envE pn pm) 56 [a0] ro T nx (g56 ro a0 T nx) := by
 refine GOk.of_body Tryd.func56 rfl Tryd.ntmps56 (by kernel_rfl) rfl fun r T' n' h1 w0 base ρ0 its hS hP => ?_
 have X : CtxW (envE pn pm) ρ0 ro r T' n' := trivial
 unfold g56 at h1
 refine sr ?_
 refine LV.box hS h1 rfl rfl rfl rfl rfl fun x1_1 T1 n1 h2 ρ its hS hdr => ?_
 refine as_ ?_
 refine dn ?_
 refine sr ?_
 refine vy (V.fa h2 rfl Arf.fo28_0) fun x3_2 h3 => ?_
 refine vy (V.ld hS h3 rfl Arf.one3) fun x4_3 h4 => ?_
 refine LV.call hS h4 (g36_ok _ _ _ _ ) hP rfl rfl rfl rfl fun x5_4 T2 n2 h5 ρ its hS => ?_
 refine as_ ?_
 refine dn ?_
 refine CV.ret ?_
 cases h5
 exact PV.ret (by simp) Tryd.results56 hS (RS.tmp rfl RS.nil) rfl
noncomputable def dynF (ro : List HT) (f : FuncId) (args : List AV) (T : HT) (nx : Nat) : R :=
  Bool.rec (motive := fun _ => R) (Bool.rec (motive := fun _ => R) (.bad 2) (List.rec (motive := fun _ => R) (.bad 1) (fun a0 l0 _ => List.rec (motive := fun _ => R) (g56 ro a0 T nx) (fun _ _ _ => .bad 1) l0) args) (Nat.beq f 56)) (Bool.rec (motive := fun _ => R) (.bad 2) (List.rec (motive := fun _ => R) (.bad 1) (fun a0 l0 _ => List.rec (motive := fun _ => R) (g41 ro a0 T nx) (fun _ _ _ => .bad 1) l0) args) (Nat.beq f 41)) (Nat.ble f 41)
theorem dynF_ok (ro : List HT) (f : FuncId) (args : List AV) (T : HT) (nx : Nat) : GOk Tryd.prog (envE pn pm) f args ro T nx (dynF ro f args T nx) := by
  unfold dynF
  refine recb_go (fun hb => ?_) (fun _ => ?_)
  · refine recb_go (fun hb => ?_) (fun _ => ?_)
    · obtain rfl := beqT hb
      rcases args with _ | ⟨a0, l0⟩
      · exact GOk.bad
      rcases l0 with _ | ⟨_, _⟩
      · exact g41_ok _ _ _ _ 
      · exact GOk.bad
    · exact GOk.bad
  · refine recb_go (fun hb => ?_) (fun _ => ?_)
    · obtain rfl := beqT hb
      rcases args with _ | ⟨a0, l0⟩
      · exact GOk.bad
      rcases l0 with _ | ⟨_, _⟩
      · exact g56_ok _ _ _ _ 
      · exact GOk.bad
    · exact GOk.bad
noncomputable def g34_b1 (ro : List HT) (lp1 : AV → AV → AV → AV → AV → AV → HT → Nat → R) (y0 y2 y6 y9 y10 y11 : AV) (T1 : HT) (n1 : Nat) : R :=
 ltK Tryd.prog 3 (.tmp 11) (.tmp 10) 340006 y11 y10 fun x12_2 =>
 condK 340007 x12_2
 (
  iaK 340008 y9 y11 1 fun x13_3 =>
  ldK 340009 T1 ro x13_3 fun x14_4 =>
  fldK 340013 T1 ro y0 0 fun x19_5 =>
  iaK 340015 x19_5 x14_4 5 fun x21_6 =>
  ldAK 340016 T1 ro x21_6 5 fun x22_7 =>
  dynK 340017 y2 fun f p q => callK (dynF ro f (p ++ ([x22_7] ++ q)) T1 n1) fun x23_8 T2 n2 =>
  notK 340018 x23_8 fun x24_9 =>
  condK 340019 x24_9
  (
   .bad 340020
  )
  (
   addK Tryd.prog 3 (.tmp 11) (.const (.int .i64 (.ofNat 1))) 340021 y11 (.lit (.int .i64 (.ofNat 1))) fun x25_10 =>
   lp1 y0 y2 y6 y9 y10 x25_10 T2 n2
  )
 )
 (
  .ok (.val (.lit (.bool true))) T1 n1
 )
noncomputable def g34 (ro : List HT) (a0 a1 a2 : AV) (T : HT) (nx : Nat) : R :=
 lenSK 340003 a1 fun x10_1 =>
 lpf6 340005 (g34_b1 ro) 100000 a0 a2 (.lit (.bool false)) a1 x10_1 (.lit (.int .i64 (.ofNat 0))) T nx
theorem g34_ok (ro : List HT) (a0 a1 a2 : AV) (T : HT) (nx : Nat) : GOk Tryd.prog (envE pn pm) 34 [a0, a1, a2] ro T nx (g34 ro a0 a1 a2 T nx) := by
 refine GOk.of_body Tryd.func34 rfl Tryd.ntmps34 (by kernel_rfl) rfl fun r T' n' h1 w0 base ρ0 its hS hP => ?_
 have X : CtxW (envE pn pm) ρ0 ro r T' n' := trivial
 unfold g34 at h1
 refine sr ?_
 refine as_ ?_
 refine dn ?_
 refine CV.seq ?_
 refine sr ?_
 refine mv ?_
 refine vy (V.lenS h1 rfl Arf.ls22) fun x10_1 h2 => ?_
 refine mv ?_
 refine dn ?_
 refine CV.block ?_
 refine cl6 X 0 2 6 9 10 11 [] hS h2 ⟨rfl, rfl, rfl, rfl, rfl, rfl, trivial⟩ ?_
 intro f1 y0 y2 y6 y9 y10 y11 T1 n1 ρ its hS h3
 unfold g34_b1 at h3
 clear h1 h2
 refine sr ?_
 refine vy (V.lt h3 rfl rfl) fun x12_2 h4 => ?_
 refine dn ?_
 refine CV.seq ?_
 refine CV.cond h4 rfl (fun e h5 => ?_) (fun e h5 => ?_)
 ·
  clear h3 h4
  subst e
  refine CV.skip ?_
  refine PV.thenN ?_
  refine CV.seq ?_
  refine CV.block ?_
  refine sr ?_
  refine vy (V.ia h5 rfl rfl Arf.el22) fun x13_3 h6 => ?_
  refine vy (V.ld hS h6 rfl Arf.one3) fun x14_4 h7 => ?_
  refine as_ ?_
  refine dn ?_
  refine sr ?_
  refine mv ?_
  refine mv ?_
  refine fl hS h7 Arf.fo43_0 Arf.one24 fun x19_5 h8 => ?_
  refine mv ?_
  refine vy (V.ia h8 rfl rfl Arf.el24) fun x21_6 h9 => ?_
  refine vy (V.ldA hS h9 rfl Arf.agg28) fun x22_7 h10 => ?_
  refine LV.callD (G := fun f gs => dynF ro f gs T1 n1) (qs := [x22_7]) hS h10 (fun f gs => dynF_ok _ _ _ _ _) hP rfl rfl rfl rfl rfl rfl rfl fun x23_8 T2 n2 h11 ρ its hS => ?_
  refine vy (V.not h11 rfl) fun x24_9 h12 => ?_
  refine dn ?_
  refine CV.cond h12 rfl (fun e h13 => ?_) (fun e h13 => ?_)
  ·
   clear h5 h6 h7 h8 h9 h10 h11 h12
   subst e
   cases h13
  ·
   clear h5 h6 h7 h8 h9 h10 h11 h12
   subst e
   refine CV.skip ?_
   refine PV.blockN ?_
   refine PV.thenN ?_
   refine CV.region ?_
   refine vy (V.add h13 rfl rfl) fun x25_10 h14 => ?_
   refine mv ?_
   refine LV.done ?_
   exact pb6 hS h14 ⟨rfl, rfl, rfl, rfl, rfl, rfl, trivial⟩
 ·
  clear h3 h4
  subst e
  refine CV.exit ?_
  refine PV.thenE ?_
  refine PV.thenE ?_
  refine PV.blockE ?_
  refine PV.thenN ?_
  refine sr ?_
  refine as_ ?_
  refine dn ?_
  refine CV.ret ?_
  cases h5
  exact PV.ret (by simp) Tryd.results34 hS (RS.tmp rfl RS.nil) rfl
noncomputable def g32_k2 (ro : List HT) (y23 : AV) (T2 : HT) (n2 : Nat) : R :=
 .ok (.val y23) T2 n2
noncomputable def g32_k1 (ro : List HT) (y0 y1 y18 : AV) (T1 : HT) (n1 : Nat) : R :=
 condK 320009 y18
 (
  callK (g34 ro y0 y1 (.lit (.func (.func 56) #[] #[])) T1 n1) fun x22_3 T3 n3 =>
  g32_k2 ro x22_3 T3 n3
 )
 (
  g32_k2 ro (.lit (.bool false)) T1 n1
 )
noncomputable def g32 (ro : List HT) (a0 a1 a2 a3 : AV) (T : HT) (nx : Nat) : R :=
 lenSK 320003 a1 fun x10_1 =>
 geK Tryd.prog 3 (.tmp 10) (.tmp 11) 320005 x10_1 a2 fun x12_2 =>
 condK 320015 x12_2
 (
  lenSK 320017 a1 fun x15_4 =>
  leK Tryd.prog 3 (.tmp 15) (.tmp 16) 320019 x15_4 a3 fun x17_5 =>
  g32_k1 ro a0 a1 x17_5 T nx
 )
 (
  g32_k1 ro a0 a1 (.lit (.bool false)) T nx
 )
theorem g32_ok (ro : List HT) (a0 a1 a2 a3 : AV) (T : HT) (nx : Nat) : GOk Tryd.prog (envE pn pm) 32 [a0, a1, a2, a3] ro T nx (g32 ro a0 a1 a2 a3 T nx) := by
 refine GOk.of_body Tryd.func32 rfl Tryd.ntmps32 (by kernel_rfl) rfl fun r T' n' h1 w0 base ρ0 its hS hP => ?_
 have X : CtxW (envE pn pm) ρ0 ro r T' n' := trivial
 unfold g32 at h1
 refine sr ?_
 refine as_ ?_
 refine dn ?_
 refine sr ?_
 refine mv ?_
 refine vy (V.lenS h1 rfl Arf.ls22) fun x10_1 h2 => ?_
 refine mv ?_
 refine vy (V.ge h2 rfl rfl) fun x12_2 h3 => ?_
 refine mv ?_
 refine ls3 X 0 1 18 [(8, (.lit (.bool false)))] (g32_k1 ro) 5 ?_ ?_
 ·
  rcases condK_inv h3 with ⟨e, h8⟩ | ⟨e, h8⟩
  ·
   clear h1 h2 h3
   subst e
   refine mv ?_
   refine vy (V.lenS h8 rfl Arf.ls22) fun x15_4 h9 => ?_
   refine mv ?_
   refine vy (V.le h9 rfl rfl) fun x17_5 h10 => ?_
   refine pu ?_
   exact la3 hS h10 ⟨rfl, rfl, rfl, rfl, trivial⟩
  ·
   clear h1 h2 h3
   subst e
   refine sk ?_
   refine sk ?_
   refine sk ?_
   refine sk ?_
   refine pu ?_
   exact la3 hS h8 ⟨rfl, rfl, rfl, rfl, trivial⟩
 ·
  intro y0 y1 y18 T1 n1 ρ its hS h4
  unfold g32_k1 at h4
  clear h1 h2 h3
  refine mv ?_
  refine ls1 X 23 [(8, (.lit (.bool false)))] (g32_k2 ro) 4 ?_ ?_
  ·
   rcases condK_inv h4 with ⟨e, h6⟩ | ⟨e, h6⟩
   ·
    clear h4
    subst e
    refine mv ?_
    refine mv ?_
    refine LV.call hS h6 (g34_ok _ _ _ _ _ _ ) hP rfl rfl rfl rfl fun x22_3 T3 n3 h7 ρ its hS => ?_
    refine pu ?_
    exact la1 hS h7 ⟨rfl, rfl, trivial⟩
   ·
    clear h4
    subst e
    refine sk ?_
    refine sk ?_
    refine sk ?_
    refine pu ?_
    exact la1 hS h6 ⟨rfl, rfl, trivial⟩
  ·
   intro y23 T2 n2 ρ its hS h5
   unfold g32_k2 at h5
   clear h4
   refine as_ ?_
   refine dn ?_
   refine CV.ret ?_
   cases h5
   exact PV.ret (by simp) Tryd.results32 hS (RS.tmp rfl RS.nil) rfl
noncomputable def g43_k4 (ro : List HT) (y122 : AV) (T4 : HT) (n4 : Nat) : R :=
 .ok (.val y122) T4 n4
noncomputable def g43_k3 (ro : List HT) (y0 y2 y116 : AV) (T3 : HT) (n3 : Nat) : R :=
 condK 430028 y116
 (
  callK (g32 ro y0 y2 (.lit (.int .i64 (.ofNat 2))) (.lit (.int .i64 (.ofNat 2))) T3 n3) fun x121_6 T5 n5 =>
  g43_k4 ro x121_6 T5 n5
 )
 (
  g43_k4 ro (.lit (.bool false)) T3 n3
 )
noncomputable def g43_k5 (ro : List HT) (y0 y2 y115 : AV) (T6 : HT) (n6 : Nat) : R :=
 g43_k3 ro y0 y2 y115 T6 n6
noncomputable def g43_k2 (ro : List HT) (y0 y1 y2 y108 : AV) (T2 : HT) (n2 : Nat) : R :=
 condK 430034 y108
 (
  g43_k3 ro y0 y2 (.lit (.bool true)) T2 n2
 )
 (
  geK Tryd.prog 3 (.tmp 110) (.const (.int .i64 (.ofNat 21))) 430037 y1 (.lit (.int .i64 (.ofNat 21))) fun x111_7 =>
  condK 430040 x111_7
  (
   leK Tryd.prog 3 (.tmp 113) (.const (.int .i64 (.ofNat 33))) 430042 y1 (.lit (.int .i64 (.ofNat 33))) fun x114_8 =>
   g43_k5 ro y0 y2 x114_8 T2 n2
  )
  (
   g43_k5 ro y0 y2 (.lit (.bool false)) T2 n2
  )
 )
noncomputable def g43_k1 (ro : List HT) (y0 y1 y2 y104 : AV) (T1 : HT) (n1 : Nat) : R :=
 condK 430045 y104
 (
  g43_k2 ro y0 y1 y2 (.lit (.bool true)) T1 n1
 )
 (
  eqK Tryd.prog 3 (.tmp 106) (.const (.int .i64 (.ofNat 19))) 430048 y1 (.lit (.int .i64 (.ofNat 19))) fun x107_9 =>
  g43_k2 ro y0 y1 y2 x107_9 T1 n1
 )
noncomputable def g43 (ro : List HT) (a0 a1 a2 : AV) (T : HT) (nx : Nat) : R :=
 eqK Tryd.prog 3 (.tmp 8) (.const (.int .i64 (.ofNat 36))) 430003 a1 (.lit (.int .i64 (.ofNat 36))) fun x10_1 =>
 condK 430005 x10_1
 (
  .bad 430006
 )
 (
  eqK Tryd.prog 3 (.tmp 8) (.const (.int .i64 (.ofNat 37))) 430007 a1 (.lit (.int .i64 (.ofNat 37))) fun x28_2 =>
  condK 430009 x28_2
  (
   .bad 430010
  )
  (
   eqK Tryd.prog 3 (.tmp 8) (.const (.int .i64 (.ofNat 43))) 430011 a1 (.lit (.int .i64 (.ofNat 43))) fun x53_3 =>
   condK 430013 x53_3
   (
    .bad 430014
   )
   (
    eqK Tryd.prog 3 (.tmp 8) (.const (.int .i64 (.ofNat 44))) 430015 a1 (.lit (.int .i64 (.ofNat 44))) fun x75_4 =>
    condK 430017 x75_4
    (
     .bad 430018
    )
    (
     eqK Tryd.prog 3 (.tmp 99) (.const (.int .i64 (.ofNat 13))) 430020 a1 (.lit (.int .i64 (.ofNat 13))) fun x100_5 =>
     condK 430050 x100_5
     (
      g43_k1 ro a0 a1 a2 (.lit (.bool true)) T nx
     )
     (
      eqK Tryd.prog 3 (.tmp 102) (.const (.int .i64 (.ofNat 18))) 430053 a1 (.lit (.int .i64 (.ofNat 18))) fun x103_10 =>
      g43_k1 ro a0 a1 a2 x103_10 T nx
     )
    )
   )
  )
 )
theorem g43_ok (ro : List HT) (a0 a1 a2 : AV) (T : HT) (nx : Nat) : GOk Tryd.prog (envE pn pm) 43 [a0, a1, a2] ro T nx (g43 ro a0 a1 a2 T nx) := by
 refine GOk.of_body Tryd.func43 rfl Tryd.ntmps43 (by kernel_rfl) rfl fun r T' n' h1 w0 base ρ0 its hS hP => ?_
 have X : CtxW (envE pn pm) ρ0 ro r T' n' := trivial
 unfold g43 at h1
 refine sr ?_
 refine as_ ?_
 refine dn ?_
 refine CV.seq ?_
 refine sr ?_
 refine mv ?_
 refine dn ?_
 refine CV.block ?_
 refine sr ?_
 refine vy (V.eq h1 rfl rfl) fun x10_1 h2 => ?_
 refine as_ ?_
 refine dn ?_
 refine CV.cond h2 rfl (fun e h3 => ?_) (fun e h3 => ?_)
 ·
  clear h1 h2
  subst e
  cases h3
 ·
  clear h1 h2
  subst e
  refine sr ?_
  refine vy (V.eq h3 rfl rfl) fun x28_2 h4 => ?_
  refine as_ ?_
  refine dn ?_
  refine CV.cond h4 rfl (fun e h5 => ?_) (fun e h5 => ?_)
  ·
   clear h3 h4
   subst e
   cases h5
  ·
   clear h3 h4
   subst e
   refine sr ?_
   refine vy (V.eq h5 rfl rfl) fun x53_3 h6 => ?_
   refine as_ ?_
   refine dn ?_
   refine CV.cond h6 rfl (fun e h7 => ?_) (fun e h7 => ?_)
   ·
    clear h5 h6
    subst e
    cases h7
   ·
    clear h5 h6
    subst e
    refine sr ?_
    refine vy (V.eq h7 rfl rfl) fun x75_4 h8 => ?_
    refine as_ ?_
    refine dn ?_
    refine CV.cond h8 rfl (fun e h9 => ?_) (fun e h9 => ?_)
    ·
     clear h7 h8
     subst e
     cases h9
    ·
     clear h7 h8
     subst e
     refine CV.skip ?_
     refine PV.blockN ?_
     refine PV.thenN ?_
     refine sr ?_
     refine mv ?_
     refine vy (V.eq h9 rfl rfl) fun x100_5 h10 => ?_
     refine mv ?_
     refine ls4 X 0 1 2 104 [(6, (.lit (.bool false)))] (g43_k1 ro) 3 ?_ ?_
     ·
      rcases condK_inv h10 with ⟨e, h24⟩ | ⟨e, h24⟩
      ·
       clear h9 h10
       subst e
       refine sk ?_
       refine sk ?_
       refine pu ?_
       exact la4 hS h24 ⟨rfl, rfl, rfl, rfl, rfl, trivial⟩
      ·
       clear h9 h10
       subst e
       refine mv ?_
       refine vy (V.eq h24 rfl rfl) fun x103_10 h25 => ?_
       refine pu ?_
       exact la4 hS h25 ⟨rfl, rfl, rfl, rfl, rfl, trivial⟩
     ·
      intro y0 y1 y2 y104 T1 n1 ρ its hS h11
      unfold g43_k1 at h11
      clear h9 h10
      refine mv ?_
      refine ls4 X 0 1 2 108 [(6, (.lit (.bool false)))] (g43_k2 ro) 3 ?_ ?_
      ·
       rcases condK_inv h11 with ⟨e, h22⟩ | ⟨e, h22⟩
       ·
        clear h11
        subst e
        refine sk ?_
        refine sk ?_
        refine pu ?_
        exact la4 hS h22 ⟨rfl, rfl, rfl, rfl, rfl, trivial⟩
       ·
        clear h11
        subst e
        refine mv ?_
        refine vy (V.eq h22 rfl rfl) fun x107_9 h23 => ?_
        refine pu ?_
        exact la4 hS h23 ⟨rfl, rfl, rfl, rfl, rfl, trivial⟩
      ·
       intro y0 y1 y2 y108 T2 n2 ρ its hS h12
       unfold g43_k2 at h12
       clear h11
       refine mv ?_
       refine ls3 X 0 2 116 [(6, (.lit (.bool false)))] (g43_k3 ro) 7 ?_ ?_
       ·
        rcases condK_inv h12 with ⟨e, h17⟩ | ⟨e, h17⟩
        ·
         clear h12
         subst e
         refine sk ?_
         refine sk ?_
         refine sk ?_
         refine sk ?_
         refine sk ?_
         refine sk ?_
         refine pu ?_
         exact la3 hS h17 ⟨rfl, rfl, rfl, rfl, trivial⟩
        ·
         clear h12
         subst e
         refine mv ?_
         refine vy (V.ge h17 rfl rfl) fun x111_7 h18 => ?_
         refine mv ?_
         refine ls3 X 0 2 115 [(6, (.lit (.bool false))), (109, (.lit (.bool false)))] (g43_k5 ro) 3 ?_ ?_
         ·
          rcases condK_inv h18 with ⟨e, h20⟩ | ⟨e, h20⟩
          ·
           clear h17 h18
           subst e
           refine mv ?_
           refine vy (V.le h20 rfl rfl) fun x114_8 h21 => ?_
           refine pu ?_
           exact la3 hS h21 ⟨rfl, rfl, rfl, rfl, rfl, trivial⟩
          ·
           clear h17 h18
           subst e
           refine sk ?_
           refine sk ?_
           refine pu ?_
           exact la3 hS h20 ⟨rfl, rfl, rfl, rfl, rfl, trivial⟩
         ·
          intro y0 y2 y115 T6 n6 ρ its hS h19
          unfold g43_k5 at h19
          clear h17 h18
          refine pu ?_
          exact la3 hS h19 ⟨rfl, rfl, rfl, rfl, trivial⟩
       ·
        intro y0 y2 y116 T3 n3 ρ its hS h13
        unfold g43_k3 at h13
        clear h12
        refine as_ ?_
        refine dn ?_
        refine sr ?_
        refine mv ?_
        refine mv ?_
        refine ls1 X 122 [(6, (.lit (.bool false)))] (g43_k4 ro) 4 ?_ ?_
        ·
         rcases condK_inv h13 with ⟨e, h15⟩ | ⟨e, h15⟩
         ·
          clear h13
          subst e
          refine mv ?_
          refine mv ?_
          refine LV.call hS h15 (g32_ok _ _ _ _ _ _ _ ) hP rfl rfl rfl rfl fun x121_6 T5 n5 h16 ρ its hS => ?_
          refine pu ?_
          exact la1 hS h16 ⟨rfl, rfl, trivial⟩
         ·
          clear h13
          subst e
          refine sk ?_
          refine sk ?_
          refine sk ?_
          refine pu ?_
          exact la1 hS h15 ⟨rfl, rfl, trivial⟩
        ·
         intro y122 T4 n4 ρ its hS h14
         unfold g43_k4 at h14
         clear h13
         refine as_ ?_
         refine dn ?_
         refine CV.ret ?_
         cases h14
         exact PV.ret (by simp) Tryd.results43 hS (RS.tmp rfl RS.nil) rfl
noncomputable def g22_k5 (ro : List HT) (y0 y3 y4 y5 y155 : AV) (T7 : HT) (n7 : Nat) : R :=
 .ok (.val y155) T7 n7
noncomputable def g22_k4 (ro : List HT) (y0 y3 y4 y5 y9 y55 : AV) (T6 : HT) (n6 : Nat) : R :=
 condK 220028 y55
 (
  .bad 220029
 )
 (
  eqK Tryd.prog 3 (.tmp 9) (.const (.int .i64 (.ofNat 10))) 220030 y9 (.lit (.int .i64 (.ofNat 10))) fun x62_11 =>
  condK 220032 x62_11
  (
   .bad 220033
  )
  (
   eqK Tryd.prog 3 (.tmp 9) (.const (.int .i64 (.ofNat 14))) 220034 y9 (.lit (.int .i64 (.ofNat 14))) fun x72_12 =>
   condK 220036 x72_12
   (
    .bad 220037
   )
   (
    eqK Tryd.prog 3 (.tmp 9) (.const (.int .i64 (.ofNat 34))) 220038 y9 (.lit (.int .i64 (.ofNat 34))) fun x89_13 =>
    condK 220040 x89_13
    (
     .bad 220041
    )
    (
     eqK Tryd.prog 3 (.tmp 9) (.const (.int .i64 (.ofNat 42))) 220042 y9 (.lit (.int .i64 (.ofNat 42))) fun x111_14 =>
     condK 220044 x111_14
     (
      .bad 220045
     )
     (
      eqK Tryd.prog 3 (.tmp 9) (.const (.int .i64 (.ofNat 45))) 220046 y9 (.lit (.int .i64 (.ofNat 45))) fun x123_15 =>
      condK 220048 x123_15
      (
       .bad 220049
      )
      (
       eqK Tryd.prog 3 (.tmp 9) (.const (.int .i64 (.ofNat 47))) 220050 y9 (.lit (.int .i64 (.ofNat 47))) fun x147_16 =>
       condK 220052 x147_16
       (
        lenSK 220054 y5 fun x149_17 =>
        gtK Tryd.prog 3 (.tmp 149) (.const (.int .i64 (.ofNat 0))) 220055 x149_17 (.lit (.int .i64 (.ofNat 0))) fun x150_18 =>
        condK 220058 x150_18
        (
         callK (g34 ro y0 y5 (.lit (.func (.func 41) #[] #[])) T6 n6) fun x154_19 T8 n8 =>
         g22_k5 ro y0 y3 y4 y5 x154_19 T8 n8
        )
        (
         g22_k5 ro y0 y3 y4 y5 (.lit (.bool false)) T6 n6
        )
       )
       (
        faK 220065 y3 0 fun x157_20 =>
        ldK 220066 T6 ro x157_20 fun x158_21 =>
        callK (g43 ro y0 x158_21 y5 T6 n6) fun x160_22 T9 n9 =>
        .ok (.val x160_22) T9 n9
       )
      )
     )
    )
   )
  )
 )
noncomputable def g22_k3 (ro : List HT) (y0 y3 y4 y5 y9 y41 : AV) (T4 : HT) (n4 : Nat) : R :=
 condK 220019 y41
 (
  callK (g32 ro y0 y5 (.lit (.int .i64 (.ofNat 1))) (.lit (.int .i64 (.ofNat 1))) T4 n4) fun x49_9 T5 n5 =>
  .ok (.val x49_9) T5 n5
 )
 (
  eqK Tryd.prog 3 (.tmp 9) (.const (.int .i64 (.ofNat 20))) 220024 y9 (.lit (.int .i64 (.ofNat 20))) fun x51_10 =>
  condK 220026 x51_10
  (
   .bad 220027
  )
  (
   eqK Tryd.prog 3 (.tmp 9) (.const (.int .i64 (.ofNat 41))) 220070 y9 (.lit (.int .i64 (.ofNat 41))) fun x56_23 =>
   condK 220072 x56_23
   (
    g22_k4 ro y0 y3 y4 y5 y9 (.lit (.bool true)) T4 n4
   )
   (
    eqK Tryd.prog 3 (.tmp 9) (.const (.int .i64 (.ofNat 46))) 220073 y9 (.lit (.int .i64 (.ofNat 46))) fun x57_24 =>
    g22_k4 ro y0 y3 y4 y5 y9 x57_24 T4 n4
   )
  )
 )
noncomputable def g22_k2 (ro : List HT) (y0 y3 y4 y5 y9 y24 : AV) (T3 : HT) (n3 : Nat) : R :=
 condK 220013 y24
 (
  .bad 220014
 )
 (
  eqK Tryd.prog 3 (.tmp 9) (.const (.int .i64 (.ofNat 9))) 220015 y9 (.lit (.int .i64 (.ofNat 9))) fun x31_8 =>
  condK 220017 x31_8
  (
   .bad 220018
  )
  (
   eqK Tryd.prog 3 (.tmp 9) (.const (.int .i64 (.ofNat 11))) 220075 y9 (.lit (.int .i64 (.ofNat 11))) fun x42_25 =>
   condK 220077 x42_25
   (
    g22_k3 ro y0 y3 y4 y5 y9 (.lit (.bool true)) T3 n3
   )
   (
    eqK Tryd.prog 3 (.tmp 9) (.const (.int .i64 (.ofNat 12))) 220078 y9 (.lit (.int .i64 (.ofNat 12))) fun x43_26 =>
    condK 220080 x43_26
    (
     g22_k3 ro y0 y3 y4 y5 y9 (.lit (.bool true)) T3 n3
    )
    (
     eqK Tryd.prog 3 (.tmp 9) (.const (.int .i64 (.ofNat 16))) 220081 y9 (.lit (.int .i64 (.ofNat 16))) fun x44_27 =>
     condK 220083 x44_27
     (
      g22_k3 ro y0 y3 y4 y5 y9 (.lit (.bool true)) T3 n3
     )
     (
      eqK Tryd.prog 3 (.tmp 9) (.const (.int .i64 (.ofNat 17))) 220084 y9 (.lit (.int .i64 (.ofNat 17))) fun x45_28 =>
      condK 220086 x45_28
      (
       g22_k3 ro y0 y3 y4 y5 y9 (.lit (.bool true)) T3 n3
      )
      (
       eqK Tryd.prog 3 (.tmp 9) (.const (.int .i64 (.ofNat 35))) 220087 y9 (.lit (.int .i64 (.ofNat 35))) fun x46_29 =>
       g22_k3 ro y0 y3 y4 y5 y9 x46_29 T3 n3
      )
     )
    )
   )
  )
 )
noncomputable def g22_k1 (ro : List HT) (y0 y3 y4 y5 y9 y10 : AV) (T2 : HT) (n2 : Nat) : R :=
 condK 220008 y10
 (
  lenSK 220010 y5 fun x22_6 =>
  eqK Tryd.prog 3 (.tmp 22) (.const (.int .i64 (.ofNat 0))) 220011 x22_6 (.lit (.int .i64 (.ofNat 0))) fun x23_7 =>
  .ok (.val x23_7) T2 n2
 )
 (
  eqK Tryd.prog 3 (.tmp 9) (.const (.int .i64 (.ofNat 7))) 220089 y9 (.lit (.int .i64 (.ofNat 7))) fun x25_30 =>
  condK 220091 x25_30
  (
   g22_k2 ro y0 y3 y4 y5 y9 (.lit (.bool true)) T2 n2
  )
  (
   eqK Tryd.prog 3 (.tmp 9) (.const (.int .i64 (.ofNat 8))) 220092 y9 (.lit (.int .i64 (.ofNat 8))) fun x26_31 =>
   g22_k2 ro y0 y3 y4 y5 y9 x26_31 T2 n2
  )
 )
noncomputable def g22 (ro : List HT) (a0 a1 : AV) (T : HT) (nx : Nat) : R :=
 boxK 220001 T nx a1 28 fun x3_1 T1 n1 =>
 faK 220003 x3_1 4 fun x6_2 =>
 ldK 220004 T1 ro x6_2 fun x7_3 =>
 faK 220006 x3_1 0 fun x8_4 =>
 ldK 220007 T1 ro x8_4 fun x9_5 =>
 eqK Tryd.prog 3 (.tmp 9) (.const (.int .i64 (.ofNat 1))) 220094 x9_5 (.lit (.int .i64 (.ofNat 1))) fun x11_32 =>
 condK 220096 x11_32
 (
  g22_k1 ro a0 x3_1 (.lit (.bool false)) x7_3 x9_5 (.lit (.bool true)) T1 n1
 )
 (
  eqK Tryd.prog 3 (.tmp 9) (.const (.int .i64 (.ofNat 2))) 220097 x9_5 (.lit (.int .i64 (.ofNat 2))) fun x12_33 =>
  condK 220099 x12_33
  (
   g22_k1 ro a0 x3_1 (.lit (.bool false)) x7_3 x9_5 (.lit (.bool true)) T1 n1
  )
  (
   eqK Tryd.prog 3 (.tmp 9) (.const (.int .i64 (.ofNat 3))) 220100 x9_5 (.lit (.int .i64 (.ofNat 3))) fun x13_34 =>
   condK 220102 x13_34
   (
    g22_k1 ro a0 x3_1 (.lit (.bool false)) x7_3 x9_5 (.lit (.bool true)) T1 n1
   )
   (
    eqK Tryd.prog 3 (.tmp 9) (.const (.int .i64 (.ofNat 4))) 220103 x9_5 (.lit (.int .i64 (.ofNat 4))) fun x14_35 =>
    condK 220105 x14_35
    (
     g22_k1 ro a0 x3_1 (.lit (.bool false)) x7_3 x9_5 (.lit (.bool true)) T1 n1
    )
    (
     eqK Tryd.prog 3 (.tmp 9) (.const (.int .i64 (.ofNat 5))) 220106 x9_5 (.lit (.int .i64 (.ofNat 5))) fun x15_36 =>
     condK 220108 x15_36
     (
      g22_k1 ro a0 x3_1 (.lit (.bool false)) x7_3 x9_5 (.lit (.bool true)) T1 n1
     )
     (
      eqK Tryd.prog 3 (.tmp 9) (.const (.int .i64 (.ofNat 6))) 220109 x9_5 (.lit (.int .i64 (.ofNat 6))) fun x16_37 =>
      condK 220111 x16_37
      (
       g22_k1 ro a0 x3_1 (.lit (.bool false)) x7_3 x9_5 (.lit (.bool true)) T1 n1
      )
      (
       eqK Tryd.prog 3 (.tmp 9) (.const (.int .i64 (.ofNat 15))) 220112 x9_5 (.lit (.int .i64 (.ofNat 15))) fun x17_38 =>
       condK 220114 x17_38
       (
        g22_k1 ro a0 x3_1 (.lit (.bool false)) x7_3 x9_5 (.lit (.bool true)) T1 n1
       )
       (
        eqK Tryd.prog 3 (.tmp 9) (.const (.int .i64 (.ofNat 38))) 220115 x9_5 (.lit (.int .i64 (.ofNat 38))) fun x18_39 =>
        condK 220117 x18_39
        (
         g22_k1 ro a0 x3_1 (.lit (.bool false)) x7_3 x9_5 (.lit (.bool true)) T1 n1
        )
        (
         eqK Tryd.prog 3 (.tmp 9) (.const (.int .i64 (.ofNat 39))) 220118 x9_5 (.lit (.int .i64 (.ofNat 39))) fun x19_40 =>
         condK 220120 x19_40
         (
          g22_k1 ro a0 x3_1 (.lit (.bool false)) x7_3 x9_5 (.lit (.bool true)) T1 n1
         )
         (
          eqK Tryd.prog 3 (.tmp 9) (.const (.int .i64 (.ofNat 40))) 220121 x9_5 (.lit (.int .i64 (.ofNat 40))) fun x20_41 =>
          g22_k1 ro a0 x3_1 (.lit (.bool false)) x7_3 x9_5 x20_41 T1 n1
         )
        )
       )
      )
     )
    )
   )
  )
 )
theorem g22_ok (ro : List HT) (a0 a1 : AV) (T : HT) (nx : Nat) : GOk Tryd.prog (envE pn pm) 22 [a0, a1] ro T nx (g22 ro a0 a1 T nx) := by
 refine GOk.of_body Tryd.func22 rfl Tryd.ntmps22 (by kernel_rfl) rfl fun r T' n' h1 w0 base ρ0 its hS hP => ?_
 have X : CtxW (envE pn pm) ρ0 ro r T' n' := trivial
 unfold g22 at h1
 refine sr ?_
 refine LV.box hS h1 rfl rfl rfl rfl rfl fun x3_1 T1 n1 h2 ρ its hS hdr => ?_
 refine as_ ?_
 refine dn ?_
 refine sr ?_
 refine vy (V.fa h2 rfl Arf.fo28_4) fun x6_2 h3 => ?_
 refine vy (V.ld hS h3 rfl Arf.one22) fun x7_3 h4 => ?_
 refine as_ ?_
 refine dn ?_
 refine CV.seq ?_
 refine sr ?_
 refine vy (V.fa h4 rfl Arf.fo28_0) fun x8_4 h5 => ?_
 refine vy (V.ld hS h5 rfl Arf.one3) fun x9_5 h6 => ?_
 refine dn ?_
 refine CV.block ?_
 refine cs6 X 0 3 4 5 9 10 [] (g22_k1 ro) ?_ ?_
 ·
  refine sr ?_
  refine vy (V.eq h6 rfl rfl) fun x11_32 h57 => ?_
  refine as_ ?_
  refine dn ?_
  refine CV.cond h57 rfl (fun e h58 => ?_) (fun e h58 => ?_)
  ·
   clear h1 h2 h3 h4 h5 h6 h57
   subst e
   refine CV.skip ?_
   exact pa6 hS h58 ⟨rfl, rfl, rfl, rfl, rfl, rfl, trivial⟩
  ·
   clear h1 h2 h3 h4 h5 h6 h57
   subst e
   refine sr ?_
   refine vy (V.eq h58 rfl rfl) fun x12_33 h59 => ?_
   refine as_ ?_
   refine dn ?_
   refine CV.cond h59 rfl (fun e h60 => ?_) (fun e h60 => ?_)
   ·
    clear h58 h59
    subst e
    refine CV.skip ?_
    exact pa6 hS h60 ⟨rfl, rfl, rfl, rfl, rfl, rfl, trivial⟩
   ·
    clear h58 h59
    subst e
    refine sr ?_
    refine vy (V.eq h60 rfl rfl) fun x13_34 h61 => ?_
    refine as_ ?_
    refine dn ?_
    refine CV.cond h61 rfl (fun e h62 => ?_) (fun e h62 => ?_)
    ·
     clear h60 h61
     subst e
     refine CV.skip ?_
     exact pa6 hS h62 ⟨rfl, rfl, rfl, rfl, rfl, rfl, trivial⟩
    ·
     clear h60 h61
     subst e
     refine sr ?_
     refine vy (V.eq h62 rfl rfl) fun x14_35 h63 => ?_
     refine as_ ?_
     refine dn ?_
     refine CV.cond h63 rfl (fun e h64 => ?_) (fun e h64 => ?_)
     ·
      clear h62 h63
      subst e
      refine CV.skip ?_
      exact pa6 hS h64 ⟨rfl, rfl, rfl, rfl, rfl, rfl, trivial⟩
     ·
      clear h62 h63
      subst e
      refine sr ?_
      refine vy (V.eq h64 rfl rfl) fun x15_36 h65 => ?_
      refine as_ ?_
      refine dn ?_
      refine CV.cond h65 rfl (fun e h66 => ?_) (fun e h66 => ?_)
      ·
       clear h64 h65
       subst e
       refine CV.skip ?_
       exact pa6 hS h66 ⟨rfl, rfl, rfl, rfl, rfl, rfl, trivial⟩
      ·
       clear h64 h65
       subst e
       refine sr ?_
       refine vy (V.eq h66 rfl rfl) fun x16_37 h67 => ?_
       refine as_ ?_
       refine dn ?_
       refine CV.cond h67 rfl (fun e h68 => ?_) (fun e h68 => ?_)
       ·
        clear h66 h67
        subst e
        refine CV.skip ?_
        exact pa6 hS h68 ⟨rfl, rfl, rfl, rfl, rfl, rfl, trivial⟩
       ·
        clear h66 h67
        subst e
        refine sr ?_
        refine vy (V.eq h68 rfl rfl) fun x17_38 h69 => ?_
        refine as_ ?_
        refine dn ?_
        refine CV.cond h69 rfl (fun e h70 => ?_) (fun e h70 => ?_)
        ·
         clear h68 h69
         subst e
         refine CV.skip ?_
         exact pa6 hS h70 ⟨rfl, rfl, rfl, rfl, rfl, rfl, trivial⟩
        ·
         clear h68 h69
         subst e
         refine sr ?_
         refine vy (V.eq h70 rfl rfl) fun x18_39 h71 => ?_
         refine as_ ?_
         refine dn ?_
         refine CV.cond h71 rfl (fun e h72 => ?_) (fun e h72 => ?_)
         ·
          clear h70 h71
          subst e
          refine CV.skip ?_
          exact pa6 hS h72 ⟨rfl, rfl, rfl, rfl, rfl, rfl, trivial⟩
         ·
          clear h70 h71
          subst e
          refine sr ?_
          refine vy (V.eq h72 rfl rfl) fun x19_40 h73 => ?_
          refine as_ ?_
          refine dn ?_
          refine CV.cond h73 rfl (fun e h74 => ?_) (fun e h74 => ?_)
          ·
           clear h72 h73
           subst e
           refine CV.skip ?_
           exact pa6 hS h74 ⟨rfl, rfl, rfl, rfl, rfl, rfl, trivial⟩
          ·
           clear h72 h73
           subst e
           refine CV.region ?_
           refine vy (V.eq h74 rfl rfl) fun x20_41 h75 => ?_
           refine as_ ?_
           refine LV.done ?_
           exact pa6 hS h75 ⟨rfl, rfl, rfl, rfl, rfl, rfl, trivial⟩
 ·
  intro y0 y3 y4 y5 y9 y10 T2 n2 ρ its hS h7
  unfold g22_k1 at h7
  clear h1 h2 h3 h4 h5 h6
  refine CV.cond h7 rfl (fun e h8 => ?_) (fun e h8 => ?_)
  ·
   clear h7
   subst e
   refine sr ?_
   refine mv ?_
   refine vy (V.lenS h8 rfl Arf.ls22) fun x22_6 h9 => ?_
   refine vy (V.eq h9 rfl rfl) fun x23_7 h10 => ?_
   refine as_ ?_
   refine dn ?_
   refine CV.ret ?_
   refine PV.blockR ?_
   refine PV.thenR ?_
   cases h10
   exact PV.ret (by simp) Tryd.results22 hS (RS.tmp rfl RS.nil) rfl
  ·
   clear h7
   subst e
   refine cs6 X 0 3 4 5 9 24 [] (g22_k2 ro) ?_ ?_
   ·
    refine sr ?_
    refine vy (V.eq h8 rfl rfl) fun x25_30 h54 => ?_
    refine as_ ?_
    refine dn ?_
    refine CV.cond h54 rfl (fun e h55 => ?_) (fun e h55 => ?_)
    ·
     clear h8 h54
     subst e
     refine CV.skip ?_
     exact pa6 hS h55 ⟨rfl, rfl, rfl, rfl, rfl, rfl, trivial⟩
    ·
     clear h8 h54
     subst e
     refine CV.region ?_
     refine vy (V.eq h55 rfl rfl) fun x26_31 h56 => ?_
     refine as_ ?_
     refine LV.done ?_
     exact pa6 hS h56 ⟨rfl, rfl, rfl, rfl, rfl, rfl, trivial⟩
   ·
    intro y0 y3 y4 y5 y9 y24 T3 n3 ρ its hS h11
    unfold g22_k2 at h11
    clear h8
    refine CV.cond h11 rfl (fun e h12 => ?_) (fun e h12 => ?_)
    ·
     clear h11
     subst e
     cases h12
    ·
     clear h11
     subst e
     refine sr ?_
     refine vy (V.eq h12 rfl rfl) fun x31_8 h13 => ?_
     refine as_ ?_
     refine dn ?_
     refine CV.cond h13 rfl (fun e h14 => ?_) (fun e h14 => ?_)
     ·
      clear h12 h13
      subst e
      cases h14
     ·
      clear h12 h13
      subst e
      refine cs6 X 0 3 4 5 9 41 [] (g22_k3 ro) ?_ ?_
      ·
       refine sr ?_
       refine vy (V.eq h14 rfl rfl) fun x42_25 h45 => ?_
       refine as_ ?_
       refine dn ?_
       refine CV.cond h45 rfl (fun e h46 => ?_) (fun e h46 => ?_)
       ·
        clear h14 h45
        subst e
        refine CV.skip ?_
        exact pa6 hS h46 ⟨rfl, rfl, rfl, rfl, rfl, rfl, trivial⟩
       ·
        clear h14 h45
        subst e
        refine sr ?_
        refine vy (V.eq h46 rfl rfl) fun x43_26 h47 => ?_
        refine as_ ?_
        refine dn ?_
        refine CV.cond h47 rfl (fun e h48 => ?_) (fun e h48 => ?_)
        ·
         clear h46 h47
         subst e
         refine CV.skip ?_
         exact pa6 hS h48 ⟨rfl, rfl, rfl, rfl, rfl, rfl, trivial⟩
        ·
         clear h46 h47
         subst e
         refine sr ?_
         refine vy (V.eq h48 rfl rfl) fun x44_27 h49 => ?_
         refine as_ ?_
         refine dn ?_
         refine CV.cond h49 rfl (fun e h50 => ?_) (fun e h50 => ?_)
         ·
          clear h48 h49
          subst e
          refine CV.skip ?_
          exact pa6 hS h50 ⟨rfl, rfl, rfl, rfl, rfl, rfl, trivial⟩
         ·
          clear h48 h49
          subst e
          refine sr ?_
          refine vy (V.eq h50 rfl rfl) fun x45_28 h51 => ?_
          refine as_ ?_
          refine dn ?_
          refine CV.cond h51 rfl (fun e h52 => ?_) (fun e h52 => ?_)
          ·
           clear h50 h51
           subst e
           refine CV.skip ?_
           exact pa6 hS h52 ⟨rfl, rfl, rfl, rfl, rfl, rfl, trivial⟩
          ·
           clear h50 h51
           subst e
           refine CV.region ?_
           refine vy (V.eq h52 rfl rfl) fun x46_29 h53 => ?_
           refine as_ ?_
           refine LV.done ?_
           exact pa6 hS h53 ⟨rfl, rfl, rfl, rfl, rfl, rfl, trivial⟩
      ·
       intro y0 y3 y4 y5 y9 y41 T4 n4 ρ its hS h15
       unfold g22_k3 at h15
       clear h14
       refine CV.cond h15 rfl (fun e h16 => ?_) (fun e h16 => ?_)
       ·
        clear h15
        subst e
        refine sr ?_
        refine mv ?_
        refine mv ?_
        refine LV.call hS h16 (g32_ok _ _ _ _ _ _ _ ) hP rfl rfl rfl rfl fun x49_9 T5 n5 h17 ρ its hS => ?_
        refine as_ ?_
        refine dn ?_
        refine CV.ret ?_
        refine PV.blockR ?_
        refine PV.thenR ?_
        cases h17
        exact PV.ret (by simp) Tryd.results22 hS (RS.tmp rfl RS.nil) rfl
       ·
        clear h15
        subst e
        refine sr ?_
        refine vy (V.eq h16 rfl rfl) fun x51_10 h18 => ?_
        refine as_ ?_
        refine dn ?_
        refine CV.cond h18 rfl (fun e h19 => ?_) (fun e h19 => ?_)
        ·
         clear h16 h18
         subst e
         cases h19
        ·
         clear h16 h18
         subst e
         refine cs6 X 0 3 4 5 9 55 [] (g22_k4 ro) ?_ ?_
         ·
          refine sr ?_
          refine vy (V.eq h19 rfl rfl) fun x56_23 h42 => ?_
          refine as_ ?_
          refine dn ?_
          refine CV.cond h42 rfl (fun e h43 => ?_) (fun e h43 => ?_)
          ·
           clear h19 h42
           subst e
           refine CV.skip ?_
           exact pa6 hS h43 ⟨rfl, rfl, rfl, rfl, rfl, rfl, trivial⟩
          ·
           clear h19 h42
           subst e
           refine CV.region ?_
           refine vy (V.eq h43 rfl rfl) fun x57_24 h44 => ?_
           refine as_ ?_
           refine LV.done ?_
           exact pa6 hS h44 ⟨rfl, rfl, rfl, rfl, rfl, rfl, trivial⟩
         ·
          intro y0 y3 y4 y5 y9 y55 T6 n6 ρ its hS h20
          unfold g22_k4 at h20
          clear h19
          refine CV.cond h20 rfl (fun e h21 => ?_) (fun e h21 => ?_)
          ·
           clear h20
           subst e
           cases h21
          ·
           clear h20
           subst e
           refine sr ?_
           refine vy (V.eq h21 rfl rfl) fun x62_11 h22 => ?_
           refine as_ ?_
           refine dn ?_
           refine CV.cond h22 rfl (fun e h23 => ?_) (fun e h23 => ?_)
           ·
            clear h21 h22
            subst e
            cases h23
           ·
            clear h21 h22
            subst e
            refine sr ?_
            refine vy (V.eq h23 rfl rfl) fun x72_12 h24 => ?_
            refine as_ ?_
            refine dn ?_
            refine CV.cond h24 rfl (fun e h25 => ?_) (fun e h25 => ?_)
            ·
             clear h23 h24
             subst e
             cases h25
            ·
             clear h23 h24
             subst e
             refine sr ?_
             refine vy (V.eq h25 rfl rfl) fun x89_13 h26 => ?_
             refine as_ ?_
             refine dn ?_
             refine CV.cond h26 rfl (fun e h27 => ?_) (fun e h27 => ?_)
             ·
              clear h25 h26
              subst e
              cases h27
             ·
              clear h25 h26
              subst e
              refine sr ?_
              refine vy (V.eq h27 rfl rfl) fun x111_14 h28 => ?_
              refine as_ ?_
              refine dn ?_
              refine CV.cond h28 rfl (fun e h29 => ?_) (fun e h29 => ?_)
              ·
               clear h27 h28
               subst e
               cases h29
              ·
               clear h27 h28
               subst e
               refine sr ?_
               refine vy (V.eq h29 rfl rfl) fun x123_15 h30 => ?_
               refine as_ ?_
               refine dn ?_
               refine CV.cond h30 rfl (fun e h31 => ?_) (fun e h31 => ?_)
               ·
                clear h29 h30
                subst e
                cases h31
               ·
                clear h29 h30
                subst e
                refine sr ?_
                refine vy (V.eq h31 rfl rfl) fun x147_16 h32 => ?_
                refine as_ ?_
                refine dn ?_
                refine CV.cond h32 rfl (fun e h33 => ?_) (fun e h33 => ?_)
                ·
                 clear h31 h32
                 subst e
                 refine sr ?_
                 refine mv ?_
                 refine vy (V.lenS h33 rfl Arf.ls22) fun x149_17 h34 => ?_
                 refine vy (V.gt h34 rfl rfl) fun x150_18 h35 => ?_
                 refine mv ?_
                 refine ls5 X 0 3 4 5 155 [] (g22_k5 ro) 4 ?_ ?_
                 ·
                  rcases condK_inv h35 with ⟨e, h37⟩ | ⟨e, h37⟩
                  ·
                   clear h33 h34 h35
                   subst e
                   refine mv ?_
                   refine mv ?_
                   refine LV.call hS h37 (g34_ok _ _ _ _ _ _ ) hP rfl rfl rfl rfl fun x154_19 T8 n8 h38 ρ its hS => ?_
                   refine pu ?_
                   exact la5 hS h38 ⟨rfl, rfl, rfl, rfl, rfl, trivial⟩
                  ·
                   clear h33 h34 h35
                   subst e
                   refine sk ?_
                   refine sk ?_
                   refine sk ?_
                   refine pu ?_
                   exact la5 hS h37 ⟨rfl, rfl, rfl, rfl, rfl, trivial⟩
                 ·
                  intro y0 y3 y4 y5 y155 T7 n7 ρ its hS h36
                  unfold g22_k5 at h36
                  clear h33 h34 h35
                  refine as_ ?_
                  refine dn ?_
                  refine CV.ret ?_
                  refine PV.blockR ?_
                  refine PV.thenR ?_
                  cases h36
                  exact PV.ret (by simp) Tryd.results22 hS (RS.tmp rfl RS.nil) rfl
                ·
                 clear h31 h32
                 subst e
                 refine CV.skip ?_
                 refine PV.blockN ?_
                 refine PV.thenN ?_
                 refine sr ?_
                 refine mv ?_
                 refine vy (V.fa h33 rfl Arf.fo28_0) fun x157_20 h39 => ?_
                 refine vy (V.ld hS h39 rfl Arf.one3) fun x158_21 h40 => ?_
                 refine mv ?_
                 refine LV.call hS h40 (g43_ok _ _ _ _ _ _ ) hP rfl rfl rfl rfl fun x160_22 T9 n9 h41 ρ its hS => ?_
                 refine as_ ?_
                 refine dn ?_
                 refine CV.ret ?_
                 cases h41
                 exact PV.ret (by simp) Tryd.results22 hS (RS.tmp rfl RS.nil) rfl
theorem name_run0 : okT (g21 [] (.lit (bytV (nmB 0))) .nil 1) = true := by kernel_rfl
theorem name_run1 : okT (g21 [] (.lit (bytV (nmB 1))) .nil 1) = true := by kernel_rfl
theorem name_run2 : okT (g21 [] (.lit (bytV (nmB 2))) .nil 1) = true := by kernel_rfl
theorem name_run3 : okT (g21 [] (.lit (bytV (nmB 3))) .nil 1) = true := by kernel_rfl
theorem name_run4 : okT (g21 [] (.lit (bytV (nmB 4))) .nil 1) = true := by kernel_rfl
theorem name_run5 : okT (g21 [] (.lit (bytV (nmB 5))) .nil 1) = true := by kernel_rfl
theorem name_run6 : okT (g21 [] (.lit (bytV (nmB 6))) .nil 1) = true := by kernel_rfl
theorem name_run7 : okT (g21 [] (.lit (bytV (nmB 7))) .nil 1) = true := by kernel_rfl
theorem name_run (k : Nat) (hk : k < 8) : okT (g21 [] (.lit (bytV (nmB k))) .nil 1) = true := by
  have h : k = 0 ∨ k = 1 ∨ k = 2 ∨ k = 3 ∨ k = 4 ∨ k = 5 ∨ k = 6 ∨ k = 7 := by omega
  rcases h with rfl | rfl | rfl | rfl | rfl | rfl | rfl | rfl
  · exact name_run0
  · exact name_run1
  · exact name_run2
  · exact name_run3
  · exact name_run4
  · exact name_run5
  · exact name_run6
  · exact name_run7
theorem name_8 {pn pm : Nat} (k : Nat) (hk : k < 8) (ro : List HT) (T : HT) (nx : Nat) : GOk Tryd.prog (envE pn pm) 21 [.lit (bytV (nmB k))] ro T nx (.ok (.val (.lit (.bool true))) T nx) := by
  obtain ⟨T2, n2, h⟩ := okT_eq (name_run k hk)
  have hG := g21_ok (pn := pn) (pm := pm) [] (.lit (bytV (nmB k))) .nil 1
  rw [h] at hG
  exact GOk.calm hG (fun _ _ => rfl) (fun _ _ => rfl) (env_opq pn pm) ro T nx
theorem name_h {pn pm : Nat} (c : Nat) (a : AV) (ro : List HT) (T : HT) (nx : Nat) {X : R} (hX : GOk Tryd.prog (envE pn pm) 21 [a] ro T nx X) : GOk Tryd.prog (envE pn pm) 21 [a] ro T nx (nameTK c a X T nx) := nameTK_ok (envE_last pn pm) (Enters.of Tryd.func21 (by kernel_rfl) (by kernel_rfl)) name_8 ro T nx hX
noncomputable def g15_k2 (ro : List HT) (y0 y3 y4 y20 : AV) (T4 : HT) (n4 : Nat) : R :=
 .ok (.val y20) T4 n4
noncomputable def g15_k4 (ro : List HT) (y4 y44 : AV) (T7 : HT) (n7 : Nat) : R :=
 .ok (.val y44) T7 n7
noncomputable def g15_k3 (ro : List HT) (y0 y3 y4 y31 : AV) (T6 : HT) (n6 : Nat) : R :=
 condK 150021 y31
 (
  .bad 150022
 )
 (
  faK 150023 y3 3 fun x37_10 =>
  ldK 150024 T6 ro x37_10 fun x38_11 =>
  eqTSK Tryd.prog 9 (.tmp 38) (.const (.string ⟨⟨[]⟩⟩)) 150025 x38_11 (.lit (.string ⟨⟨[]⟩⟩)) fun x39_12 =>
  condK 150028 x39_12
  (
   ldAK 150030 T6 ro y3 5 fun x42_13 =>
   callK (g22 ro y0 x42_13 T6 n6) fun x43_14 T8 n8 =>
   g15_k4 ro y4 x43_14 T8 n8
  )
  (
   g15_k4 ro y4 (.lit (.bool false)) T6 n6
  )
 )
noncomputable def g15_k1 (ro : List HT) (y0 y3 y4 y6 y7 : AV) (T2 : HT) (n2 : Nat) : R :=
 condK 150005 y7
 (
  faK 150006 y3 3 fun x13_4 =>
  ldK 150007 T2 ro x13_4 fun x14_5 =>
  callK (nameTK 5 x14_5 (g21 ro x14_5 T2 n2) T2 n2) fun x15_6 T3 n3 =>
  condK 150011 x15_6
  (
   ldAK 150013 T3 ro y3 5 fun x18_7 =>
   callK (g22 ro y0 x18_7 T3 n3) fun x19_8 T5 n5 =>
   g15_k2 ro y0 y3 y4 x19_8 T5 n5
  )
  (
   g15_k2 ro y0 y3 y4 (.lit (.bool false)) T3 n3
  )
 )
 (
  eqK Tryd.prog 3 (.tmp 6) (.const (.int .i64 (.ofNat 4))) 150017 y6 (.lit (.int .i64 (.ofNat 4))) fun x22_9 =>
  condK 150019 x22_9
  (
   .bad 150020
  )
  (
   eqK Tryd.prog 3 (.tmp 6) (.const (.int .i64 (.ofNat 5))) 150034 y6 (.lit (.int .i64 (.ofNat 5))) fun x32_15 =>
   condK 150036 x32_15
   (
    g15_k3 ro y0 y3 y4 (.lit (.bool true)) T2 n2
   )
   (
    eqK Tryd.prog 3 (.tmp 6) (.const (.int .i64 (.ofNat 42))) 150037 y6 (.lit (.int .i64 (.ofNat 42))) fun x33_16 =>
    g15_k3 ro y0 y3 y4 x33_16 T2 n2
   )
  )
 )
noncomputable def g15 (ro : List HT) (a0 a1 : AV) (T : HT) (nx : Nat) : R :=
 boxK 150001 T nx a1 28 fun x3_1 T1 n1 =>
 faK 150003 x3_1 0 fun x5_2 =>
 ldK 150004 T1 ro x5_2 fun x6_3 =>
 eqK Tryd.prog 3 (.tmp 6) (.const (.int .i64 (.ofNat 6))) 150039 x6_3 (.lit (.int .i64 (.ofNat 6))) fun x8_17 =>
 condK 150041 x8_17
 (
  g15_k1 ro a0 x3_1 (.lit (.bool false)) x6_3 (.lit (.bool true)) T1 n1
 )
 (
  eqK Tryd.prog 3 (.tmp 6) (.const (.int .i64 (.ofNat 11))) 150042 x6_3 (.lit (.int .i64 (.ofNat 11))) fun x9_18 =>
  condK 150044 x9_18
  (
   g15_k1 ro a0 x3_1 (.lit (.bool false)) x6_3 (.lit (.bool true)) T1 n1
  )
  (
   eqK Tryd.prog 3 (.tmp 6) (.const (.int .i64 (.ofNat 12))) 150045 x6_3 (.lit (.int .i64 (.ofNat 12))) fun x10_19 =>
   condK 150047 x10_19
   (
    g15_k1 ro a0 x3_1 (.lit (.bool false)) x6_3 (.lit (.bool true)) T1 n1
   )
   (
    eqK Tryd.prog 3 (.tmp 6) (.const (.int .i64 (.ofNat 45))) 150048 x6_3 (.lit (.int .i64 (.ofNat 45))) fun x11_20 =>
    condK 150050 x11_20
    (
     g15_k1 ro a0 x3_1 (.lit (.bool false)) x6_3 (.lit (.bool true)) T1 n1
    )
    (
     eqK Tryd.prog 3 (.tmp 6) (.const (.int .i64 (.ofNat 46))) 150051 x6_3 (.lit (.int .i64 (.ofNat 46))) fun x12_21 =>
     g15_k1 ro a0 x3_1 (.lit (.bool false)) x6_3 x12_21 T1 n1
    )
   )
  )
 )
theorem g15_ok (ro : List HT) (a0 a1 : AV) (T : HT) (nx : Nat) : GOk Tryd.prog (envE pn pm) 15 [a0, a1] ro T nx (g15 ro a0 a1 T nx) := by
 refine GOk.of_body Tryd.func15 rfl Tryd.ntmps15 (by kernel_rfl) rfl fun r T' n' h1 w0 base ρ0 its hS hP => ?_
 have X : CtxW (envE pn pm) ρ0 ro r T' n' := trivial
 unfold g15 at h1
 refine sr ?_
 refine LV.box hS h1 rfl rfl rfl rfl rfl fun x3_1 T1 n1 h2 ρ its hS hdr => ?_
 refine as_ ?_
 refine dn ?_
 refine CV.seq ?_
 refine sr ?_
 refine vy (V.fa h2 rfl Arf.fo28_0) fun x5_2 h3 => ?_
 refine vy (V.ld hS h3 rfl Arf.one3) fun x6_3 h4 => ?_
 refine dn ?_
 refine CV.block ?_
 refine cs5 X 0 3 4 6 7 [] (g15_k1 ro) ?_ ?_
 ·
  refine sr ?_
  refine vy (V.eq h4 rfl rfl) fun x8_17 h28 => ?_
  refine as_ ?_
  refine dn ?_
  refine CV.cond h28 rfl (fun e h29 => ?_) (fun e h29 => ?_)
  ·
   clear h1 h2 h3 h4 h28
   subst e
   refine CV.skip ?_
   exact pa5 hS h29 ⟨rfl, rfl, rfl, rfl, rfl, trivial⟩
  ·
   clear h1 h2 h3 h4 h28
   subst e
   refine sr ?_
   refine vy (V.eq h29 rfl rfl) fun x9_18 h30 => ?_
   refine as_ ?_
   refine dn ?_
   refine CV.cond h30 rfl (fun e h31 => ?_) (fun e h31 => ?_)
   ·
    clear h29 h30
    subst e
    refine CV.skip ?_
    exact pa5 hS h31 ⟨rfl, rfl, rfl, rfl, rfl, trivial⟩
   ·
    clear h29 h30
    subst e
    refine sr ?_
    refine vy (V.eq h31 rfl rfl) fun x10_19 h32 => ?_
    refine as_ ?_
    refine dn ?_
    refine CV.cond h32 rfl (fun e h33 => ?_) (fun e h33 => ?_)
    ·
     clear h31 h32
     subst e
     refine CV.skip ?_
     exact pa5 hS h33 ⟨rfl, rfl, rfl, rfl, rfl, trivial⟩
    ·
     clear h31 h32
     subst e
     refine sr ?_
     refine vy (V.eq h33 rfl rfl) fun x11_20 h34 => ?_
     refine as_ ?_
     refine dn ?_
     refine CV.cond h34 rfl (fun e h35 => ?_) (fun e h35 => ?_)
     ·
      clear h33 h34
      subst e
      refine CV.skip ?_
      exact pa5 hS h35 ⟨rfl, rfl, rfl, rfl, rfl, trivial⟩
     ·
      clear h33 h34
      subst e
      refine CV.region ?_
      refine vy (V.eq h35 rfl rfl) fun x12_21 h36 => ?_
      refine as_ ?_
      refine LV.done ?_
      exact pa5 hS h36 ⟨rfl, rfl, rfl, rfl, rfl, trivial⟩
 ·
  intro y0 y3 y4 y6 y7 T2 n2 ρ its hS h5
  unfold g15_k1 at h5
  clear h1 h2 h3 h4
  refine CV.cond h5 rfl (fun e h6 => ?_) (fun e h6 => ?_)
  ·
   clear h5
   subst e
   refine sr ?_
   refine vy (V.fa h6 rfl Arf.fo28_3) fun x13_4 h7 => ?_
   refine vy (V.ld hS h7 rfl Arf.one9) fun x14_5 h8 => ?_
   refine LV.call hS h8 (name_h _ _ _ _ _ (g21_ok _ _ _ _)) hP rfl rfl rfl rfl fun x15_6 T3 n3 h9 ρ its hS => ?_
   refine mv ?_
   refine ls4 X 0 3 4 20 [] (g15_k2 ro) 4 ?_ ?_
   ·
    rcases condK_inv h9 with ⟨e, h11⟩ | ⟨e, h11⟩
    ·
     clear h6 h7 h8 h9
     subst e
     refine mv ?_
     refine vy (V.ldA hS h11 rfl Arf.agg28) fun x18_7 h12 => ?_
     refine LV.call hS h12 (g22_ok _ _ _ _ _ ) hP rfl rfl rfl rfl fun x19_8 T5 n5 h13 ρ its hS => ?_
     refine pu ?_
     exact la4 hS h13 ⟨rfl, rfl, rfl, rfl, trivial⟩
    ·
     clear h6 h7 h8 h9
     subst e
     refine sk ?_
     refine sk ?_
     refine sk ?_
     refine pu ?_
     exact la4 hS h11 ⟨rfl, rfl, rfl, rfl, trivial⟩
   ·
    intro y0 y3 y4 y20 T4 n4 ρ its hS h10
    unfold g15_k2 at h10
    clear h6 h7 h8 h9
    refine as_ ?_
    refine dn ?_
    refine CV.ret ?_
    refine PV.blockR ?_
    refine PV.thenR ?_
    cases h10
    exact PV.ret (by simp) Tryd.results15 hS (RS.tmp rfl RS.nil) rfl
  ·
   clear h5
   subst e
   refine sr ?_
   refine vy (V.eq h6 rfl rfl) fun x22_9 h14 => ?_
   refine as_ ?_
   refine dn ?_
   refine CV.cond h14 rfl (fun e h15 => ?_) (fun e h15 => ?_)
   ·
    clear h6 h14
    subst e
    cases h15
   ·
    clear h6 h14
    subst e
    refine cs4 X 0 3 4 31 [] (g15_k3 ro) ?_ ?_
    ·
     refine sr ?_
     refine vy (V.eq h15 rfl rfl) fun x32_15 h25 => ?_
     refine as_ ?_
     refine dn ?_
     refine CV.cond h25 rfl (fun e h26 => ?_) (fun e h26 => ?_)
     ·
      clear h15 h25
      subst e
      refine CV.skip ?_
      exact pa4 hS h26 ⟨rfl, rfl, rfl, rfl, trivial⟩
     ·
      clear h15 h25
      subst e
      refine CV.region ?_
      refine vy (V.eq h26 rfl rfl) fun x33_16 h27 => ?_
      refine as_ ?_
      refine LV.done ?_
      exact pa4 hS h27 ⟨rfl, rfl, rfl, rfl, trivial⟩
    ·
     intro y0 y3 y4 y31 T6 n6 ρ its hS h16
     unfold g15_k3 at h16
     clear h15
     refine CV.cond h16 rfl (fun e h17 => ?_) (fun e h17 => ?_)
     ·
      clear h16
      subst e
      cases h17
     ·
      clear h16
      subst e
      refine CV.skip ?_
      refine PV.blockN ?_
      refine PV.thenN ?_
      refine sr ?_
      refine vy (V.fa h17 rfl Arf.fo28_3) fun x37_10 h18 => ?_
      refine vy (V.ld hS h18 rfl Arf.one9) fun x38_11 h19 => ?_
      refine vy (V.eqTS hS (envE_last _ _) h19 rfl rfl) fun x39_12 h20 => ?_
      refine mv ?_
      refine ls2 X 4 44 [] (g15_k4 ro) 4 ?_ ?_
      ·
       rcases condK_inv h20 with ⟨e, h22⟩ | ⟨e, h22⟩
       ·
        clear h17 h18 h19 h20
        subst e
        refine mv ?_
        refine vy (V.ldA hS h22 rfl Arf.agg28) fun x42_13 h23 => ?_
        refine LV.call hS h23 (g22_ok _ _ _ _ _ ) hP rfl rfl rfl rfl fun x43_14 T8 n8 h24 ρ its hS => ?_
        refine pu ?_
        exact la2 hS h24 ⟨rfl, rfl, trivial⟩
       ·
        clear h17 h18 h19 h20
        subst e
        refine sk ?_
        refine sk ?_
        refine sk ?_
        refine pu ?_
        exact la2 hS h22 ⟨rfl, rfl, trivial⟩
      ·
       intro y4 y44 T7 n7 ρ its hS h21
       unfold g15_k4 at h21
       clear h17 h18 h19 h20
       refine as_ ?_
       refine dn ?_
       refine CV.ret ?_
       cases h21
       exact PV.ret (by simp) Tryd.results15 hS (RS.tmp rfl RS.nil) rfl

end Go.Proofs.YtljaoofbklkglaaDoor.Ar
