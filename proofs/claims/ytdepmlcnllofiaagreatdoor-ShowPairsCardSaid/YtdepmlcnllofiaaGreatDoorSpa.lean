/-
  Proved here: plain functions that do what the program's functions do, each with its proof.
-/
import Derived.Test.YtdepmlcnllofiaaGreatDoorSpf
namespace Go.Proofs.YtdepmlcnllofiaaGreatDoor.Sp
open Go.EY Go.EX Go.SX Go.RowKit
def envE : List (Nat × AV) := [(5, (.iface 253 (.opq 0))), (4, (.iface 253 (.opq 1))), (2, (.iface 253 (.opq 2))), (6, (.iface 253 (.opq 3))), (7, (.iface 253 (.opq 4))), (8, (.iface 253 (.opq 5))), (9, (.iface 253 (.opq 6))), (3, (.iface 253 (.opq 7))), (10, (.iface 253 (.opq 8))), (0, (.iface 253 (.opq 9))), (11, (.iface 253 (.opq 10))), (12, (.iface 253 (.opq 11))), (1, (.iface 253 (.opq 12))), (13, (.iface 253 (.opq 13))), (14, (.iface 253 (.opq 14))), (15, (.iface 253 (.opq 15))), (16, (.iface 253 (.opq 16)))]
noncomputable def bld32 (ps : List (Nat × AV)) : Option AV := (placesA Tryz.prog 32).bind fun q => (fillA q.2 (q.1.map .lit) ps).map .agg
noncomputable def bld36 (ps : List (Nat × AV)) : Option AV := (placesA Tryz.prog 36).bind fun q => (fillA q.2 (q.1.map .lit) ps).map .agg
noncomputable def bld69 (ps : List (Nat × AV)) : Option AV := (placesA Tryz.prog 69).bind fun q => (fillA q.2 (q.1.map .lit) ps).map .agg
noncomputable def bld74 (ps : List (Nat × AV)) : Option AV := (placesA Tryz.prog 74).bind fun q => (fillA q.2 (q.1.map .lit) ps).map .agg
noncomputable def bld92 (ps : List (Nat × AV)) : Option AV := (placesA Tryz.prog 92).bind fun q => (fillA q.2 (q.1.map .lit) ps).map .agg
noncomputable def bld98 (ps : List (Nat × AV)) : Option AV := (placesA Tryz.prog 98).bind fun q => (fillA q.2 (q.1.map .lit) ps).map .agg
noncomputable def bld102 (ps : List (Nat × AV)) : Option AV := (placesA Tryz.prog 102).bind fun q => (fillA q.2 (q.1.map .lit) ps).map .agg
noncomputable def bld123 (ps : List (Nat × AV)) : Option AV := (placesA Tryz.prog 123).bind fun q => (fillA q.2 (q.1.map .lit) ps).map .agg
noncomputable def bld139 (ps : List (Nat × AV)) : Option AV := (placesA Tryz.prog 139).bind fun q => (fillA q.2 (q.1.map .lit) ps).map .agg
noncomputable def bld168 (ps : List (Nat × AV)) : Option AV := (placesA Tryz.prog 168).bind fun q => (fillA q.2 (q.1.map .lit) ps).map .agg
noncomputable def g36_k3 (ro : List HT) (lp1 : AV → AV → AV → AV → AV → AV → HT → Nat → R) (y1 y2 y6 y8 y9 y10 y11 y27 : AV) (T3 : HT) (n3 : Nat) : R :=
 condK 360015 y27
 (
  .bad 360016
 )
 (
  iaK 360019 y2 y8 1 fun x30_6 =>
  stK 360020 T3 x30_6 (.lit (.bool true)) fun T4 =>
  addK Tryz.prog 3 (.tmp 11) (.const (.int .i64 (.ofNat 1))) 360021 y11 (.lit (.int .i64 (.ofNat 1))) fun x31_7 =>
  lp1 y1 y2 y6 y9 y10 x31_7 T4 n3
 )
noncomputable def g36_k2 (ro : List HT) (lp1 : AV → AV → AV → AV → AV → AV → HT → Nat → R) (y1 y2 y6 y8 y9 y10 y11 y21 : AV) (T2 : HT) (n2 : Nat) : R :=
 condK 360023 y21
 (
  g36_k3 ro lp1 y1 y2 y6 y8 y9 y10 y11 (.lit (.bool true)) T2 n2
 )
 (
  iaK 360027 y2 y8 1 fun x25_8 =>
  ldK 360028 T2 ro x25_8 fun x26_9 =>
  g36_k3 ro lp1 y1 y2 y6 y8 y9 y10 y11 x26_9 T2 n2
 )
noncomputable def g36_b1 (ro : List HT) (lp1 : AV → AV → AV → AV → AV → AV → HT → Nat → R) (y1 y2 y6 y9 y10 y11 : AV) (T1 : HT) (n1 : Nat) : R :=
 ltK Tryz.prog 3 (.tmp 11) (.tmp 10) 360006 y11 y10 fun x12_2 =>
 condK 360007 x12_2
 (
  iaK 360008 y9 y11 1 fun x13_3 =>
  ldK 360009 T1 ro x13_3 fun x14_4 =>
  ltK Tryz.prog 3 (.tmp 15) (.const (.int .i64 (.ofNat 0))) 360012 x14_4 (.lit (.int .i64 (.ofNat 0))) fun x16_5 =>
  condK 360030 x16_5
  (
   g36_k2 ro lp1 y1 y2 y6 x14_4 y9 y10 y11 (.lit (.bool true)) T1 n1
  )
  (
   geK Tryz.prog 3 (.tmp 18) (.tmp 19) 360034 x14_4 y1 fun x20_10 =>
   g36_k2 ro lp1 y1 y2 y6 x14_4 y9 y10 y11 x20_10 T1 n1
  )
 )
 (
  .ok (.val (.lit (.bool true))) T1 n1
 )
noncomputable def g36 (ro : List HT) (a0 a1 a2 : AV) (T : HT) (nx : Nat) : R :=
 lenSK 360003 a0 fun x10_1 =>
 lpf6 360005 (g36_b1 ro) 100000 a1 a2 (.lit (.bool false)) a0 x10_1 (.lit (.int .i64 (.ofNat 0))) T nx
theorem g36_ok (ro : List HT) (a0 a1 a2 : AV) (T : HT) (nx : Nat) : GOk Tryz.prog envE 36 [a0, a1, a2] ro T nx (g36 ro a0 a1 a2 T nx) := by
 refine GOk.of_body Tryz.func36 rfl Tryz.ntmps36 (by kernel_rfl) rfl fun r T' n' h1 w0 base ρ0 its hS hP => ?_
 have X : CtxW envE ρ0 ro r T' n' := trivial
 unfold g36 at h1
 refine sr ?_
 refine as_ ?_
 refine dn ?_
 refine CV.seq ?_
 refine sr ?_
 refine mv ?_
 refine vy (V.lenS h1 rfl Spf.ls30) fun x10_1 h2 => ?_
 refine mv ?_
 refine dn ?_
 refine CV.block ?_
 refine cl6 X 1 2 6 9 10 11 [] hS h2 ⟨rfl, rfl, rfl, rfl, rfl, rfl, trivial⟩ ?_
 intro f1 y1 y2 y6 y9 y10 y11 T1 n1 ρ its hS h3
 unfold g36_b1 at h3
 clear h1 h2
 refine sr ?_
 refine vy (V.lt h3 rfl rfl) fun x12_2 h4 => ?_
 refine dn ?_
 refine CV.seq ?_
 refine CV.cond h4 rfl (fun e h5 => ?_) (fun e h5 => ?_)
 ·
  clear h3 h4
  subst e
  refine CV.skip ?_
  refine PV.thenN ?_
  refine CV.seq ?_
  refine CV.block ?_
  refine sr ?_
  refine vy (V.ia h5 rfl rfl Spf.el30) fun x13_3 h6 => ?_
  refine vy (V.ld hS h6 rfl Spf.one3) fun x14_4 h7 => ?_
  refine as_ ?_
  refine dn ?_
  refine CV.seq ?_
  refine sr ?_
  refine mv ?_
  refine vy (V.lt h7 rfl rfl) fun x16_5 h8 => ?_
  refine mv ?_
  refine ls8 X 1 2 6 8 9 10 11 21 [] (g36_k2 ro (lpf6 360005 (g36_b1 ro) f1)) 4 ?_ ?_
  ·
   rcases condK_inv h8 with ⟨e, h18⟩ | ⟨e, h18⟩
   ·
    clear h5 h6 h7 h8
    subst e
    refine sk ?_
    refine sk ?_
    refine sk ?_
    refine pu ?_
    exact la8 hS h18 ⟨rfl, rfl, rfl, rfl, rfl, rfl, rfl, rfl, trivial⟩
   ·
    clear h5 h6 h7 h8
    subst e
    refine mv ?_
    refine mv ?_
    refine vy (V.ge h18 rfl rfl) fun x20_10 h19 => ?_
    refine pu ?_
    exact la8 hS h19 ⟨rfl, rfl, rfl, rfl, rfl, rfl, rfl, rfl, trivial⟩
  ·
   intro y1 y2 y6 y8 y9 y10 y11 y21 T2 n2 ρ its hS h9
   unfold g36_k2 at h9
   clear h5 h6 h7 h8
   refine mv ?_
   refine ls8 X 1 2 6 8 9 10 11 27 [] (g36_k3 ro (lpf6 360005 (g36_b1 ro) f1)) 5 ?_ ?_
   ·
    rcases condK_inv h9 with ⟨e, h15⟩ | ⟨e, h15⟩
    ·
     clear h9
     subst e
     refine sk ?_
     refine sk ?_
     refine sk ?_
     refine sk ?_
     refine pu ?_
     exact la8 hS h15 ⟨rfl, rfl, rfl, rfl, rfl, rfl, rfl, rfl, trivial⟩
    ·
     clear h9
     subst e
     refine mv ?_
     refine mv ?_
     refine vy (V.ia h15 rfl rfl Spf.el67) fun x25_8 h16 => ?_
     refine vy (V.ld hS h16 rfl Spf.one4) fun x26_9 h17 => ?_
     refine pu ?_
     exact la8 hS h17 ⟨rfl, rfl, rfl, rfl, rfl, rfl, rfl, rfl, trivial⟩
   ·
    intro y1 y2 y6 y8 y9 y10 y11 y27 T3 n3 ρ its hS h10
    unfold g36_k3 at h10
    clear h9
    refine dn ?_
    refine CV.cond h10 rfl (fun e h11 => ?_) (fun e h11 => ?_)
    ·
     clear h10
     subst e
     cases h11
    ·
     clear h10
     subst e
     refine CV.skip ?_
     refine PV.thenN ?_
     refine CV.region ?_
     refine mv ?_
     refine mv ?_
     refine vy (V.ia h11 rfl rfl Spf.el67) fun x30_6 h12 => ?_
     refine LV.st hS h12 rfl rfl rfl Spf.siz4 rfl rfl fun T4 its h13 hS => ?_
     refine LV.done ?_
     refine PV.blockN ?_
     refine PV.thenN ?_
     refine CV.region ?_
     refine vy (V.add h13 rfl rfl) fun x31_7 h14 => ?_
     refine mv ?_
     refine LV.done ?_
     exact pb6 hS h14 ⟨rfl, rfl, rfl, rfl, rfl, rfl, trivial⟩
 ·
  clear h3 h4
  subst e
  refine CV.exit ?_
  refine PV.thenE ?_
  refine PV.thenE ?_
  refine PV.blockE ?_
  refine PV.thenN ?_
  refine sr ?_
  refine as_ ?_
  refine dn ?_
  refine CV.ret ?_
  cases h5
  exact PV.ret (by simp) Tryz.results36 hS (RS.tmp rfl RS.nil) rfl
noncomputable def g147_b1 (ro : List HT) (lp1 : AV → AV → AV → AV → AV → HT → Nat → R) (y0 y1 y4 y7 y8 : AV) (T1 : HT) (n1 : Nat) : R :=
 ltK Tryz.prog 3 (.tmp 8) (.tmp 7) 1470006 y8 y7 fun x9_2 =>
 condK 1470007 x9_2
 (
  iaK 1470013 y0 y8 1 fun x14_3 =>
  ldK 1470014 T1 ro x14_3 fun x15_4 =>
  eqSK Tryz.prog 9 (.tmp 11) (.tmp 15) 1470015 y1 x15_4 fun x16_5 =>
  condK 1470016 x16_5
  (
   .ok (.val y8) T1 n1
  )
  (
   addK Tryz.prog 3 (.tmp 8) (.const (.int .i64 (.ofNat 1))) 1470019 y8 (.lit (.int .i64 (.ofNat 1))) fun x18_6 =>
   lp1 y0 y1 y4 y7 x18_6 T1 n1
  )
 )
 (
  .ok (.val (.lit (.int .i64 (.negSucc 0)))) T1 n1
 )
noncomputable def g147 (ro : List HT) (a0 a1 : AV) (T : HT) (nx : Nat) : R :=
 lenSK 1470003 a0 fun x7_1 =>
 lpf5 1470005 (g147_b1 ro) 100000 a0 a1 (.lit (.int .i64 (.ofNat 0))) x7_1 (.lit (.int .i64 (.ofNat 0))) T nx
theorem g147_ok (ro : List HT) (a0 a1 : AV) (T : HT) (nx : Nat) : GOk Tryz.prog envE 147 [a0, a1] ro T nx (g147 ro a0 a1 T nx) := by
 refine GOk.of_body Tryz.func147 rfl Tryz.ntmps147 (by kernel_rfl) rfl fun r T' n' h1 w0 base ρ0 its hS hP => ?_
 have X : CtxW envE ρ0 ro r T' n' := trivial
 unfold g147 at h1
 refine sr ?_
 refine as_ ?_
 refine dn ?_
 refine CV.seq ?_
 refine sr ?_
 refine mv ?_
 refine vy (V.lenS h1 rfl Spf.ls46) fun x7_1 h2 => ?_
 refine mv ?_
 refine dn ?_
 refine CV.block ?_
 refine cl5 X 0 1 4 7 8 [] hS h2 ⟨rfl, rfl, rfl, rfl, rfl, trivial⟩ ?_
 intro f1 y0 y1 y4 y7 y8 T1 n1 ρ its hS h3
 unfold g147_b1 at h3
 clear h1 h2
 refine sr ?_
 refine vy (V.lt h3 rfl rfl) fun x9_2 h4 => ?_
 refine dn ?_
 refine CV.seq ?_
 refine CV.cond h4 rfl (fun e h5 => ?_) (fun e h5 => ?_)
 ·
  clear h3 h4
  subst e
  refine CV.skip ?_
  refine PV.thenN ?_
  refine CV.seq ?_
  refine CV.block ?_
  refine sr ?_
  refine mv ?_
  refine as_ ?_
  refine dn ?_
  refine sr ?_
  refine mv ?_
  refine mv ?_
  refine mv ?_
  refine vy (V.ia h5 rfl rfl Spf.el46) fun x14_3 h6 => ?_
  refine vy (V.ld hS h6 rfl Spf.one9) fun x15_4 h7 => ?_
  refine vy (V.eqS h7 rfl rfl) fun x16_5 h8 => ?_
  refine dn ?_
  refine CV.cond h8 rfl (fun e h9 => ?_) (fun e h9 => ?_)
  ·
   clear h5 h6 h7 h8
   subst e
   refine sr ?_
   refine mv ?_
   refine as_ ?_
   refine dn ?_
   refine CV.ret ?_
   refine PV.blockR ?_
   refine PV.thenR ?_
   refine PV.thenR ?_
   refine PV.blockR ?_
   refine PV.thenR ?_
   cases h9
   exact PV.ret (by simp) Tryz.results147 hS (RS.tmp rfl RS.nil) rfl
  ·
   clear h5 h6 h7 h8
   subst e
   refine CV.skip ?_
   refine PV.blockN ?_
   refine PV.thenN ?_
   refine CV.region ?_
   refine vy (V.add h9 rfl rfl) fun x18_6 h10 => ?_
   refine mv ?_
   refine LV.done ?_
   exact pb5 hS h10 ⟨rfl, rfl, rfl, rfl, rfl, trivial⟩
 ·
  clear h3 h4
  subst e
  refine CV.exit ?_
  refine PV.thenE ?_
  refine PV.thenE ?_
  refine PV.blockE ?_
  refine PV.thenN ?_
  refine sr ?_
  refine as_ ?_
  refine dn ?_
  refine CV.ret ?_
  cases h5
  exact PV.ret (by simp) Tryz.results147 hS (RS.tmp rfl RS.nil) rfl
noncomputable def g87 (ro : List HT) (a0 a1 : AV) (T : HT) (nx : Nat) : R :=
 callK (g147 ro a0 a1 T nx) fun x7_1 T1 n1 =>
 geK Tryz.prog 3 (.tmp 7) (.const (.int .i64 (.ofNat 0))) 870005 x7_1 (.lit (.int .i64 (.ofNat 0))) fun x8_2 =>
 .ok (.val x8_2) T1 n1
theorem g87_ok (ro : List HT) (a0 a1 : AV) (T : HT) (nx : Nat) : GOk Tryz.prog envE 87 [a0, a1] ro T nx (g87 ro a0 a1 T nx) := by
 refine GOk.of_body Tryz.func87 rfl Tryz.ntmps87 (by kernel_rfl) rfl fun r T' n' h1 w0 base ρ0 its hS hP => ?_
 have X : CtxW envE ρ0 ro r T' n' := trivial
 unfold g87 at h1
 refine sr ?_
 refine as_ ?_
 refine dn ?_
 refine sr ?_
 refine mv ?_
 refine mv ?_
 refine LV.call hS h1 (g147_ok _ _ _ _ _ ) hP rfl rfl rfl rfl fun x7_1 T1 n1 h2 ρ its hS => ?_
 refine vy (V.ge h2 rfl rfl) fun x8_2 h3 => ?_
 refine as_ ?_
 refine dn ?_
 refine CV.ret ?_
 cases h3
 exact PV.ret (by simp) Tryz.results87 hS (RS.tmp rfl RS.nil) rfl
noncomputable def g104_k3 (ro : List HT) (y20 : AV) (T3 : HT) (n3 : Nat) : R :=
 .ok (.val y20) T3 n3
noncomputable def g104_k2 (ro : List HT) (y0 y16 : AV) (T2 : HT) (n2 : Nat) : R :=
 condK 1040008 y16
 (
  g104_k3 ro (.lit (.bool true)) T2 n2
 )
 (
  eqK Tryz.prog 5 (.tmp 18) (.const (.int .u8 (.ofNat 95))) 1040011 y0 (.lit (.int .u8 (.ofNat 95))) fun x19_2 =>
  g104_k3 ro x19_2 T2 n2
 )
noncomputable def g104_k4 (ro : List HT) (y0 y15 : AV) (T4 : HT) (n4 : Nat) : R :=
 g104_k2 ro y0 y15 T4 n4
noncomputable def g104_k1 (ro : List HT) (y0 y8 : AV) (T1 : HT) (n1 : Nat) : R :=
 condK 1040013 y8
 (
  g104_k2 ro y0 (.lit (.bool true)) T1 n1
 )
 (
  geK Tryz.prog 5 (.tmp 10) (.const (.int .u8 (.ofNat 65))) 1040016 y0 (.lit (.int .u8 (.ofNat 65))) fun x11_3 =>
  condK 1040019 x11_3
  (
   leK Tryz.prog 5 (.tmp 13) (.const (.int .u8 (.ofNat 90))) 1040021 y0 (.lit (.int .u8 (.ofNat 90))) fun x14_4 =>
   g104_k4 ro y0 x14_4 T1 n1
  )
  (
   g104_k4 ro y0 (.lit (.bool false)) T1 n1
  )
 )
noncomputable def g104 (ro : List HT) (a0 : AV) (T : HT) (nx : Nat) : R :=
 geK Tryz.prog 5 (.tmp 3) (.const (.int .u8 (.ofNat 97))) 1040003 a0 (.lit (.int .u8 (.ofNat 97))) fun x4_1 =>
 condK 1040024 x4_1
 (
  leK Tryz.prog 5 (.tmp 6) (.const (.int .u8 (.ofNat 122))) 1040026 a0 (.lit (.int .u8 (.ofNat 122))) fun x7_5 =>
  g104_k1 ro a0 x7_5 T nx
 )
 (
  g104_k1 ro a0 (.lit (.bool false)) T nx
 )
theorem g104_ok (ro : List HT) (a0 : AV) (T : HT) (nx : Nat) : GOk Tryz.prog envE 104 [a0] ro T nx (g104 ro a0 T nx) := by
 refine GOk.of_body Tryz.func104 rfl Tryz.ntmps104 (by kernel_rfl) rfl fun r T' n' h1 w0 base ρ0 its hS hP => ?_
 have X : CtxW envE ρ0 ro r T' n' := trivial
 unfold g104 at h1
 refine sr ?_
 refine as_ ?_
 refine dn ?_
 refine sr ?_
 refine mv ?_
 refine vy (V.ge h1 rfl rfl) fun x4_1 h2 => ?_
 refine mv ?_
 refine ls2 X 0 8 [(2, (.lit (.bool false)))] (g104_k1 ro) 3 ?_ ?_
 ·
  rcases condK_inv h2 with ⟨e, h13⟩ | ⟨e, h13⟩
  ·
   clear h1 h2
   subst e
   refine mv ?_
   refine vy (V.le h13 rfl rfl) fun x7_5 h14 => ?_
   refine pu ?_
   exact la2 hS h14 ⟨rfl, rfl, rfl, trivial⟩
  ·
   clear h1 h2
   subst e
   refine sk ?_
   refine sk ?_
   refine pu ?_
   exact la2 hS h13 ⟨rfl, rfl, rfl, trivial⟩
 ·
  intro y0 y8 T1 n1 ρ its hS h3
  unfold g104_k1 at h3
  clear h1 h2
  refine mv ?_
  refine ls2 X 0 16 [(2, (.lit (.bool false)))] (g104_k2 ro) 7 ?_ ?_
  ·
   rcases condK_inv h3 with ⟨e, h8⟩ | ⟨e, h8⟩
   ·
    clear h3
    subst e
    refine sk ?_
    refine sk ?_
    refine sk ?_
    refine sk ?_
    refine sk ?_
    refine sk ?_
    refine pu ?_
    exact la2 hS h8 ⟨rfl, rfl, rfl, trivial⟩
   ·
    clear h3
    subst e
    refine mv ?_
    refine vy (V.ge h8 rfl rfl) fun x11_3 h9 => ?_
    refine mv ?_
    refine ls2 X 0 15 [(2, (.lit (.bool false))), (9, (.lit (.bool false)))] (g104_k4 ro) 3 ?_ ?_
    ·
     rcases condK_inv h9 with ⟨e, h11⟩ | ⟨e, h11⟩
     ·
      clear h8 h9
      subst e
      refine mv ?_
      refine vy (V.le h11 rfl rfl) fun x14_4 h12 => ?_
      refine pu ?_
      exact la2 hS h12 ⟨rfl, rfl, rfl, rfl, trivial⟩
     ·
      clear h8 h9
      subst e
      refine sk ?_
      refine sk ?_
      refine pu ?_
      exact la2 hS h11 ⟨rfl, rfl, rfl, rfl, trivial⟩
    ·
     intro y0 y15 T4 n4 ρ its hS h10
     unfold g104_k4 at h10
     clear h8 h9
     refine pu ?_
     exact la2 hS h10 ⟨rfl, rfl, rfl, trivial⟩
  ·
   intro y0 y16 T2 n2 ρ its hS h4
   unfold g104_k2 at h4
   clear h3
   refine mv ?_
   refine ls1 X 20 [(2, (.lit (.bool false)))] (g104_k3 ro) 3 ?_ ?_
   ·
    rcases condK_inv h4 with ⟨e, h6⟩ | ⟨e, h6⟩
    ·
     clear h4
     subst e
     refine sk ?_
     refine sk ?_
     refine pu ?_
     exact la1 hS h6 ⟨rfl, rfl, trivial⟩
    ·
     clear h4
     subst e
     refine mv ?_
     refine vy (V.eq h6 rfl rfl) fun x19_2 h7 => ?_
     refine pu ?_
     exact la1 hS h7 ⟨rfl, rfl, trivial⟩
   ·
    intro y20 T3 n3 ρ its hS h5
    unfold g104_k3 at h5
    clear h4
    refine as_ ?_
    refine dn ?_
    refine CV.ret ?_
    cases h5
    exact PV.ret (by simp) Tryz.results104 hS (RS.tmp rfl RS.nil) rfl
noncomputable def g105_k1 (ro : List HT) (y8 : AV) (T1 : HT) (n1 : Nat) : R :=
 .ok (.val y8) T1 n1
noncomputable def g105 (ro : List HT) (a0 : AV) (T : HT) (nx : Nat) : R :=
 geK Tryz.prog 5 (.tmp 3) (.const (.int .u8 (.ofNat 48))) 1050003 a0 (.lit (.int .u8 (.ofNat 48))) fun x4_1 =>
 condK 1050006 x4_1
 (
  leK Tryz.prog 5 (.tmp 6) (.const (.int .u8 (.ofNat 57))) 1050008 a0 (.lit (.int .u8 (.ofNat 57))) fun x7_2 =>
  g105_k1 ro x7_2 T nx
 )
 (
  g105_k1 ro (.lit (.bool false)) T nx
 )
theorem g105_ok (ro : List HT) (a0 : AV) (T : HT) (nx : Nat) : GOk Tryz.prog envE 105 [a0] ro T nx (g105 ro a0 T nx) := by
 refine GOk.of_body Tryz.func105 rfl Tryz.ntmps105 (by kernel_rfl) rfl fun r T' n' h1 w0 base ρ0 its hS hP => ?_
 have X : CtxW envE ρ0 ro r T' n' := trivial
 unfold g105 at h1
 refine sr ?_
 refine as_ ?_
 refine dn ?_
 refine sr ?_
 refine mv ?_
 refine vy (V.ge h1 rfl rfl) fun x4_1 h2 => ?_
 refine mv ?_
 refine ls1 X 8 [(2, (.lit (.bool false)))] (g105_k1 ro) 3 ?_ ?_
 ·
  rcases condK_inv h2 with ⟨e, h4⟩ | ⟨e, h4⟩
  ·
   clear h1 h2
   subst e
   refine mv ?_
   refine vy (V.le h4 rfl rfl) fun x7_2 h5 => ?_
   refine pu ?_
   exact la1 hS h5 ⟨rfl, rfl, trivial⟩
  ·
   clear h1 h2
   subst e
   refine sk ?_
   refine sk ?_
   refine pu ?_
   exact la1 hS h4 ⟨rfl, rfl, trivial⟩
 ·
  intro y8 T1 n1 ρ its hS h3
  unfold g105_k1 at h3
  clear h1 h2
  refine as_ ?_
  refine dn ?_
  refine CV.ret ?_
  cases h3
  exact PV.ret (by simp) Tryz.results105 hS (RS.tmp rfl RS.nil) rfl
noncomputable def g106 (ro : List HT) (T : HT) (nx : Nat) : R :=
 bsK 1060002 T nx 17 9 1 [(0, (.lit (.string ⟨⟨[70, 97, 108, 115, 101]⟩⟩))), (1, (.lit (.string ⟨⟨[78, 111, 110, 101]⟩⟩))), (2, (.lit (.string ⟨⟨[84, 114, 117, 101]⟩⟩))), (3, (.lit (.string ⟨⟨[97, 110, 100]⟩⟩))), (4, (.lit (.string ⟨⟨[98, 114, 101, 97, 107]⟩⟩))), (5, (.lit (.string ⟨⟨[99, 111, 110, 116, 105, 110, 117, 101]⟩⟩))), (6, (.lit (.string ⟨⟨[100, 101, 102]⟩⟩))), (7, (.lit (.string ⟨⟨[101, 108, 105, 102]⟩⟩))), (8, (.lit (.string ⟨⟨[101, 108, 115, 101]⟩⟩))), (9, (.lit (.string ⟨⟨[102, 111, 114]⟩⟩))), (10, (.lit (.string ⟨⟨[105, 102]⟩⟩))), (11, (.lit (.string ⟨⟨[105, 110]⟩⟩))), (12, (.lit (.string ⟨⟨[108, 111, 97, 100]⟩⟩))), (13, (.lit (.string ⟨⟨[110, 111, 116]⟩⟩))), (14, (.lit (.string ⟨⟨[111, 114]⟩⟩))), (15, (.lit (.string ⟨⟨[112, 97, 115, 115]⟩⟩))), (16, (.lit (.string ⟨⟨[114, 101, 116, 117, 114, 110]⟩⟩)))] fun x1_1 T1 n1 =>
 .ok (.val x1_1) T1 n1
theorem g106_ok (ro : List HT) (T : HT) (nx : Nat) : GOk Tryz.prog envE 106 [] ro T nx (g106 ro T nx) := by
 refine GOk.of_body Tryz.func106 rfl Tryz.ntmps106 (by kernel_rfl) rfl fun r T' n' h1 w0 base ρ0 its hS hP => ?_
 have X : CtxW envE ρ0 ro r T' n' := trivial
 unfold g106 at h1
 refine sr ?_
 refine as_ ?_
 refine dn ?_
 refine sr ?_
 refine LV.bslice hS h1 rfl rfl Spf.el46 rfl rfl rfl rfl fun x1_1 T1 n1 h2 ρ its hS hdr => ?_
 refine as_ ?_
 refine dn ?_
 refine CV.ret ?_
 cases h2
 exact PV.ret (by simp) Tryz.results106 hS (RS.tmp rfl RS.nil) rfl
noncomputable def g66_k2 (ro : List HT) (lp1 : AV → AV → AV → AV → HT → Nat → R) (y0 y2 y5 y6 y24 : AV) (T3 : HT) (n3 : Nat) : R :=
 condK 660016 y24
 (
  .bad 660017
 )
 (
  addK Tryz.prog 3 (.tmp 6) (.const (.int .i64 (.ofNat 1))) 660018 y6 (.lit (.int .i64 (.ofNat 1))) fun x25_6 =>
  lp1 y0 y2 y5 x25_6 T3 n3
 )
noncomputable def g66_k3 (ro : List HT) (lp1 : AV → AV → AV → AV → HT → Nat → R) (y0 y2 y5 y6 y23 : AV) (T4 : HT) (n4 : Nat) : R :=
 g66_k2 ro lp1 y0 y2 y5 y6 y23 T4 n4
noncomputable def g66_k4 (ro : List HT) (y2 y33 : AV) (T6 : HT) (n6 : Nat) : R :=
 .ok (.val y33) T6 n6
noncomputable def g66_b1 (ro : List HT) (lp1 : AV → AV → AV → AV → HT → Nat → R) (y0 y2 y5 y6 : AV) (T1 : HT) (n1 : Nat) : R :=
 ltK Tryz.prog 3 (.tmp 6) (.tmp 5) 660006 y6 y5 fun x7_2 =>
 condK 660007 x7_2
 (
  ixK 660012 y0 y6 fun x11_3 =>
  callK (g104 ro x11_3 T1 n1) fun x12_4 T2 n2 =>
  notK 660014 x12_4 fun x13_5 =>
  condK 660020 x13_5
  (
   eqK Tryz.prog 3 (.tmp 15) (.const (.int .i64 (.ofNat 0))) 660022 y6 (.lit (.int .i64 (.ofNat 0))) fun x16_7 =>
   condK 660025 x16_7
   (
    g66_k3 ro lp1 y0 y2 y5 y6 (.lit (.bool true)) T2 n2
   )
   (
    ixK 660029 y0 y6 fun x20_8 =>
    callK (g105 ro x20_8 T2 n2) fun x21_9 T5 n5 =>
    notK 660031 x21_9 fun x22_10 =>
    g66_k3 ro lp1 y0 y2 y5 y6 x22_10 T5 n5
   )
  )
  (
   g66_k2 ro lp1 y0 y2 y5 y6 (.lit (.bool false)) T2 n2
  )
 )
 (
  neSK Tryz.prog 9 (.tmp 26) (.const (.string ⟨⟨[]⟩⟩)) 660035 y0 (.lit (.string ⟨⟨[]⟩⟩)) fun x27_11 =>
  condK 660038 x27_11
  (
   callK (g106 ro T1 n1) fun x29_12 T7 n7 =>
   callK (g87 ro x29_12 y0 T7 n7) fun x31_13 T8 n8 =>
   notK 660042 x31_13 fun x32_14 =>
   g66_k4 ro y2 x32_14 T8 n8
  )
  (
   g66_k4 ro y2 (.lit (.bool false)) T1 n1
  )
 )
noncomputable def g66 (ro : List HT) (a0 : AV) (T : HT) (nx : Nat) : R :=
 lenTK 660003 a0 fun x5_1 =>
 lpf4 660005 (g66_b1 ro) 100000 a0 (.lit (.bool false)) x5_1 (.lit (.int .i64 (.ofNat 0))) T nx
theorem g66_ok (ro : List HT) (a0 : AV) (T : HT) (nx : Nat) : GOk Tryz.prog envE 66 [a0] ro T nx (g66 ro a0 T nx) := by
 refine GOk.of_body Tryz.func66 rfl Tryz.ntmps66 (by kernel_rfl) rfl fun r T' n' h1 w0 base ρ0 its hS hP => ?_
 have X : CtxW envE ρ0 ro r T' n' := trivial
 unfold g66 at h1
 refine sr ?_
 refine as_ ?_
 refine dn ?_
 refine CV.seq ?_
 refine sr ?_
 refine mv ?_
 refine vy (V.lenT h1 rfl Spf.ls9) fun x5_1 h2 => ?_
 refine mv ?_
 refine dn ?_
 refine CV.block ?_
 refine cl4 X 0 2 5 6 [] hS h2 ⟨rfl, rfl, rfl, rfl, trivial⟩ ?_
 intro f1 y0 y2 y5 y6 T1 n1 ρ its hS h3
 unfold g66_b1 at h3
 clear h1 h2
 refine sr ?_
 refine vy (V.lt h3 rfl rfl) fun x7_2 h4 => ?_
 refine dn ?_
 refine CV.seq ?_
 refine CV.cond h4 rfl (fun e h5 => ?_) (fun e h5 => ?_)
 ·
  clear h3 h4
  subst e
  refine CV.skip ?_
  refine PV.thenN ?_
  refine CV.seq ?_
  refine CV.block ?_
  refine sr ?_
  refine mv ?_
  refine as_ ?_
  refine dn ?_
  refine sr ?_
  refine mv ?_
  refine mv ?_
  refine vy (V.ix h5 rfl rfl Spf.st9) fun x11_3 h6 => ?_
  refine LV.call hS h6 (g104_ok _ _ _ _ ) hP rfl rfl rfl rfl fun x12_4 T2 n2 h7 ρ its hS => ?_
  refine vy (V.not h7 rfl) fun x13_5 h8 => ?_
  refine mv ?_
  refine ls5 X 0 2 5 6 24 [] (g66_k2 ro (lpf4 660005 (g66_b1 ro) f1)) 10 ?_ ?_
  ·
   rcases condK_inv h8 with ⟨e, h12⟩ | ⟨e, h12⟩
   ·
    clear h5 h6 h7 h8
    subst e
    refine mv ?_
    refine vy (V.eq h12 rfl rfl) fun x16_7 h13 => ?_
    refine mv ?_
    refine ls5 X 0 2 5 6 23 [(14, (.lit (.bool true)))] (g66_k3 ro (lpf4 660005 (g66_b1 ro) f1)) 6 ?_ ?_
    ·
     rcases condK_inv h13 with ⟨e, h15⟩ | ⟨e, h15⟩
     ·
      clear h12 h13
      subst e
      refine sk ?_
      refine sk ?_
      refine sk ?_
      refine sk ?_
      refine sk ?_
      refine pu ?_
      exact la5 hS h15 ⟨rfl, rfl, rfl, rfl, rfl, rfl, trivial⟩
     ·
      clear h12 h13
      subst e
      refine mv ?_
      refine mv ?_
      refine vy (V.ix h15 rfl rfl Spf.st9) fun x20_8 h16 => ?_
      refine LV.call hS h16 (g105_ok _ _ _ _ ) hP rfl rfl rfl rfl fun x21_9 T5 n5 h17 ρ its hS => ?_
      refine vy (V.not h17 rfl) fun x22_10 h18 => ?_
      refine pu ?_
      exact la5 hS h18 ⟨rfl, rfl, rfl, rfl, rfl, rfl, trivial⟩
    ·
     intro y0 y2 y5 y6 y23 T4 n4 ρ its hS h14
     unfold g66_k3 at h14
     clear h12 h13
     refine pu ?_
     exact la5 hS h14 ⟨rfl, rfl, rfl, rfl, rfl, trivial⟩
   ·
    clear h5 h6 h7 h8
    subst e
    refine sk ?_
    refine sk ?_
    refine sk ?_
    refine sk ?_
    refine sk ?_
    refine sk ?_
    refine sk ?_
    refine sk ?_
    refine sk ?_
    refine pu ?_
    exact la5 hS h12 ⟨rfl, rfl, rfl, rfl, rfl, trivial⟩
  ·
   intro y0 y2 y5 y6 y24 T3 n3 ρ its hS h9
   unfold g66_k2 at h9
   clear h5 h6 h7 h8
   refine dn ?_
   refine CV.cond h9 rfl (fun e h10 => ?_) (fun e h10 => ?_)
   ·
    clear h9
    subst e
    cases h10
   ·
    clear h9
    subst e
    refine CV.skip ?_
    refine PV.blockN ?_
    refine PV.thenN ?_
    refine CV.region ?_
    refine vy (V.add h10 rfl rfl) fun x25_6 h11 => ?_
    refine mv ?_
    refine LV.done ?_
    exact pb4 hS h11 ⟨rfl, rfl, rfl, rfl, trivial⟩
 ·
  clear h3 h4
  subst e
  refine CV.exit ?_
  refine PV.thenE ?_
  refine PV.thenE ?_
  refine PV.blockE ?_
  refine PV.thenN ?_
  refine sr ?_
  refine mv ?_
  refine vy (V.neS h5 rfl rfl) fun x27_11 h19 => ?_
  refine mv ?_
  refine ls2 X 2 33 [] (g66_k4 ro) 5 ?_ ?_
  ·
   rcases condK_inv h19 with ⟨e, h21⟩ | ⟨e, h21⟩
   ·
    clear h5 h19
    subst e
    refine LV.call hS h21 (g106_ok _ _ _ ) hP rfl rfl rfl rfl fun x29_12 T7 n7 h22 ρ its hS => ?_
    refine mv ?_
    refine LV.call hS h22 (g87_ok _ _ _ _ _ ) hP rfl rfl rfl rfl fun x31_13 T8 n8 h23 ρ its hS => ?_
    refine vy (V.not h23 rfl) fun x32_14 h24 => ?_
    refine pu ?_
    exact la2 hS h24 ⟨rfl, rfl, trivial⟩
   ·
    clear h5 h19
    subst e
    refine sk ?_
    refine sk ?_
    refine sk ?_
    refine sk ?_
    refine pu ?_
    exact la2 hS h21 ⟨rfl, rfl, trivial⟩
  ·
   intro y2 y33 T6 n6 ρ its hS h20
   unfold g66_k4 at h20
   clear h5 h19
   refine as_ ?_
   refine dn ?_
   refine CV.ret ?_
   cases h20
   exact PV.ret (by simp) Tryz.results66 hS (RS.tmp rfl RS.nil) rfl
noncomputable def g65 (ro : List HT) (a0 a1 a2 a3 a4 : AV) (T : HT) (nx : Nat) : R :=
 fldK 650004 T ro a0 2 fun x15_1 =>
 optK 650009 (bld32 [(0, a1), (2, a2), (3, a3), (4, a4)]) fun x20_2 =>
 bsK 650010 T nx 1 32 5 [(0, x20_2)] fun x21_3 T1 n1 =>
 shrK 650012 T1 x15_1 fun T2 =>
 appK 650011 T2 ro n1 32 5 64 x15_1 x21_3 fun x22_4 T3 n3 =>
 faK 650013 a0 2 fun x24_5 =>
 stK 650014 T3 x24_5 x22_4 fun T4 =>
 fldK 650016 T4 ro a0 2 fun x28_6 =>
 lenSK 650017 x28_6 fun x29_7 =>
 subK Tryz.prog 3 (.tmp 29) (.const (.int .i64 (.ofNat 1))) 650018 x29_7 (.lit (.int .i64 (.ofNat 1))) fun x30_8 =>
 .ok (.val x30_8) T4 n3
theorem g65_ok (ro : List HT) (a0 a1 a2 a3 a4 : AV) (T : HT) (nx : Nat) : GOk Tryz.prog envE 65 [a0, a1, a2, a3, a4] ro T nx (g65 ro a0 a1 a2 a3 a4 T nx) := by
 refine GOk.of_body Tryz.func65 rfl Tryz.ntmps65 (by kernel_rfl) rfl fun r T' n' h1 w0 base ρ0 its hS hP => ?_
 have X : CtxW envE ρ0 ro r T' n' := trivial
 unfold g65 at h1
 refine sr ?_
 refine as_ ?_
 refine dn ?_
 refine sr ?_
 refine mv ?_
 refine mv ?_
 refine fl hS h1 Spf.fo98_2 Spf.one23 fun x15_1 h2 => ?_
 refine mv ?_
 refine mv ?_
 refine mv ?_
 refine mv ?_
 refine vy (V.bld h2 rfl) fun x20_2 h3 => ?_
 refine LV.bslice hS h3 rfl rfl Spf.el23 rfl rfl rfl rfl fun x21_3 T1 n1 h4 ρ its hS hdr => ?_
 obtain ⟨T2, its1, h5, hS, hW⟩ := shrK_inv hS h4
 refine LV.world hW ?_
 refine LV.app hS h5 rfl rfl rfl rfl Spf.el23 rfl rfl rfl fun x22_4 T3 n3 h6 ρ its hS => ?_
 refine fa2 h6 Spf.fo98_2 fun x24_5 h7 => ?_
 refine LV.st hS h7 rfl rfl rfl Spf.siz23 rfl rfl fun T4 its h8 hS => ?_
 refine dn ?_
 refine sr ?_
 refine mv ?_
 refine fl hS h8 Spf.fo98_2 Spf.one23 fun x28_6 h9 => ?_
 refine vy (V.lenS h9 rfl Spf.ls23) fun x29_7 h10 => ?_
 refine vy (V.sub h10 rfl rfl) fun x30_8 h11 => ?_
 refine as_ ?_
 refine dn ?_
 refine CV.ret ?_
 cases h11
 exact PV.ret (by simp) Tryz.results65 hS (RS.tmp rfl RS.nil) rfl
noncomputable def g129 (ro : List HT) (a0 : AV) (T : HT) (nx : Nat) : R :=
 ncK 1290003 a0 fun x4_1 =>
 faK 1290004 x4_1 0 fun x5_2 =>
 ldK 1290005 T ro x5_2 fun x6_3 =>
 ncK 1290007 a0 fun x8_4 =>
 faK 1290008 x8_4 1 fun x9_5 =>
 ldK 1290009 T ro x9_5 fun x10_6 =>
 iaK 1290010 x6_3 x10_6 3 fun x11_7 =>
 faK 1290011 x11_7 2 fun x12_8 =>
 ldK 1290012 T ro x12_8 fun x13_9 =>
 .ok (.val x13_9) T nx
theorem g129_ok (ro : List HT) (a0 : AV) (T : HT) (nx : Nat) : GOk Tryz.prog envE 129 [a0] ro T nx (g129 ro a0 T nx) := by
 refine GOk.of_body Tryz.func129 rfl Tryz.ntmps129 (by kernel_rfl) rfl fun r T' n' h1 w0 base ρ0 its hS hP => ?_
 have X : CtxW envE ρ0 ro r T' n' := trivial
 unfold g129 at h1
 refine sr ?_
 refine as_ ?_
 refine dn ?_
 refine CV.seq ?_
 refine CV.regionM [(0, .anywhere), (1, .anywhere), (2, .anywhere), (3, .held), (4, .anywhere), (5, .anywhere), (6, .anywhere), (7, .held), (8, .held), (9, .held), (10, .held), (11, .held)] rfl (fun c a a' w hd hq => PanicOk.root (P := Tryz.prog) (fn := Tryz.f129) (w0 := w0) (base := base) (E := envE) (ro := ro) (r := r) (T' := T') (n' := n') (ρ0 := ρ0) c a a' w hd hq) (by kernel_rfl) ?_
 refine MV.step0 (i := 0) rfl (VAL.move rfl) rfl rfl rfl ?_
 refine MV.lift0 (i := 1) rfl (V.nc h1 rfl) rfl rfl rfl fun x4_1 h2 => ?_
 refine MV.lift0 (i := 2) rfl (V.fa h2 rfl Spf.fo98_0) rfl rfl rfl fun x5_2 h3 => ?_
 refine MV.lift1 (i := 3) rfl (fun _ z => z) (V.ld hS h3 rfl Spf.one96) rfl rfl rfl [] (by kernel_rfl) fun x6_3 h4 => ?_
 refine MV.step0 (i := 4) rfl (VAL.move rfl) rfl rfl rfl ?_
 refine MV.lift0 (i := 5) rfl (V.nc h4 rfl) rfl rfl rfl fun x8_4 h5 => ?_
 refine MV.lift0 (i := 6) rfl (V.fa h5 rfl Spf.fo98_1) rfl rfl rfl fun x9_5 h6 => ?_
 refine MV.lift1 (i := 7) rfl (fun _ z => z) (V.ld hS h6 rfl Spf.one3) rfl rfl rfl [3] (by kernel_rfl) fun x10_6 h7 => ?_
 refine MV.lift1 (i := 8) rfl (fun _ z => z) (V.ia h7 rfl rfl Spf.el96) rfl rfl rfl [] (by kernel_rfl) fun x11_7 h8 => ?_
 refine MV.lift1 (i := 9) rfl (fun _ z => z) (V.fa h8 rfl Spf.fo139_2) rfl rfl rfl [] (by kernel_rfl) fun x12_8 h9 => ?_
 refine MV.lift1 (i := 10) rfl (fun _ z => z) (V.ld hS h9 rfl Spf.one3) rfl rfl rfl [] (by kernel_rfl) fun x13_9 h10 => ?_
 refine MV.step1 (i := 11) rfl (fun _ z => z) (VAL.assign rfl) rfl rfl rfl [] (by kernel_rfl) ?_
 refine mdn ?_
 refine CV.ret ?_
 cases h10
 exact PV.ret (by simp) Tryz.results129 hS (RS.tmp rfl RS.nil) rfl
noncomputable def g50 (ro : List HT) (a0 : AV) (T : HT) (nx : Nat) : R :=
 ncK 500003 a0 fun x4_1 =>
 faK 500004 x4_1 0 fun x5_2 =>
 ldK 500005 T ro x5_2 fun x6_3 =>
 ncK 500007 a0 fun x8_4 =>
 faK 500008 x8_4 1 fun x9_5 =>
 ldK 500009 T ro x9_5 fun x10_6 =>
 iaK 500010 x6_3 x10_6 3 fun x11_7 =>
 faK 500011 x11_7 0 fun x12_8 =>
 ldK 500012 T ro x12_8 fun x13_9 =>
 .ok (.val x13_9) T nx
theorem g50_ok (ro : List HT) (a0 : AV) (T : HT) (nx : Nat) : GOk Tryz.prog envE 50 [a0] ro T nx (g50 ro a0 T nx) := by
 refine GOk.of_body Tryz.func50 rfl Tryz.ntmps50 (by kernel_rfl) rfl fun r T' n' h1 w0 base ρ0 its hS hP => ?_
 have X : CtxW envE ρ0 ro r T' n' := trivial
 unfold g50 at h1
 refine sr ?_
 refine as_ ?_
 refine dn ?_
 refine CV.seq ?_
 refine CV.regionM [(0, .anywhere), (1, .anywhere), (2, .anywhere), (3, .held), (4, .anywhere), (5, .anywhere), (6, .anywhere), (7, .held), (8, .held), (9, .held), (10, .held), (11, .held)] rfl (fun c a a' w hd hq => PanicOk.root (P := Tryz.prog) (fn := Tryz.f50) (w0 := w0) (base := base) (E := envE) (ro := ro) (r := r) (T' := T') (n' := n') (ρ0 := ρ0) c a a' w hd hq) (by kernel_rfl) ?_
 refine MV.step0 (i := 0) rfl (VAL.move rfl) rfl rfl rfl ?_
 refine MV.lift0 (i := 1) rfl (V.nc h1 rfl) rfl rfl rfl fun x4_1 h2 => ?_
 refine MV.lift0 (i := 2) rfl (V.fa h2 rfl Spf.fo98_0) rfl rfl rfl fun x5_2 h3 => ?_
 refine MV.lift1 (i := 3) rfl (fun _ z => z) (V.ld hS h3 rfl Spf.one96) rfl rfl rfl [] (by kernel_rfl) fun x6_3 h4 => ?_
 refine MV.step0 (i := 4) rfl (VAL.move rfl) rfl rfl rfl ?_
 refine MV.lift0 (i := 5) rfl (V.nc h4 rfl) rfl rfl rfl fun x8_4 h5 => ?_
 refine MV.lift0 (i := 6) rfl (V.fa h5 rfl Spf.fo98_1) rfl rfl rfl fun x9_5 h6 => ?_
 refine MV.lift1 (i := 7) rfl (fun _ z => z) (V.ld hS h6 rfl Spf.one3) rfl rfl rfl [3] (by kernel_rfl) fun x10_6 h7 => ?_
 refine MV.lift1 (i := 8) rfl (fun _ z => z) (V.ia h7 rfl rfl Spf.el96) rfl rfl rfl [] (by kernel_rfl) fun x11_7 h8 => ?_
 refine MV.lift1 (i := 9) rfl (fun _ z => z) (V.fa h8 rfl Spf.fo139_0) rfl rfl rfl [] (by kernel_rfl) fun x12_8 h9 => ?_
 refine MV.lift1 (i := 10) rfl (fun _ z => z) (V.ld hS h9 rfl Spf.one3) rfl rfl rfl [] (by kernel_rfl) fun x13_9 h10 => ?_
 refine MV.step1 (i := 11) rfl (fun _ z => z) (VAL.assign rfl) rfl rfl rfl [] (by kernel_rfl) ?_
 refine mdn ?_
 refine CV.ret ?_
 cases h10
 exact PV.ret (by simp) Tryz.results50 hS (RS.tmp rfl RS.nil) rfl
noncomputable def g99 (ro : List HT) (a0 a1 : AV) (T : HT) (nx : Nat) : R :=
 callQ 990003 (g50 (T :: ro) a0 .nil nx) fun x6_1 =>
 eqK Tryz.prog 3 (.tmp 6) (.const (.int .i64 (.ofNat 4))) 990004 x6_1 (.lit (.int .i64 (.ofNat 4))) fun x7_2 =>
 condK 990006 x7_2
 (
  ncK 990009 a0 fun x11_3 =>
  faK 990010 x11_3 0 fun x12_4 =>
  ldK 990011 T ro x12_4 fun x13_5 =>
  ncK 990013 a0 fun x15_6 =>
  faK 990014 x15_6 1 fun x16_7 =>
  ldK 990015 T ro x16_7 fun x17_8 =>
  iaK 990016 x13_5 x17_8 3 fun x18_9 =>
  faK 990017 x18_9 1 fun x19_10 =>
  ldK 990018 T ro x19_10 fun x20_11 =>
  callQ 990019 (g87 (T :: ro) a1 x20_11 .nil nx) fun x21_12 =>
  .ok (.val x21_12) T nx
 )
 (
  .ok (.val (.lit (.bool false))) T nx
 )
theorem g99_ok (ro : List HT) (a0 a1 : AV) (T : HT) (nx : Nat) : GOk Tryz.prog envE 99 [a0, a1] ro T nx (g99 ro a0 a1 T nx) := by
 refine GOk.of_body Tryz.func99 rfl Tryz.ntmps99 (by kernel_rfl) rfl fun r T' n' h1 w0 base ρ0 its hS hP => ?_
 have X : CtxW envE ρ0 ro r T' n' := trivial
 unfold g99 at h1
 refine sr ?_
 refine as_ ?_
 refine dn ?_
 refine CV.seq ?_
 refine CV.regionM [(0, .anywhere), (1, .alone), (2, .anywhere), (3, .anywhere), (4, .anywhere), (5, .anywhere), (6, .anywhere), (7, .anywhere), (8, .held), (9, .anywhere), (10, .anywhere), (11, .anywhere), (12, .held), (13, .held), (14, .held), (15, .held), (16, .alone), (17, .anywhere), (18, .anywhere)] rfl (fun c a a' w hd hq => PanicOk.root (P := Tryz.prog) (fn := Tryz.f99) (w0 := w0) (base := base) (E := envE) (ro := ro) (r := r) (T' := T') (n' := n') (ρ0 := ρ0) c a a' w hd hq) (by kernel_rfl) ?_
 refine MV.step0 (i := 0) rfl (VAL.move rfl) rfl rfl rfl ?_
 refine MV.force (i := 1) rfl ?_
 refine LV.callQ hS h1 (g50_ok _ _ _ _ ) rfl rfl rfl rfl fun x6_1 h2 => ?_
 refine LV.nextM [] (by kernel_rfl) (fun z => absurd rfl z) ?_
 refine MV.lift0 (i := 2) rfl (V.eq h2 rfl rfl) rfl rfl rfl fun x7_2 h3 => ?_
 refine MV.step0 (i := 3) rfl (VAL.move rfl) rfl rfl rfl ?_
 rcases condK_inv h3 with ⟨e, h4⟩ | ⟨e, h4⟩
 ·
  clear h1 h2 h3
  subst e
  refine MV.step0 (i := 4) rfl (VAL.move rfl) rfl rfl rfl ?_
  refine MV.step0 (i := 5) rfl (VAL.move rfl) rfl rfl rfl ?_
  refine MV.lift0 (i := 6) rfl (V.nc h4 rfl) rfl rfl rfl fun x11_3 h5 => ?_
  refine MV.lift0 (i := 7) rfl (V.fa h5 rfl Spf.fo98_0) rfl rfl rfl fun x12_4 h6 => ?_
  refine MV.lift1 (i := 8) rfl (fun _ z => z) (V.ld hS h6 rfl Spf.one96) rfl rfl rfl [] (by kernel_rfl) fun x13_5 h7 => ?_
  refine MV.step0 (i := 9) rfl (VAL.move rfl) rfl rfl rfl ?_
  refine MV.lift0 (i := 10) rfl (V.nc h7 rfl) rfl rfl rfl fun x15_6 h8 => ?_
  refine MV.lift0 (i := 11) rfl (V.fa h8 rfl Spf.fo98_1) rfl rfl rfl fun x16_7 h9 => ?_
  refine MV.lift1 (i := 12) rfl (fun _ z => z) (V.ld hS h9 rfl Spf.one3) rfl rfl rfl [8] (by kernel_rfl) fun x17_8 h10 => ?_
  refine MV.lift1 (i := 13) rfl (fun _ z => z) (V.ia h10 rfl rfl Spf.el96) rfl rfl rfl [] (by kernel_rfl) fun x18_9 h11 => ?_
  refine MV.lift1 (i := 14) rfl (fun _ z => z) (V.fa h11 rfl Spf.fo139_1) rfl rfl rfl [] (by kernel_rfl) fun x19_10 h12 => ?_
  refine MV.lift1 (i := 15) rfl (fun _ z => z) (V.ld hS h12 rfl Spf.one9) rfl rfl rfl [] (by kernel_rfl) fun x20_11 h13 => ?_
  refine MV.force (i := 16) rfl ?_
  refine LV.callQ hS h13 (g87_ok _ _ _ _ _ ) rfl rfl rfl rfl fun x21_12 h14 => ?_
  refine LV.nextM [] (by kernel_rfl) (fun z => absurd rfl z) ?_
  refine MV.step0 (i := 17) rfl (VAL.pure rfl) rfl rfl rfl ?_
  refine MV.step0 (i := 18) rfl (VAL.assign rfl) rfl rfl rfl ?_
  refine mdn ?_
  refine CV.ret ?_
  cases h14
  exact PV.ret (by simp) Tryz.results99 hS (RS.tmp rfl RS.nil) rfl
 ·
  clear h1 h2 h3
  subst e
  refine MV.skip0 (i := 4) rfl rfl rfl rfl ?_
  refine MV.skip0 (i := 5) rfl rfl rfl rfl ?_
  refine MV.skip0 (i := 6) rfl rfl rfl rfl ?_
  refine MV.skip0 (i := 7) rfl rfl rfl rfl ?_
  refine MV.skip1 (i := 8) rfl (fun _ z => z) rfl rfl rfl [] (by kernel_rfl) ?_
  refine MV.skip0 (i := 9) rfl rfl rfl rfl ?_
  refine MV.skip0 (i := 10) rfl rfl rfl rfl ?_
  refine MV.skip0 (i := 11) rfl rfl rfl rfl ?_
  refine MV.skip1 (i := 12) rfl (fun _ z => z) rfl rfl rfl [8] (by kernel_rfl) ?_
  refine MV.skip1 (i := 13) rfl (fun _ z => z) rfl rfl rfl [] (by kernel_rfl) ?_
  refine MV.skip1 (i := 14) rfl (fun _ z => z) rfl rfl rfl [] (by kernel_rfl) ?_
  refine MV.skip1 (i := 15) rfl (fun _ z => z) rfl rfl rfl [] (by kernel_rfl) ?_
  refine MV.force (i := 16) rfl ?_
  refine sk ?_
  refine LV.nextM [] (by kernel_rfl) (fun z => absurd rfl z) ?_
  refine MV.step0 (i := 17) rfl (VAL.pure rfl) rfl rfl rfl ?_
  refine MV.step0 (i := 18) rfl (VAL.assign rfl) rfl rfl rfl ?_
  refine mdn ?_
  refine CV.ret ?_
  cases h4
  exact PV.ret (by simp) Tryz.results99 hS (RS.tmp rfl RS.nil) rfl
noncomputable def g176 (ro : List HT) (a0 a1 : AV) (T : HT) (nx : Nat) : R :=
 fldK 1760002 T ro a0 3 fun x7_1 =>
 geK Tryz.prog 3 (.tmp 7) (.const (.int .i64 (.ofNat 60))) 1760003 x7_1 (.lit (.int .i64 (.ofNat 60))) fun x8_2 =>
 condK 1760004 x8_2
 (
  .bad 1760005
 )
 (
  fldK 1760007 T ro a0 3 fun x15_3 =>
  addK Tryz.prog 3 (.tmp 15) (.const (.int .i64 (.ofNat 1))) 1760008 x15_3 (.lit (.int .i64 (.ofNat 1))) fun x16_4 =>
  faK 1760009 a0 3 fun x18_5 =>
  stK 1760010 T x18_5 x16_4 fun T1 =>
  .ok (.val (.tup [])) T1 nx
 )
theorem g176_ok (ro : List HT) (a0 a1 : AV) (T : HT) (nx : Nat) : GOk Tryz.prog envE 176 [a0, a1] ro T nx (g176 ro a0 a1 T nx) := by
 refine GOk.of_body Tryz.func176 rfl Tryz.ntmps176 (by kernel_rfl) rfl fun r T' n' h1 w0 base ρ0 its hS hP => ?_
 have X : CtxW envE ρ0 ro r T' n' := trivial
 unfold g176 at h1
 refine CV.seq ?_
 refine sr ?_
 refine mv ?_
 refine fl hS h1 Spf.fo98_3 Spf.one3 fun x7_1 h2 => ?_
 refine vy (V.ge h2 rfl rfl) fun x8_2 h3 => ?_
 refine dn ?_
 refine CV.cond h3 rfl (fun e h4 => ?_) (fun e h4 => ?_)
 ·
  clear h1 h2 h3
  subst e
  cases h4
 ·
  clear h1 h2 h3
  subst e
  refine CV.skip ?_
  refine PV.thenN ?_
  refine CV.region ?_
  refine mv ?_
  refine fl hS h4 Spf.fo98_3 Spf.one3 fun x15_3 h5 => ?_
  refine vy (V.add h5 rfl rfl) fun x16_4 h6 => ?_
  refine fa2 h6 Spf.fo98_3 fun x18_5 h7 => ?_
  refine LV.st hS h7 rfl rfl rfl Spf.siz3 rfl rfl fun T1 its h8 hS => ?_
  refine LV.done ?_
  cases h8
  exact PV.ret (by simp) Tryz.results176 hS RS.nil rfl
noncomputable def g131 (ro : List HT) (a0 a1 : AV) (T : HT) (nx : Nat) : R :=
 bsK 1310004 T nx 1 9 1 [(0, a1)] fun x7_1 T1 n1 =>
 callK (g99 ro a0 x7_1 T1 n1) fun x8_2 T2 n2 =>
 notK 1310006 x8_2 fun x9_3 =>
 condK 1310007 x9_3
 (
  .ok (.val (.lit (.bool false))) T2 n2
 )
 (
  fldK 1310010 T2 ro a0 1 fun x13_4 =>
  addK Tryz.prog 3 (.tmp 13) (.const (.int .i64 (.ofNat 1))) 1310011 x13_4 (.lit (.int .i64 (.ofNat 1))) fun x14_5 =>
  faK 1310012 a0 1 fun x16_6 =>
  stK 1310013 T2 x16_6 x14_5 fun T3 =>
  .ok (.val (.lit (.bool true))) T3 n2
 )
theorem g131_ok (ro : List HT) (a0 a1 : AV) (T : HT) (nx : Nat) : GOk Tryz.prog envE 131 [a0, a1] ro T nx (g131 ro a0 a1 T nx) := by
 refine GOk.of_body Tryz.func131 rfl Tryz.ntmps131 (by kernel_rfl) rfl fun r T' n' h1 w0 base ρ0 its hS hP => ?_
 have X : CtxW envE ρ0 ro r T' n' := trivial
 unfold g131 at h1
 refine sr ?_
 refine as_ ?_
 refine dn ?_
 refine CV.seq ?_
 refine sr ?_
 refine mv ?_
 refine mv ?_
 refine LV.bslice hS h1 rfl rfl Spf.el46 rfl rfl rfl rfl fun x7_1 T1 n1 h2 ρ its hS hdr => ?_
 refine LV.call hS h2 (g99_ok _ _ _ _ _ ) hP rfl rfl rfl rfl fun x8_2 T2 n2 h3 ρ its hS => ?_
 refine vy (V.not h3 rfl) fun x9_3 h4 => ?_
 refine dn ?_
 refine CV.cond h4 rfl (fun e h5 => ?_) (fun e h5 => ?_)
 ·
  clear h1 h2 h3 h4
  subst e
  refine sr ?_
  refine as_ ?_
  refine dn ?_
  refine CV.ret ?_
  refine PV.thenR ?_
  cases h5
  exact PV.ret (by simp) Tryz.results131 hS (RS.tmp rfl RS.nil) rfl
 ·
  clear h1 h2 h3 h4
  subst e
  refine CV.skip ?_
  refine PV.thenN ?_
  refine sr ?_
  refine mv ?_
  refine fl hS h5 Spf.fo98_1 Spf.one3 fun x13_4 h6 => ?_
  refine vy (V.add h6 rfl rfl) fun x14_5 h7 => ?_
  refine fa2 h7 Spf.fo98_1 fun x16_6 h8 => ?_
  refine LV.st hS h8 rfl rfl rfl Spf.siz3 rfl rfl fun T3 its h9 hS => ?_
  refine dn ?_
  refine sr ?_
  refine as_ ?_
  refine dn ?_
  refine CV.ret ?_
  cases h9
  exact PV.ret (by simp) Tryz.results131 hS (RS.tmp rfl RS.nil) rfl
noncomputable def g177 (ro : List HT) (a0 a1 : AV) (T : HT) (nx : Nat) : R :=
 callK (g129 ro a0 T nx) fun x7_1 T1 n1 =>
 callK (g131 ro a0 a1 T1 n1) fun x10_2 T2 n2 =>
 notK 1770008 x10_2 fun x11_3 =>
 condK 1770009 x11_3
 (
  .bad 1770010
 )
 (
  .ok (.val x7_1) T2 n2
 )
theorem g177_ok (ro : List HT) (a0 a1 : AV) (T : HT) (nx : Nat) : GOk Tryz.prog envE 177 [a0, a1] ro T nx (g177 ro a0 a1 T nx) := by
 refine GOk.of_body Tryz.func177 rfl Tryz.ntmps177 (by kernel_rfl) rfl fun r T' n' h1 w0 base ρ0 its hS hP => ?_
 have X : CtxW envE ρ0 ro r T' n' := trivial
 unfold g177 at h1
 refine sr ?_
 refine as_ ?_
 refine dn ?_
 refine sr ?_
 refine mv ?_
 refine LV.call hS h1 (g129_ok _ _ _ _ ) hP rfl rfl rfl rfl fun x7_1 T1 n1 h2 ρ its hS => ?_
 refine as_ ?_
 refine dn ?_
 refine CV.seq ?_
 refine sr ?_
 refine mv ?_
 refine mv ?_
 refine LV.call hS h2 (g131_ok _ _ _ _ _ ) hP rfl rfl rfl rfl fun x10_2 T2 n2 h3 ρ its hS => ?_
 refine vy (V.not h3 rfl) fun x11_3 h4 => ?_
 refine dn ?_
 refine CV.cond h4 rfl (fun e h5 => ?_) (fun e h5 => ?_)
 ·
  clear h1 h2 h3 h4
  subst e
  cases h5
 ·
  clear h1 h2 h3 h4
  subst e
  refine CV.skip ?_
  refine PV.thenN ?_
  refine sr ?_
  refine mv ?_
  refine as_ ?_
  refine dn ?_
  refine CV.ret ?_
  cases h5
  exact PV.ret (by simp) Tryz.results177 hS (RS.tmp rfl RS.nil) rfl
noncomputable def g236 (ro : List HT) (T : HT) (nx : Nat) : R :=
 bsK 2360003 T nx 14 9 1 [(0, (.lit (.string ⟨⟨[111, 114]⟩⟩))), (1, (.lit (.string ⟨⟨[97, 110, 100]⟩⟩))), (2, (.lit (.string ⟨⟨[61, 61]⟩⟩))), (3, (.lit (.string ⟨⟨[33, 61]⟩⟩))), (4, (.lit (.string ⟨⟨[60]⟩⟩))), (5, (.lit (.string ⟨⟨[60, 61]⟩⟩))), (6, (.lit (.string ⟨⟨[62]⟩⟩))), (7, (.lit (.string ⟨⟨[62, 61]⟩⟩))), (8, (.lit (.string ⟨⟨[105, 110]⟩⟩))), (9, (.lit (.string ⟨⟨[43]⟩⟩))), (10, (.lit (.string ⟨⟨[45]⟩⟩))), (11, (.lit (.string ⟨⟨[42]⟩⟩))), (12, (.lit (.string ⟨⟨[47, 47]⟩⟩))), (13, (.lit (.string ⟨⟨[37]⟩⟩)))] fun x2_1 T1 n1 =>
 bsK 2360004 T1 n1 14 3 1 [(0, (.lit (.int .i64 (.ofNat 19)))), (1, (.lit (.int .i64 (.ofNat 18)))), (2, (.lit (.int .i64 (.ofNat 26)))), (3, (.lit (.int .i64 (.ofNat 27)))), (4, (.lit (.int .i64 (.ofNat 28)))), (5, (.lit (.int .i64 (.ofNat 29)))), (6, (.lit (.int .i64 (.ofNat 30)))), (7, (.lit (.int .i64 (.ofNat 31)))), (8, (.lit (.int .i64 (.ofNat 32)))), (9, (.lit (.int .i64 (.ofNat 21)))), (10, (.lit (.int .i64 (.ofNat 22)))), (11, (.lit (.int .i64 (.ofNat 23)))), (12, (.lit (.int .i64 (.ofNat 24)))), (13, (.lit (.int .i64 (.ofNat 25))))] fun x3_2 T2 n2 =>
 .ok (.val (.tup [x2_1, x3_2])) T2 n2
theorem g236_ok (ro : List HT) (T : HT) (nx : Nat) : GOk Tryz.prog envE 236 [] ro T nx (g236 ro T nx) := by
 refine GOk.of_body Tryz.func236 rfl Tryz.ntmps236 (by kernel_rfl) rfl fun r T' n' h1 w0 base ρ0 its hS hP => ?_
 have X : CtxW envE ρ0 ro r T' n' := trivial
 unfold g236 at h1
 refine sr ?_
 refine as_ ?_
 refine as_ ?_
 refine dn ?_
 refine sr ?_
 refine LV.bslice hS h1 rfl rfl Spf.el46 rfl rfl rfl rfl fun x2_1 T1 n1 h2 ρ its hS hdr => ?_
 refine LV.bslice hS h2 rfl rfl Spf.el30 rfl rfl rfl rfl fun x3_2 T2 n2 h3 ρ its hS hdr => ?_
 refine as_ ?_
 refine as_ ?_
 refine dn ?_
 refine CV.ret ?_
 cases h3
 exact PV.ret (by simp) Tryz.results236 hS (RS.tmp rfl (RS.tmp rfl RS.nil)) rfl
noncomputable def g231 (ro : List HT) (a0 : AV) (T : HT) (nx : Nat) : R :=
 callK (g236 ro T nx) fun x6_1 T1 n1 =>
 exK 2310004 x6_1 0 fun x7_2 =>
 exK 2310005 x6_1 1 fun x8_3 =>
 callK (g147 ro x7_2 a0 T1 n1) fun x12_4 T2 n2 =>
 iaK 2310012 x8_3 x12_4 1 fun x13_5 =>
 ldK 2310013 T2 ro x13_5 fun x14_6 =>
 .ok (.val x14_6) T2 n2
theorem g231_ok (ro : List HT) (a0 : AV) (T : HT) (nx : Nat) : GOk Tryz.prog envE 231 [a0] ro T nx (g231 ro a0 T nx) := by
 refine GOk.of_body Tryz.func231 rfl Tryz.ntmps231 (by kernel_rfl) rfl fun r T' n' h1 w0 base ρ0 its hS hP => ?_
 have X : CtxW envE ρ0 ro r T' n' := trivial
 unfold g231 at h1
 refine sr ?_
 refine as_ ?_
 refine dn ?_
 refine sr ?_
 refine LV.call hS h1 (g236_ok _ _ _ ) hP rfl rfl rfl rfl fun x6_1 T1 n1 h2 ρ its hS => ?_
 refine mv ?_
 refine vy (V.ex h2 rfl) fun x7_2 h3 => ?_
 refine vy (V.ex h3 rfl) fun x8_3 h4 => ?_
 refine as_ ?_
 refine as_ ?_
 refine dn ?_
 refine sr ?_
 refine mv ?_
 refine mv ?_
 refine mv ?_
 refine LV.call hS h4 (g147_ok _ _ _ _ _ ) hP rfl rfl rfl rfl fun x12_4 T2 n2 h5 ρ its hS => ?_
 refine vy (V.ia h5 rfl rfl Spf.el30) fun x13_5 h6 => ?_
 refine vy (V.ld hS h6 rfl Spf.one3) fun x14_6 h7 => ?_
 refine as_ ?_
 refine dn ?_
 refine CV.ret ?_
 cases h7
 exact PV.ret (by simp) Tryz.results231 hS (RS.tmp rfl RS.nil) rfl
noncomputable def g132_k2 (ro : List HT) (y15 : AV) (T3 : HT) (n3 : Nat) : R :=
 .ok (.val y15) T3 n3
noncomputable def g132_k1 (ro : List HT) (y0 y10 : AV) (T2 : HT) (n2 : Nat) : R :=
 condK 1320008 y10
 (
  g132_k2 ro (.lit (.bool true)) T2 n2
 )
 (
  bsK 1320011 T2 n2 6 9 1 [(0, (.lit (.string ⟨⟨[41]⟩⟩))), (1, (.lit (.string ⟨⟨[93]⟩⟩))), (2, (.lit (.string ⟨⟨[125]⟩⟩))), (3, (.lit (.string ⟨⟨[61]⟩⟩))), (4, (.lit (.string ⟨⟨[43, 61]⟩⟩))), (5, (.lit (.string ⟨⟨[58]⟩⟩)))] fun x13_3 T4 n4 =>
  callK (g99 ro y0 x13_3 T4 n4) fun x14_4 T5 n5 =>
  g132_k2 ro x14_4 T5 n5
 )
noncomputable def g132 (ro : List HT) (a0 : AV) (T : HT) (nx : Nat) : R :=
 callK (g50 ro a0 T nx) fun x4_1 T1 n1 =>
 eqK Tryz.prog 3 (.tmp 4) (.const (.int .i64 (.ofNat 5))) 1320004 x4_1 (.lit (.int .i64 (.ofNat 5))) fun x5_2 =>
 condK 1320014 x5_2
 (
  g132_k1 ro a0 (.lit (.bool true)) T1 n1
 )
 (
  callK (g50 ro a0 T1 n1) fun x8_5 T6 n6 =>
  eqK Tryz.prog 3 (.tmp 8) (.const (.int .i64 (.ofNat 8))) 1320018 x8_5 (.lit (.int .i64 (.ofNat 8))) fun x9_6 =>
  g132_k1 ro a0 x9_6 T6 n6
 )
theorem g132_ok (ro : List HT) (a0 : AV) (T : HT) (nx : Nat) : GOk Tryz.prog envE 132 [a0] ro T nx (g132 ro a0 T nx) := by
 refine GOk.of_body Tryz.func132 rfl Tryz.ntmps132 (by kernel_rfl) rfl fun r T' n' h1 w0 base ρ0 its hS hP => ?_
 have X : CtxW envE ρ0 ro r T' n' := trivial
 unfold g132 at h1
 refine sr ?_
 refine as_ ?_
 refine dn ?_
 refine sr ?_
 refine mv ?_
 refine LV.call hS h1 (g50_ok _ _ _ _ ) hP rfl rfl rfl rfl fun x4_1 T1 n1 h2 ρ its hS => ?_
 refine vy (V.eq h2 rfl rfl) fun x5_2 h3 => ?_
 refine mv ?_
 refine ls2 X 0 10 [(2, (.lit (.bool false)))] (g132_k1 ro) 4 ?_ ?_
 ·
  rcases condK_inv h3 with ⟨e, h9⟩ | ⟨e, h9⟩
  ·
   clear h1 h2 h3
   subst e
   refine sk ?_
   refine sk ?_
   refine sk ?_
   refine pu ?_
   exact la2 hS h9 ⟨rfl, rfl, rfl, trivial⟩
  ·
   clear h1 h2 h3
   subst e
   refine mv ?_
   refine LV.call hS h9 (g50_ok _ _ _ _ ) hP rfl rfl rfl rfl fun x8_5 T6 n6 h10 ρ its hS => ?_
   refine vy (V.eq h10 rfl rfl) fun x9_6 h11 => ?_
   refine pu ?_
   exact la2 hS h11 ⟨rfl, rfl, rfl, trivial⟩
 ·
  intro y0 y10 T2 n2 ρ its hS h4
  unfold g132_k1 at h4
  clear h1 h2 h3
  refine mv ?_
  refine ls1 X 15 [(2, (.lit (.bool false)))] (g132_k2 ro) 4 ?_ ?_
  ·
   rcases condK_inv h4 with ⟨e, h6⟩ | ⟨e, h6⟩
   ·
    clear h4
    subst e
    refine sk ?_
    refine sk ?_
    refine sk ?_
    refine pu ?_
    exact la1 hS h6 ⟨rfl, rfl, trivial⟩
   ·
    clear h4
    subst e
    refine mv ?_
    refine LV.bslice hS h6 rfl rfl Spf.el46 rfl rfl rfl rfl fun x13_3 T4 n4 h7 ρ its hS hdr => ?_
    refine LV.call hS h7 (g99_ok _ _ _ _ _ ) hP rfl rfl rfl rfl fun x14_4 T5 n5 h8 ρ its hS => ?_
    refine pu ?_
    exact la1 hS h8 ⟨rfl, rfl, trivial⟩
  ·
   intro y15 T3 n3 ρ its hS h5
   unfold g132_k2 at h5
   clear h4
   refine as_ ?_
   refine dn ?_
   refine CV.ret ?_
   cases h5
   exact PV.ret (by simp) Tryz.results132 hS (RS.tmp rfl RS.nil) rfl
noncomputable def g51 (ro : List HT) (a0 a1 : AV) (T : HT) (nx : Nat) : R :=
 callK (g50 ro a0 T nx) fun x8_1 T1 n1 =>
 neK Tryz.prog 3 (.tmp 8) (.tmp 9) 510006 x8_1 a1 fun x10_2 =>
 condK 510007 x10_2
 (
  .bad 510008
 )
 (
  ncK 510010 a0 fun x14_3 =>
  faK 510011 x14_3 0 fun x15_4 =>
  ldK 510012 T1 ro x15_4 fun x16_5 =>
  ncK 510014 a0 fun x18_6 =>
  faK 510015 x18_6 1 fun x19_7 =>
  ldK 510016 T1 ro x19_7 fun x20_8 =>
  iaK 510017 x16_5 x20_8 3 fun x21_9 =>
  ldAK 510018 T1 ro x21_9 3 fun x22_10 =>
  newK T1 n1 (.obj [.lit (.int .i64 0), .lit (.string ⟨#[]⟩), .lit (.int .i64 0)] 139) fun x6_11 T2 n2 =>
  stAK 510020 T2 x6_11 x22_10 3 fun T3 =>
  neK Tryz.prog 3 (.tmp 23) (.const (.int .i64 (.ofNat 8))) 510022 a1 (.lit (.int .i64 (.ofNat 8))) fun x24_12 =>
  condK 510023 x24_12
  (
   .bad 510024
  )
  (
   faK 510025 x6_11 1 fun x32_13 =>
   ldK 510026 T3 ro x32_13 fun x33_14 =>
   faK 510027 x6_11 2 fun x34_15 =>
   ldK 510028 T3 ro x34_15 fun x35_16 =>
   .ok (.val (.tup [x33_14, x35_16])) T3 n2
  )
 )
theorem g51_ok (ro : List HT) (a0 a1 : AV) (T : HT) (nx : Nat) : GOk Tryz.prog envE 51 [a0, a1] ro T nx (g51 ro a0 a1 T nx) := by
 refine GOk.of_body Tryz.func51 rfl Tryz.ntmps51 (by kernel_rfl) rfl fun r T' n' h1 w0 base ρ0 its hS hP => ?_
 have X : CtxW envE ρ0 ro r T' n' := trivial
 unfold g51 at h1
 refine sr ?_
 refine as_ ?_
 refine as_ ?_
 refine dn ?_
 refine CV.seq ?_
 refine sr ?_
 refine mv ?_
 refine LV.call hS h1 (g50_ok _ _ _ _ ) hP rfl rfl rfl rfl fun x8_1 T1 n1 h2 ρ its hS => ?_
 refine mv ?_
 refine vy (V.ne h2 rfl rfl) fun x10_2 h3 => ?_
 refine dn ?_
 refine CV.cond h3 rfl (fun e h4 => ?_) (fun e h4 => ?_)
 ·
  clear h1 h2 h3
  subst e
  cases h4
 ·
  clear h1 h2 h3
  subst e
  refine CV.skip ?_
  refine PV.thenN ?_
  refine CV.seq ?_
  refine CV.regionM [(0, .anywhere), (1, .anywhere), (2, .anywhere), (3, .held), (4, .anywhere), (5, .anywhere), (6, .anywhere), (7, .held), (8, .held), (9, .held), (10, .alone), (11, .alone)] rfl (fun c a a' w hd hq => PanicOk.root (P := Tryz.prog) (fn := Tryz.f51) (w0 := w0) (base := base) (E := envE) (ro := ro) (r := r) (T' := T') (n' := n') (ρ0 := ρ0) c a a' w hd hq) (by kernel_rfl) ?_
  refine MV.step0 (i := 0) rfl (VAL.move rfl) rfl rfl rfl ?_
  refine MV.lift0 (i := 1) rfl (V.nc h4 rfl) rfl rfl rfl fun x14_3 h5 => ?_
  refine MV.lift0 (i := 2) rfl (V.fa h5 rfl Spf.fo98_0) rfl rfl rfl fun x15_4 h6 => ?_
  refine MV.lift1 (i := 3) rfl (fun _ z => z) (V.ld hS h6 rfl Spf.one96) rfl rfl rfl [] (by kernel_rfl) fun x16_5 h7 => ?_
  refine MV.step0 (i := 4) rfl (VAL.move rfl) rfl rfl rfl ?_
  refine MV.lift0 (i := 5) rfl (V.nc h7 rfl) rfl rfl rfl fun x18_6 h8 => ?_
  refine MV.lift0 (i := 6) rfl (V.fa h8 rfl Spf.fo98_1) rfl rfl rfl fun x19_7 h9 => ?_
  refine MV.lift1 (i := 7) rfl (fun _ z => z) (V.ld hS h9 rfl Spf.one3) rfl rfl rfl [3] (by kernel_rfl) fun x20_8 h10 => ?_
  refine MV.lift1 (i := 8) rfl (fun _ z => z) (V.ia h10 rfl rfl Spf.el96) rfl rfl rfl [] (by kernel_rfl) fun x21_9 h11 => ?_
  refine MV.lift1 (i := 9) rfl (fun _ z => z) (V.ldA hS h11 rfl Spf.agg139) rfl rfl rfl [] (by kernel_rfl) fun x22_10 h12 => ?_
  refine MV.force (i := 10) rfl ?_
  refine LV.alloc hS h12 rfl Spf.zr139 rfl rfl rfl fun x6_11 T2 n2 h13 ρ its hS hdr => ?_
  refine LV.nextM [9] (by kernel_rfl) (fun _ => hdr) ?_
  refine MV.force (i := 11) rfl ?_
  refine LV.stA hS h13 rfl rfl rfl Spf.agg139 rfl rfl rfl fun T3 its h14 hS => ?_
  refine LV.nextM [] (by kernel_rfl) (fun z => absurd rfl z) ?_
  refine mdn ?_
  refine CV.seq ?_
  refine sr ?_
  refine mv ?_
  refine vy (V.ne h14 rfl rfl) fun x24_12 h15 => ?_
  refine dn ?_
  refine CV.cond h15 rfl (fun e h16 => ?_) (fun e h16 => ?_)
  ·
   clear h4 h5 h6 h7 h8 h9 h10 h11 h12 h13 h14 h15
   subst e
   cases h16
  ·
   clear h4 h5 h6 h7 h8 h9 h10 h11 h12 h13 h14 h15
   subst e
   refine CV.skip ?_
   refine PV.thenN ?_
   refine CV.seq ?_
   refine CV.regionM [(0, .anywhere), (1, .held), (2, .anywhere), (3, .held), (4, .held), (5, .held)] rfl (fun c a a' w hd hq => PanicOk.root (P := Tryz.prog) (fn := Tryz.f51) (w0 := w0) (base := base) (E := envE) (ro := ro) (r := r) (T' := T') (n' := n') (ρ0 := ρ0) c a a' w hd hq) (by kernel_rfl) ?_
   refine MV.lift0 (i := 0) rfl (V.fa h16 rfl Spf.fo139_1) rfl rfl rfl fun x32_13 h17 => ?_
   refine MV.lift1 (i := 1) rfl (fun _ z => z) (V.ld hS h17 rfl Spf.one9) rfl rfl rfl [] (by kernel_rfl) fun x33_14 h18 => ?_
   refine MV.lift0 (i := 2) rfl (V.fa h18 rfl Spf.fo139_2) rfl rfl rfl fun x34_15 h19 => ?_
   refine MV.lift1 (i := 3) rfl (fun _ z => z) (V.ld hS h19 rfl Spf.one3) rfl rfl rfl [1] (by kernel_rfl) fun x35_16 h20 => ?_
   refine MV.step1 (i := 4) rfl (fun _ z => z) (VAL.assign rfl) rfl rfl rfl [3] (by kernel_rfl) ?_
   refine MV.step1 (i := 5) rfl (fun _ z => z) (VAL.assign rfl) rfl rfl rfl [] (by kernel_rfl) ?_
   refine mdn ?_
   refine CV.ret ?_
   cases h20
   exact PV.ret (by simp) Tryz.results51 hS (RS.tmp rfl (RS.tmp rfl RS.nil)) rfl
noncomputable def g117_k1 (ro : List HT) (y8 : AV) (T1 : HT) (n1 : Nat) : R :=
 .ok (.val y8) T1 n1
noncomputable def g117 (ro : List HT) (a0 : AV) (T : HT) (nx : Nat) : R :=
 geK Tryz.prog 3 (.tmp 3) (.const (.int .i64 (.ofNat 35))) 1170003 a0 (.lit (.int .i64 (.ofNat 35))) fun x4_1 =>
 condK 1170006 x4_1
 (
  leK Tryz.prog 3 (.tmp 6) (.const (.int .i64 (.ofNat 45))) 1170008 a0 (.lit (.int .i64 (.ofNat 45))) fun x7_2 =>
  g117_k1 ro x7_2 T nx
 )
 (
  g117_k1 ro (.lit (.bool false)) T nx
 )
theorem g117_ok (ro : List HT) (a0 : AV) (T : HT) (nx : Nat) : GOk Tryz.prog envE 117 [a0] ro T nx (g117 ro a0 T nx) := by
 refine GOk.of_body Tryz.func117 rfl Tryz.ntmps117 (by kernel_rfl) rfl fun r T' n' h1 w0 base ρ0 its hS hP => ?_
 have X : CtxW envE ρ0 ro r T' n' := trivial
 unfold g117 at h1
 refine sr ?_
 refine as_ ?_
 refine dn ?_
 refine sr ?_
 refine mv ?_
 refine vy (V.ge h1 rfl rfl) fun x4_1 h2 => ?_
 refine mv ?_
 refine ls1 X 8 [(2, (.lit (.bool false)))] (g117_k1 ro) 3 ?_ ?_
 ·
  rcases condK_inv h2 with ⟨e, h4⟩ | ⟨e, h4⟩
  ·
   clear h1 h2
   subst e
   refine mv ?_
   refine vy (V.le h4 rfl rfl) fun x7_2 h5 => ?_
   refine pu ?_
   exact la1 hS h5 ⟨rfl, rfl, trivial⟩
  ·
   clear h1 h2
   subst e
   refine sk ?_
   refine sk ?_
   refine pu ?_
   exact la1 hS h4 ⟨rfl, rfl, trivial⟩
 ·
  intro y8 T1 n1 ρ its hS h3
  unfold g117_k1 at h3
  clear h1 h2
  refine as_ ?_
  refine dn ?_
  refine CV.ret ?_
  cases h3
  exact PV.ret (by simp) Tryz.results117 hS (RS.tmp rfl RS.nil) rfl
noncomputable def g116 (ro : List HT) (a0 : AV) (T : HT) (nx : Nat) : R :=
 boxK 1160001 T nx a0 32 fun x1_1 T1 n1 =>
 faK 1160003 x1_1 0 fun x3_2 =>
 ldK 1160004 T1 ro x3_2 fun x4_3 =>
 callK (g117 ro x4_3 T1 n1) fun x5_4 T2 n2 =>
 .ok (.val x5_4) T2 n2
theorem g116_ok (ro : List HT) (a0 : AV) (T : HT) (nx : Nat) : GOk Tryz.prog envE 116 [a0] ro T nx (g116 ro a0 T nx) := by
 refine GOk.of_body Tryz.func116 rfl Tryz.ntmps116 (by kernel_rfl) rfl fun r T' n' h1 w0 base ρ0 its hS hP => ?_
 have X : CtxW envE ρ0 ro r T' n' := trivial
 unfold g116 at h1
 refine sr ?_
 refine LV.box hS h1 rfl rfl rfl rfl rfl fun x1_1 T1 n1 h2 ρ its hS hdr => ?_
 refine as_ ?_
 refine dn ?_
 refine sr ?_
 refine vy (V.fa h2 rfl Spf.fo32_0) fun x3_2 h3 => ?_
 refine vy (V.ld hS h3 rfl Spf.one3) fun x4_3 h4 => ?_
 refine LV.call hS h4 (g117_ok _ _ _ _ ) hP rfl rfl rfl rfl fun x5_4 T2 n2 h5 ρ its hS => ?_
 refine as_ ?_
 refine dn ?_
 refine CV.ret ?_
 cases h5
 exact PV.ret (by simp) Tryz.results116 hS (RS.tmp rfl RS.nil) rfl
noncomputable def g111_k3 (ro : List HT) (y16 : AV) (T3 : HT) (n3 : Nat) : R :=
 .ok (.val y16) T3 n3
noncomputable def g111_k2 (ro : List HT) (y0 y12 : AV) (T2 : HT) (n2 : Nat) : R :=
 condK 1110008 y12
 (
  neK Tryz.prog 3 (.tmp 14) (.const (.int .i64 (.ofNat 15))) 1110010 y0 (.lit (.int .i64 (.ofNat 15))) fun x15_2 =>
  g111_k3 ro x15_2 T2 n2
 )
 (
  g111_k3 ro (.lit (.bool false)) T2 n2
 )
noncomputable def g111_k1 (ro : List HT) (y0 y8 : AV) (T1 : HT) (n1 : Nat) : R :=
 condK 1110013 y8
 (
  neK Tryz.prog 3 (.tmp 10) (.const (.int .i64 (.ofNat 11))) 1110015 y0 (.lit (.int .i64 (.ofNat 11))) fun x11_3 =>
  g111_k2 ro y0 x11_3 T1 n1
 )
 (
  g111_k2 ro y0 (.lit (.bool false)) T1 n1
 )
noncomputable def g111 (ro : List HT) (a0 : AV) (T : HT) (nx : Nat) : R :=
 geK Tryz.prog 3 (.tmp 3) (.const (.int .i64 (.ofNat 1))) 1110003 a0 (.lit (.int .i64 (.ofNat 1))) fun x4_1 =>
 condK 1110018 x4_1
 (
  leK Tryz.prog 3 (.tmp 6) (.const (.int .i64 (.ofNat 34))) 1110020 a0 (.lit (.int .i64 (.ofNat 34))) fun x7_4 =>
  g111_k1 ro a0 x7_4 T nx
 )
 (
  g111_k1 ro a0 (.lit (.bool false)) T nx
 )
theorem g111_ok (ro : List HT) (a0 : AV) (T : HT) (nx : Nat) : GOk Tryz.prog envE 111 [a0] ro T nx (g111 ro a0 T nx) := by
 refine GOk.of_body Tryz.func111 rfl Tryz.ntmps111 (by kernel_rfl) rfl fun r T' n' h1 w0 base ρ0 its hS hP => ?_
 have X : CtxW envE ρ0 ro r T' n' := trivial
 unfold g111 at h1
 refine sr ?_
 refine as_ ?_
 refine dn ?_
 refine sr ?_
 refine mv ?_
 refine vy (V.ge h1 rfl rfl) fun x4_1 h2 => ?_
 refine mv ?_
 refine ls2 X 0 8 [(2, (.lit (.bool false)))] (g111_k1 ro) 3 ?_ ?_
 ·
  rcases condK_inv h2 with ⟨e, h10⟩ | ⟨e, h10⟩
  ·
   clear h1 h2
   subst e
   refine mv ?_
   refine vy (V.le h10 rfl rfl) fun x7_4 h11 => ?_
   refine pu ?_
   exact la2 hS h11 ⟨rfl, rfl, rfl, trivial⟩
  ·
   clear h1 h2
   subst e
   refine sk ?_
   refine sk ?_
   refine pu ?_
   exact la2 hS h10 ⟨rfl, rfl, rfl, trivial⟩
 ·
  intro y0 y8 T1 n1 ρ its hS h3
  unfold g111_k1 at h3
  clear h1 h2
  refine mv ?_
  refine ls2 X 0 12 [(2, (.lit (.bool false)))] (g111_k2 ro) 3 ?_ ?_
  ·
   rcases condK_inv h3 with ⟨e, h8⟩ | ⟨e, h8⟩
   ·
    clear h3
    subst e
    refine mv ?_
    refine vy (V.ne h8 rfl rfl) fun x11_3 h9 => ?_
    refine pu ?_
    exact la2 hS h9 ⟨rfl, rfl, rfl, trivial⟩
   ·
    clear h3
    subst e
    refine sk ?_
    refine sk ?_
    refine pu ?_
    exact la2 hS h8 ⟨rfl, rfl, rfl, trivial⟩
  ·
   intro y0 y12 T2 n2 ρ its hS h4
   unfold g111_k2 at h4
   clear h3
   refine mv ?_
   refine ls1 X 16 [(2, (.lit (.bool false)))] (g111_k3 ro) 3 ?_ ?_
   ·
    rcases condK_inv h4 with ⟨e, h6⟩ | ⟨e, h6⟩
    ·
     clear h4
     subst e
     refine mv ?_
     refine vy (V.ne h6 rfl rfl) fun x15_2 h7 => ?_
     refine pu ?_
     exact la1 hS h7 ⟨rfl, rfl, trivial⟩
    ·
     clear h4
     subst e
     refine sk ?_
     refine sk ?_
     refine pu ?_
     exact la1 hS h6 ⟨rfl, rfl, trivial⟩
   ·
    intro y16 T3 n3 ρ its hS h5
    unfold g111_k3 at h5
    clear h4
    refine as_ ?_
    refine dn ?_
    refine CV.ret ?_
    cases h5
    exact PV.ret (by simp) Tryz.results111 hS (RS.tmp rfl RS.nil) rfl
noncomputable def g183 (ro : List HT) (a0 : AV) (T : HT) (nx : Nat) : R :=
 boxK 1830001 T nx a0 32 fun x1_1 T1 n1 =>
 faK 1830003 x1_1 0 fun x3_2 =>
 ldK 1830004 T1 ro x3_2 fun x4_3 =>
 callK (g111 ro x4_3 T1 n1) fun x5_4 T2 n2 =>
 .ok (.val x5_4) T2 n2
theorem g183_ok (ro : List HT) (a0 : AV) (T : HT) (nx : Nat) : GOk Tryz.prog envE 183 [a0] ro T nx (g183 ro a0 T nx) := by
 refine GOk.of_body Tryz.func183 rfl Tryz.ntmps183 (by kernel_rfl) rfl fun r T' n' h1 w0 base ρ0 its hS hP => ?_
 have X : CtxW envE ρ0 ro r T' n' := trivial
 unfold g183 at h1
 refine sr ?_
 refine LV.box hS h1 rfl rfl rfl rfl rfl fun x1_1 T1 n1 h2 ρ its hS hdr => ?_
 refine as_ ?_
 refine dn ?_
 refine sr ?_
 refine vy (V.fa h2 rfl Spf.fo32_0) fun x3_2 h3 => ?_
 refine vy (V.ld hS h3 rfl Spf.one3) fun x4_3 h4 => ?_
 refine LV.call hS h4 (g111_ok _ _ _ _ ) hP rfl rfl rfl rfl fun x5_4 T2 n2 h5 ρ its hS => ?_
 refine as_ ?_
 refine dn ?_
 refine CV.ret ?_
 cases h5
 exact PV.ret (by simp) Tryz.results183 hS (RS.tmp rfl RS.nil) rfl
noncomputable def g133 (ro : List HT) (a0 a1 : AV) (T : HT) (nx : Nat) : R :=
 optK 1330003 (bld74 [(0, a0), (1, a1)]) fun x6_1 =>
 boxK 1330004 T nx x6_1 74 fun x7_2 T1 n1 =>
 optK 1330005 (bld123 [(0, x7_2)]) fun x8_3 =>
 panK 1330007 (.iface 123 x8_3) T1 n1
theorem g133_ok (ro : List HT) (a0 a1 : AV) (T : HT) (nx : Nat) : GOk Tryz.prog envE 133 [a0, a1] ro T nx (g133 ro a0 a1 T nx) := by
 refine GOk.of_body Tryz.func133 rfl Tryz.ntmps133 (by kernel_rfl) rfl fun r T' n' h1 w0 base ρ0 its hS hP => ?_
 have X : CtxW envE ρ0 ro r T' n' := trivial
 unfold g133 at h1
 refine CV.region ?_
 refine mv ?_
 refine mv ?_
 refine vy (V.bld h1 rfl) fun x6_1 h2 => ?_
 refine LV.box hS h2 rfl rfl rfl rfl rfl fun x7_2 T1 n1 h3 ρ its hS hdr => ?_
 refine vy (V.bld h3 rfl) fun x8_3 h4 => ?_
 refine sv (VAL.mkI rfl Spf.ni123) ?_
 exact LV.panic hS h4 hP rfl rfl rfl
noncomputable def g78 (ro : List HT) (a0 : AV) (T : HT) (nx : Nat) : R :=
 callK (g129 ro a0 T nx) fun x3_1 T1 n1 =>
 keepK 780004 T T1 [] <|
 callK (g133 ro x3_1 (.iface 253 (.opq 1)) T1 n1) fun x5_2 T2 n2 =>
 .ok (.val (.tup [])) T2 n2
theorem g78_ok (ro : List HT) (a0 : AV) (T : HT) (nx : Nat) : GOk Tryz.prog envE 78 [a0] ro T nx (g78 ro a0 T nx) := by
 refine GOk.of_body Tryz.func78 rfl Tryz.ntmps78 (by kernel_rfl) rfl fun r T' n' h1 w0 base ρ0 its hS hP => ?_
 have X : CtxW envE ρ0 ro r T' n' := trivial
 unfold g78 at h1
 refine CV.regionMS hS [] [(0, .anywhere), (2, .held), (1, .alone), (3, .alone)] rfl (fun c a a' w hd hq => PanicOk.root (P := Tryz.prog) (fn := Tryz.f78) (w0 := w0) (base := base) (E := envE) (ro := ro) (r := r) (T' := T') (n' := n') (ρ0 := ρ0) c a a' w hd hq) (by kernel_rfl) ?_
 have hK := KeepS.start [] hS
 have hR := hS
 have hP0 := hP
 replace hP := PK.up hR hP
 replace hS := hR.root
 refine MV.step0 (i := 0) rfl (VAL.move rfl) rfl rfl rfl ?_
 refine MV.step1 (i := 2) rfl hK (VAL.ldGQ hS (by rfl) Spf.one25) rfl rfl rfl [] (by kernel_rfl) ?_
 refine MV.force (i := 1) rfl ?_
 refine LV.call hS h1 (g129_ok _ _ _ _ ) hP rfl rfl rfl rfl fun x3_1 T1 n1 h2 ρ its hS => ?_
 obtain ⟨hK, h3⟩ := KeepS.step hR hS h2
 refine LV.nextM [2] (by kernel_rfl) (fun _ => hK) ?_
 refine MV.force (i := 3) rfl ?_
 refine LV.call hS h3 (g133_ok _ _ _ _ _ ) hP rfl rfl rfl rfl fun x5_2 T2 n2 h4 ρ its hS => ?_
 refine LV.nextM [] (by kernel_rfl) (fun z => absurd rfl z) ?_
 replace hS := hR.up hS
 replace hP := hP0
 refine MV.done ?_
 cases h4
 exact PV.ret (by simp) Tryz.results78 hS RS.nil rfl
noncomputable def g48_k1 (ih : FuncId → List HT → List AV → HT → Nat → R) (ro : List HT) (y0 : AV) (T2 : HT) (n2 : Nat) : R :=
 callK (g51 ro y0 (.lit (.int .i64 (.ofNat 8))) T2 n2) fun x15_2 T3 n3 =>
 .ok (.val (.tup [])) T3 n3
noncomputable def g48 (ih : FuncId → List HT → List AV → HT → Nat → R) (ro : List HT) (a0 : AV) (T : HT) (nx : Nat) : R :=
 callK (ih 49 ro [a0] T nx) fun x3_1 T1 n1 =>
 callK (g50 ro a0 T1 n1) fun x5_3 T4 n4 =>
 eqK Tryz.prog 3 (.tmp 5) (.const (.int .i64 (.ofNat 5))) 480007 x5_3 (.lit (.int .i64 (.ofNat 5))) fun x6_4 =>
 condK 480008 x6_4
 (
  fldK 480010 T4 ro a0 1 fun x10_5 =>
  addK Tryz.prog 3 (.tmp 10) (.const (.int .i64 (.ofNat 1))) 480011 x10_5 (.lit (.int .i64 (.ofNat 1))) fun x11_6 =>
  faK 480012 a0 1 fun x13_7 =>
  stK 480013 T4 x13_7 x11_6 fun T5 =>
  g48_k1 ih ro a0 T5 n4
 )
 (
  g48_k1 ih ro a0 T4 n4
 )
theorem g48_ok (ih : FuncId → List HT → List AV → HT → Nat → R) (hI : ∀ f ro args T nx, GOk Tryz.prog envE f args ro T nx (ih f ro args T nx)) (ro : List HT) (a0 : AV) (T : HT) (nx : Nat) : GOk Tryz.prog envE 48 [a0] ro T nx (g48 ih ro a0 T nx) := by
 refine GOk.of_body Tryz.func48 rfl Tryz.ntmps48 (by kernel_rfl) rfl fun r T' n' h1 w0 base ρ0 its hS hP => ?_
 have X : CtxW envE ρ0 ro r T' n' := trivial
 unfold g48 at h1
 refine sr ?_
 refine mv ?_
 refine LV.call hS h1 (hI _ _ _ _ _) hP rfl rfl rfl rfl fun x3_1 T1 n1 h2 ρ its hS => ?_
 refine dn ?_
 refine cs1 X 0 [] (g48_k1 ih ro) ?_ ?_
 ·
  refine sr ?_
  refine mv ?_
  refine LV.call hS h2 (g50_ok _ _ _ _ ) hP rfl rfl rfl rfl fun x5_3 T4 n4 h5 ρ its hS => ?_
  refine vy (V.eq h5 rfl rfl) fun x6_4 h6 => ?_
  refine dn ?_
  refine CV.cond h6 rfl (fun e h7 => ?_) (fun e h7 => ?_)
  ·
   clear h1 h2 h5 h6
   subst e
   refine CV.region ?_
   refine mv ?_
   refine fl hS h7 Spf.fo98_1 Spf.one3 fun x10_5 h8 => ?_
   refine vy (V.add h8 rfl rfl) fun x11_6 h9 => ?_
   refine fa2 h9 Spf.fo98_1 fun x13_7 h10 => ?_
   refine LV.st hS h10 rfl rfl rfl Spf.siz3 rfl rfl fun T5 its h11 hS => ?_
   refine LV.done ?_
   exact pa1 hS h11 ⟨rfl, trivial⟩
  ·
   clear h1 h2 h5 h6
   subst e
   refine CV.skip ?_
   exact pa1 hS h7 ⟨rfl, trivial⟩
 ·
  intro y0 T2 n2 ρ its hS h3
  unfold g48_k1 at h3
  clear h1 h2
  refine CV.region ?_
  refine mv ?_
  refine LV.call hS h3 (g51_ok _ _ _ _ _ ) hP rfl rfl rfl rfl fun x15_2 T3 n3 h4 ρ its hS => ?_
  refine LV.done ?_
  cases h4
  exact PV.ret (by simp) Tryz.results48 hS RS.nil rfl
noncomputable def g49 (ih : FuncId → List HT → List AV → HT → Nat → R) (ro : List HT) (a0 : AV) (T : HT) (nx : Nat) : R :=
 callK (ih 77 ro [a0] T nx) fun x7_1 T1 n1 =>
 exK 490005 x7_1 0 fun x8_2 =>
 exK 490006 x7_1 1 fun x9_3 =>
 .ok (.val x8_2) T1 n1
theorem g49_ok (ih : FuncId → List HT → List AV → HT → Nat → R) (hI : ∀ f ro args T nx, GOk Tryz.prog envE f args ro T nx (ih f ro args T nx)) (ro : List HT) (a0 : AV) (T : HT) (nx : Nat) : GOk Tryz.prog envE 49 [a0] ro T nx (g49 ih ro a0 T nx) := by
 refine GOk.of_body Tryz.func49 rfl Tryz.ntmps49 (by kernel_rfl) rfl fun r T' n' h1 w0 base ρ0 its hS hP => ?_
 have X : CtxW envE ρ0 ro r T' n' := trivial
 unfold g49 at h1
 refine sr ?_
 refine as_ ?_
 refine dn ?_
 refine sr ?_
 refine mv ?_
 refine LV.call hS h1 (hI _ _ _ _ _) hP rfl rfl rfl rfl fun x7_1 T1 n1 h2 ρ its hS => ?_
 refine mv ?_
 refine vy (V.ex h2 rfl) fun x8_2 h3 => ?_
 refine vy (V.ex h3 rfl) fun x9_3 h4 => ?_
 refine as_ ?_
 refine as_ ?_
 refine dn ?_
 refine sr ?_
 refine mv ?_
 refine as_ ?_
 refine dn ?_
 refine CV.ret ?_
 cases h4
 exact PV.ret (by simp) Tryz.results49 hS (RS.tmp rfl RS.nil) rfl
noncomputable def g77_k1 (ih : FuncId → List HT → List AV → HT → Nat → R) (ro : List HT) (y0 y2 y3 y4 y5 y6 : AV) (T4 : HT) (n4 : Nat) : R :=
 notK 770012 y6 fun x22_4 =>
 condK 770013 x22_4
 (
  iaK 770015 y5 (.lit (.int .i64 (.ofNat 0))) 1 fun x24_5 =>
  ldK 770016 T4 ro x24_5 fun x25_6 =>
  .ok (.val (.tup [x25_6, (.lit (.bool false))])) T4 n4
 )
 (
  callK (g65 ro y0 (.lit (.int .i64 (.ofNat 8))) y4 (.lit (.string ⟨⟨[]⟩⟩)) y5 T4 n4) fun x29_7 T5 n5 =>
  .ok (.val (.tup [x29_7, (.lit (.bool true))])) T5 n5
 )
noncomputable def g77_b2 (ih : FuncId → List HT → List AV → HT → Nat → R) (ro : List HT) (lp2 : AV → AV → AV → AV → AV → AV → HT → Nat → R) (y0 y2 y3 y4 y5 y6 : AV) (T6 : HT) (n6 : Nat) : R :=
 callK (g131 ro y0 (.lit (.string ⟨⟨[44]⟩⟩)) T6 n6) fun x13_8 T7 n7 =>
 condK 770028 x13_8
 (
  callK (g132 ro y0 T7 n7) fun x15_9 T8 n8 =>
  condK 770032 x15_9
  (
   g77_k1 ih ro y0 y2 y3 y4 y5 (.lit (.bool true)) T8 n8
  )
  (
   callK (ih 130 ro [y0] T8 n8) fun x18_10 T9 n9 =>
   bsK 770036 T9 n9 1 3 1 [(0, x18_10)] fun x19_11 T10 n10 =>
   shrK 770038 T10 y5 fun T11 =>
   appK 770037 T11 ro n10 3 1 8 y5 x19_11 fun x20_12 T12 n12 =>
   lp2 y0 y2 y3 y4 x20_12 (.lit (.bool true)) T12 n12
  )
 )
 (
  g77_k1 ih ro y0 y2 y3 y4 y5 y6 T7 n7
 )
noncomputable def g77 (ih : FuncId → List HT → List AV → HT → Nat → R) (ro : List HT) (a0 : AV) (T : HT) (nx : Nat) : R :=
 callK (g129 ro a0 T nx) fun x8_1 T1 n1 =>
 callK (ih 130 ro [a0] T1 n1) fun x10_2 T2 n2 =>
 bsK 770008 T2 n2 1 3 1 [(0, x10_2)] fun x11_3 T3 n3 =>
 lpf6 770025 (g77_b2 ih ro) 100000 a0 (.lit (.int .i64 (.ofNat 0))) (.lit (.bool false)) x8_1 x11_3 (.lit (.bool false)) T3 n3
theorem g77_ok (ih : FuncId → List HT → List AV → HT → Nat → R) (hI : ∀ f ro args T nx, GOk Tryz.prog envE f args ro T nx (ih f ro args T nx)) (ro : List HT) (a0 : AV) (T : HT) (nx : Nat) : GOk Tryz.prog envE 77 [a0] ro T nx (g77 ih ro a0 T nx) := by
 refine GOk.of_body Tryz.func77 rfl Tryz.ntmps77 (by kernel_rfl) rfl fun r T' n' h1 w0 base ρ0 its hS hP => ?_
 have X : CtxW envE ρ0 ro r T' n' := trivial
 unfold g77 at h1
 refine sr ?_
 refine as_ ?_
 refine as_ ?_
 refine dn ?_
 refine sr ?_
 refine mv ?_
 refine LV.call hS h1 (g129_ok _ _ _ _ ) hP rfl rfl rfl rfl fun x8_1 T1 n1 h2 ρ its hS => ?_
 refine as_ ?_
 refine dn ?_
 refine sr ?_
 refine mv ?_
 refine LV.call hS h2 (hI _ _ _ _ _) hP rfl rfl rfl rfl fun x10_2 T2 n2 h3 ρ its hS => ?_
 refine LV.bslice hS h3 rfl rfl Spf.el30 rfl rfl rfl rfl fun x11_3 T3 n3 h4 ρ its hS hdr => ?_
 refine as_ ?_
 refine dn ?_
 refine sr ?_
 refine as_ ?_
 refine dn ?_
 refine cs6 X 0 2 3 4 5 6 [] (g77_k1 ih ro) ?_ ?_
 ·
  refine CV.block ?_
  refine cl6 X 0 2 3 4 5 6 [] hS h4 ⟨rfl, rfl, rfl, rfl, rfl, rfl, trivial⟩ ?_
  intro f2 y0 y2 y3 y4 y5 y6 T6 n6 ρ its hS h11
  unfold g77_b2 at h11
  clear h1 h2 h3 h4
  refine CV.seq ?_
  refine sr ?_
  refine mv ?_
  refine LV.call hS h11 (g131_ok _ _ _ _ _ ) hP rfl rfl rfl rfl fun x13_8 T7 n7 h12 ρ its hS => ?_
  refine dn ?_
  refine CV.cond h12 rfl (fun e h13 => ?_) (fun e h13 => ?_)
  ·
   clear h11 h12
   subst e
   refine CV.skip ?_
   refine PV.thenN ?_
   refine CV.block ?_
   refine sr ?_
   refine as_ ?_
   refine dn ?_
   refine CV.seq ?_
   refine sr ?_
   refine mv ?_
   refine LV.call hS h13 (g132_ok _ _ _ _ ) hP rfl rfl rfl rfl fun x15_9 T8 n8 h14 ρ its hS => ?_
   refine dn ?_
   refine CV.cond h14 rfl (fun e h15 => ?_) (fun e h15 => ?_)
   ·
    clear h13 h14
    subst e
    refine CV.exit ?_
    refine PV.thenE ?_
    refine PV.blockO rfl ?_
    refine PV.thenE ?_
    refine PV.blockE ?_
    exact pa6 hS h15 ⟨rfl, rfl, rfl, rfl, rfl, rfl, trivial⟩
   ·
    clear h13 h14
    subst e
    refine CV.skip ?_
    refine PV.thenN ?_
    refine CV.region ?_
    refine mv ?_
    refine mv ?_
    refine LV.call hS h15 (hI _ _ _ _ _) hP rfl rfl rfl rfl fun x18_10 T9 n9 h16 ρ its hS => ?_
    refine LV.bslice hS h16 rfl rfl Spf.el30 rfl rfl rfl rfl fun x19_11 T10 n10 h17 ρ its hS hdr => ?_
    obtain ⟨T11, its1, h18, hS, hW⟩ := shrK_inv hS h17
    refine LV.world hW ?_
    refine LV.app hS h18 rfl rfl rfl rfl Spf.el30 rfl rfl rfl fun x20_12 T12 n12 h19 ρ its hS => ?_
    refine as_ ?_
    refine LV.done ?_
    refine PV.blockN ?_
    exact pb6 hS h19 ⟨rfl, rfl, rfl, rfl, rfl, rfl, trivial⟩
  ·
   clear h11 h12
   subst e
   refine CV.exit ?_
   refine PV.thenE ?_
   refine PV.thenE ?_
   refine PV.blockE ?_
   exact pa6 hS h13 ⟨rfl, rfl, rfl, rfl, rfl, rfl, trivial⟩
 ·
  intro y0 y2 y3 y4 y5 y6 T4 n4 ρ its hS h5
  unfold g77_k1 at h5
  clear h1 h2 h3 h4
  refine CV.seq ?_
  refine sr ?_
  refine mv ?_
  refine vy (V.not h5 rfl) fun x22_4 h6 => ?_
  refine dn ?_
  refine CV.cond h6 rfl (fun e h7 => ?_) (fun e h7 => ?_)
  ·
   clear h5 h6
   subst e
   refine sr ?_
   refine mv ?_
   refine vy (V.ia h7 rfl rfl Spf.el30) fun x24_5 h8 => ?_
   refine vy (V.ld hS h8 rfl Spf.one3) fun x25_6 h9 => ?_
   refine as_ ?_
   refine as_ ?_
   refine dn ?_
   refine CV.ret ?_
   refine PV.thenR ?_
   cases h9
   exact PV.ret (by simp) Tryz.results77 hS (RS.tmp rfl (RS.tmp rfl RS.nil)) rfl
  ·
   clear h5 h6
   subst e
   refine CV.skip ?_
   refine PV.thenN ?_
   refine sr ?_
   refine mv ?_
   refine mv ?_
   refine mv ?_
   refine LV.call hS h7 (g65_ok _ _ _ _ _ _ _ _ ) hP rfl rfl rfl rfl fun x29_7 T5 n5 h10 ρ its hS => ?_
   refine as_ ?_
   refine as_ ?_
   refine dn ?_
   refine CV.ret ?_
   cases h10
   exact PV.ret (by simp) Tryz.results77 hS (RS.tmp rfl (RS.tmp rfl RS.nil)) rfl
noncomputable def g130 (ih : FuncId → List HT → List AV → HT → Nat → R) (ro : List HT) (a0 : AV) (T : HT) (nx : Nat) : R :=
 callK (ih 189 ro [a0] T nx) fun x8_1 T1 n1 =>
 bsK 1300006 T1 n1 1 9 1 [(0, (.lit (.string ⟨⟨[105, 102]⟩⟩)))] fun x10_2 T2 n2 =>
 callK (g99 ro a0 x10_2 T2 n2) fun x11_3 T3 n3 =>
 notK 1300008 x11_3 fun x12_4 =>
 condK 1300009 x12_4
 (
  .ok (.val x8_1) T3 n3
 )
 (
  callK (g177 ro a0 (.lit (.string ⟨⟨[105, 102]⟩⟩)) T3 n3) fun x15_5 T4 n4 =>
  callK (g176 ro a0 x15_5 T4 n4) fun x18_6 T5 n5 =>
  callK (ih 189 ro [a0] T5 n5) fun x20_7 T6 n6 =>
  callK (g177 ro a0 (.lit (.string ⟨⟨[101, 108, 115, 101]⟩⟩)) T6 n6) fun x22_8 T7 n7 =>
  callK (ih 130 ro [a0] T7 n7) fun x24_9 T8 n8 =>
  fldK 1300027 T8 ro a0 3 fun x28_10 =>
  subK Tryz.prog 3 (.tmp 28) (.const (.int .i64 (.ofNat 1))) 1300028 x28_10 (.lit (.int .i64 (.ofNat 1))) fun x29_11 =>
  faK 1300029 a0 3 fun x31_12 =>
  stK 1300030 T8 x31_12 x29_11 fun T9 =>
  bsK 1300036 T9 n8 3 3 1 [(0, x20_7), (1, x8_1), (2, x24_9)] fun x37_13 T10 n10 =>
  callK (g65 ro a0 (.lit (.int .i64 (.ofNat 20))) x15_5 (.lit (.string ⟨⟨[]⟩⟩)) x37_13 T10 n10) fun x38_14 T11 n11 =>
  .ok (.val x38_14) T11 n11
 )
theorem g130_ok (ih : FuncId → List HT → List AV → HT → Nat → R) (hI : ∀ f ro args T nx, GOk Tryz.prog envE f args ro T nx (ih f ro args T nx)) (ro : List HT) (a0 : AV) (T : HT) (nx : Nat) : GOk Tryz.prog envE 130 [a0] ro T nx (g130 ih ro a0 T nx) := by
 refine GOk.of_body Tryz.func130 rfl Tryz.ntmps130 (by kernel_rfl) rfl fun r T' n' h1 w0 base ρ0 its hS hP => ?_
 have X : CtxW envE ρ0 ro r T' n' := trivial
 unfold g130 at h1
 refine sr ?_
 refine as_ ?_
 refine dn ?_
 refine sr ?_
 refine mv ?_
 refine LV.call hS h1 (hI _ _ _ _ _) hP rfl rfl rfl rfl fun x8_1 T1 n1 h2 ρ its hS => ?_
 refine as_ ?_
 refine dn ?_
 refine CV.seq ?_
 refine sr ?_
 refine mv ?_
 refine LV.bslice hS h2 rfl rfl Spf.el46 rfl rfl rfl rfl fun x10_2 T2 n2 h3 ρ its hS hdr => ?_
 refine LV.call hS h3 (g99_ok _ _ _ _ _ ) hP rfl rfl rfl rfl fun x11_3 T3 n3 h4 ρ its hS => ?_
 refine vy (V.not h4 rfl) fun x12_4 h5 => ?_
 refine dn ?_
 refine CV.cond h5 rfl (fun e h6 => ?_) (fun e h6 => ?_)
 ·
  clear h1 h2 h3 h4 h5
  subst e
  refine sr ?_
  refine mv ?_
  refine as_ ?_
  refine dn ?_
  refine CV.ret ?_
  refine PV.thenR ?_
  cases h6
  exact PV.ret (by simp) Tryz.results130 hS (RS.tmp rfl RS.nil) rfl
 ·
  clear h1 h2 h3 h4 h5
  subst e
  refine CV.skip ?_
  refine PV.thenN ?_
  refine sr ?_
  refine mv ?_
  refine LV.call hS h6 (g177_ok _ _ _ _ _ ) hP rfl rfl rfl rfl fun x15_5 T4 n4 h7 ρ its hS => ?_
  refine as_ ?_
  refine dn ?_
  refine sr ?_
  refine mv ?_
  refine mv ?_
  refine LV.call hS h7 (g176_ok _ _ _ _ _ ) hP rfl rfl rfl rfl fun x18_6 T5 n5 h8 ρ its hS => ?_
  refine dn ?_
  refine sr ?_
  refine mv ?_
  refine LV.call hS h8 (hI _ _ _ _ _) hP rfl rfl rfl rfl fun x20_7 T6 n6 h9 ρ its hS => ?_
  refine as_ ?_
  refine dn ?_
  refine sr ?_
  refine mv ?_
  refine LV.call hS h9 (g177_ok _ _ _ _ _ ) hP rfl rfl rfl rfl fun x22_8 T7 n7 h10 ρ its hS => ?_
  refine dn ?_
  refine sr ?_
  refine mv ?_
  refine LV.call hS h10 (hI _ _ _ _ _) hP rfl rfl rfl rfl fun x24_9 T8 n8 h11 ρ its hS => ?_
  refine as_ ?_
  refine dn ?_
  refine sr ?_
  refine mv ?_
  refine fl hS h11 Spf.fo98_3 Spf.one3 fun x28_10 h12 => ?_
  refine vy (V.sub h12 rfl rfl) fun x29_11 h13 => ?_
  refine fa2 h13 Spf.fo98_3 fun x31_12 h14 => ?_
  refine LV.st hS h14 rfl rfl rfl Spf.siz3 rfl rfl fun T9 its h15 hS => ?_
  refine dn ?_
  refine sr ?_
  refine mv ?_
  refine mv ?_
  refine mv ?_
  refine mv ?_
  refine mv ?_
  refine LV.bslice hS h15 rfl rfl Spf.el30 rfl rfl rfl rfl fun x37_13 T10 n10 h16 ρ its hS hdr => ?_
  refine LV.call hS h16 (g65_ok _ _ _ _ _ _ _ _ ) hP rfl rfl rfl rfl fun x38_14 T11 n11 h17 ρ its hS => ?_
  refine as_ ?_
  refine dn ?_
  refine CV.ret ?_
  cases h17
  exact PV.ret (by simp) Tryz.results130 hS (RS.tmp rfl RS.nil) rfl
noncomputable def g189 (ih : FuncId → List HT → List AV → HT → Nat → R) (ro : List HT) (a0 : AV) (T : HT) (nx : Nat) : R :=
 bsK 1890005 T nx 1 9 1 [(0, (.lit (.string ⟨⟨[111, 114]⟩⟩)))] fun x6_1 T1 n1 =>
 callK (ih 217 ro [a0, (.fn (.func 218) [a0] []), x6_1] T1 n1) fun x7_2 T2 n2 =>
 .ok (.val x7_2) T2 n2
theorem g189_ok (ih : FuncId → List HT → List AV → HT → Nat → R) (hI : ∀ f ro args T nx, GOk Tryz.prog envE f args ro T nx (ih f ro args T nx)) (ro : List HT) (a0 : AV) (T : HT) (nx : Nat) : GOk Tryz.prog envE 189 [a0] ro T nx (g189 ih ro a0 T nx) := by
 refine GOk.of_body Tryz.func189 rfl Tryz.ntmps189 (by kernel_rfl) rfl fun r T' n' h1 w0 base ρ0 its hS hP => ?_
 have X : CtxW envE ρ0 ro r T' n' := trivial
 unfold g189 at h1
 refine sr ?_
 refine as_ ?_
 refine dn ?_
 refine sr ?_
 refine mv ?_
 refine mv ?_
 refine pu ?_
 refine LV.bslice hS h1 rfl rfl Spf.el46 rfl rfl rfl rfl fun x6_1 T1 n1 h2 ρ its hS hdr => ?_
 refine LV.call hS h2 (hI _ _ _ _ _) hP rfl rfl rfl rfl fun x7_2 T2 n2 h3 ρ its hS => ?_
 refine as_ ?_
 refine dn ?_
 refine CV.ret ?_
 cases h3
 exact PV.ret (by simp) Tryz.results189 hS (RS.tmp rfl RS.nil) rfl
noncomputable def g217_b1 (ih : FuncId → List HT → List AV → HT → Nat → R) (ro : List HT) (lp1 : AV → AV → AV → AV → AV → HT → Nat → R) (y0 y1 y2 y6 y7 : AV) (T2 : HT) (n2 : Nat) : R :=
 callK (g99 ro y0 y2 T2 n2) fun x13_2 T3 n3 =>
 condK 2170009 x13_2
 (
  ncK 2170011 y0 fun x15_3 =>
  faK 2170012 x15_3 0 fun x16_4 =>
  ldK 2170013 T3 ro x16_4 fun x17_5 =>
  ncK 2170015 y0 fun x19_6 =>
  faK 2170016 x19_6 1 fun x20_7 =>
  ldK 2170017 T3 ro x20_7 fun x21_8 =>
  iaK 2170018 x17_5 x21_8 3 fun x22_9 =>
  ldAK 2170019 T3 ro x22_9 3 fun x23_10 =>
  newK T3 n3 (.obj [.lit (.int .i64 0), .lit (.string ⟨#[]⟩), .lit (.int .i64 0)] 139) fun x8_11 T4 n4 =>
  stAK 2170021 T4 x8_11 x23_10 3 fun T5 =>
  fldK 2170023 T5 ro y0 1 fun x27_12 =>
  addK Tryz.prog 3 (.tmp 27) (.const (.int .i64 (.ofNat 1))) 2170024 x27_12 (.lit (.int .i64 (.ofNat 1))) fun x28_13 =>
  faK 2170025 y0 1 fun x30_14 =>
  stK 2170026 T5 x30_14 x28_13 fun T6 =>
  faK 2170028 x8_11 1 fun x32_15 =>
  ldQK 2170029 T6 ro [x8_11] x32_15 fun x33_16 =>
  faK 2170030 x8_11 2 fun x35_17 =>
  ldQK 2170031 T6 ro [x8_11] x35_17 fun x36_18 =>
  callK (g231 ro x33_16 T6 n4) fun x34_19 T7 n7 =>
  keepK 2170035 T6 T7 [x8_11] <|
  dynK 2170036 y1 fun f p q => callK (ih f ro (p ++ ([] ++ q)) T7 n7) fun x39_20 T8 n8 =>
  keepK 2170037 T6 T8 [x8_11] <|
  bsK 2170038 T8 n8 2 3 1 [(0, y7), (1, x39_20)] fun x40_21 T9 n9 =>
  keepK 2170039 T6 T9 [x8_11] <|
  callK (g65 ro y0 x34_19 x36_18 (.lit (.string ⟨⟨[]⟩⟩)) x40_21 T9 n9) fun x41_22 T10 n10 =>
  lp1 y0 y1 y2 y6 x41_22 T10 n10
 )
 (
  .ok (.val y7) T3 n3
 )
noncomputable def g217 (ih : FuncId → List HT → List AV → HT → Nat → R) (ro : List HT) (a0 a1 a2 : AV) (T : HT) (nx : Nat) : R :=
 dynK 2170003 a1 fun f p q => callK (ih f ro (p ++ ([] ++ q)) T nx) fun x10_1 T1 n1 =>
 lpf5 2170005 (g217_b1 ih ro) 100000 a0 a1 a2 (.lit (.int .i64 (.ofNat 0))) x10_1 T1 n1
theorem g217_ok (ih : FuncId → List HT → List AV → HT → Nat → R) (hI : ∀ f ro args T nx, GOk Tryz.prog envE f args ro T nx (ih f ro args T nx)) (ro : List HT) (a0 a1 a2 : AV) (T : HT) (nx : Nat) : GOk Tryz.prog envE 217 [a0, a1, a2] ro T nx (g217 ih ro a0 a1 a2 T nx) := by
 refine GOk.of_body Tryz.func217 rfl Tryz.ntmps217 (by kernel_rfl) rfl fun r T' n' h1 w0 base ρ0 its hS hP => ?_
 have X : CtxW envE ρ0 ro r T' n' := trivial
 unfold g217 at h1
 refine sr ?_
 refine as_ ?_
 refine dn ?_
 refine sr ?_
 refine mv ?_
 refine LV.callD (G := fun f gs => ih f ro gs T nx) (qs := []) hS h1 (fun f gs => hI _ _ _ _ _) hP rfl rfl rfl rfl rfl rfl rfl fun x10_1 T1 n1 h2 ρ its hS => ?_
 refine as_ ?_
 refine dn ?_
 refine CV.seq ?_
 refine CV.block ?_
 refine cl5 X 0 1 2 6 7 [] hS h2 ⟨rfl, rfl, rfl, rfl, rfl, trivial⟩ ?_
 intro f1 y0 y1 y2 y6 y7 T2 n2 ρ its hS h3
 unfold g217_b1 at h3
 clear h1 h2
 refine CV.seq ?_
 refine sr ?_
 refine mv ?_
 refine mv ?_
 refine LV.call hS h3 (g99_ok _ _ _ _ _ ) hP rfl rfl rfl rfl fun x13_2 T3 n3 h4 ρ its hS => ?_
 refine dn ?_
 refine CV.cond h4 rfl (fun e h5 => ?_) (fun e h5 => ?_)
 ·
  clear h3 h4
  subst e
  refine CV.skip ?_
  refine PV.thenN ?_
  refine CV.block ?_
  refine CV.seq ?_
  refine CV.regionM [(0, .anywhere), (1, .anywhere), (2, .anywhere), (3, .held), (4, .anywhere), (5, .anywhere), (6, .anywhere), (7, .held), (8, .held), (9, .held), (10, .alone), (11, .alone)] rfl (fun c a a' w hd hq => PanicOk.root (P := Tryz.prog) (fn := Tryz.f217) (w0 := w0) (base := base) (E := envE) (ro := ro) (r := r) (T' := T') (n' := n') (ρ0 := ρ0) c a a' w hd hq) (by kernel_rfl) ?_
  refine MV.step0 (i := 0) rfl (VAL.move rfl) rfl rfl rfl ?_
  refine MV.lift0 (i := 1) rfl (V.nc h5 rfl) rfl rfl rfl fun x15_3 h6 => ?_
  refine MV.lift0 (i := 2) rfl (V.fa h6 rfl Spf.fo98_0) rfl rfl rfl fun x16_4 h7 => ?_
  refine MV.lift1 (i := 3) rfl (fun _ z => z) (V.ld hS h7 rfl Spf.one96) rfl rfl rfl [] (by kernel_rfl) fun x17_5 h8 => ?_
  refine MV.step0 (i := 4) rfl (VAL.move rfl) rfl rfl rfl ?_
  refine MV.lift0 (i := 5) rfl (V.nc h8 rfl) rfl rfl rfl fun x19_6 h9 => ?_
  refine MV.lift0 (i := 6) rfl (V.fa h9 rfl Spf.fo98_1) rfl rfl rfl fun x20_7 h10 => ?_
  refine MV.lift1 (i := 7) rfl (fun _ z => z) (V.ld hS h10 rfl Spf.one3) rfl rfl rfl [3] (by kernel_rfl) fun x21_8 h11 => ?_
  refine MV.lift1 (i := 8) rfl (fun _ z => z) (V.ia h11 rfl rfl Spf.el96) rfl rfl rfl [] (by kernel_rfl) fun x22_9 h12 => ?_
  refine MV.lift1 (i := 9) rfl (fun _ z => z) (V.ldA hS h12 rfl Spf.agg139) rfl rfl rfl [] (by kernel_rfl) fun x23_10 h13 => ?_
  refine MV.force (i := 10) rfl ?_
  refine LV.alloc hS h13 rfl Spf.zr139 rfl rfl rfl fun x8_11 T4 n4 h14 ρ its hS hdr => ?_
  refine LV.nextM [9] (by kernel_rfl) (fun _ => hdr) ?_
  refine MV.force (i := 11) rfl ?_
  refine LV.stA hS h14 rfl rfl rfl Spf.agg139 rfl rfl rfl fun T5 its h15 hS => ?_
  refine LV.nextM [] (by kernel_rfl) (fun z => absurd rfl z) ?_
  refine mdn ?_
  refine sr ?_
  refine mv ?_
  refine fl hS h15 Spf.fo98_1 Spf.one3 fun x27_12 h16 => ?_
  refine vy (V.add h16 rfl rfl) fun x28_13 h17 => ?_
  refine fa2 h17 Spf.fo98_1 fun x30_14 h18 => ?_
  refine LV.st hS h18 rfl rfl rfl Spf.siz3 rfl rfl fun T6 its h19 hS => ?_
  refine dn ?_
  refine CV.regionMS hS [x8_11] [(0, .anywhere), (1, .anywhere), (2, .held), (4, .anywhere), (5, .held), (6, .anywhere), (7, .anywhere), (3, .alone), (8, .alone), (9, .alone), (10, .alone), (11, .alone)] rfl (fun c a a' w hd hq => PanicOk.root (P := Tryz.prog) (fn := Tryz.f217) (w0 := w0) (base := base) (E := envE) (ro := ro) (r := r) (T' := T') (n' := n') (ρ0 := ρ0) c a a' w hd hq) (by kernel_rfl) ?_
  have hK := KeepS.start [x8_11] hS
  have hR := hS
  have hP0 := hP
  replace hP := PK.up hR hP
  replace hS := hR.root
  refine MV.step0 (i := 0) rfl (VAL.move rfl) rfl rfl rfl ?_
  refine MV.lift0 (i := 1) rfl (V.fa h19 rfl Spf.fo139_1) rfl rfl rfl fun x32_15 h20 => ?_
  refine MV.lift1 (i := 2) rfl hK (V.ldQ hS h20 rfl Spf.one9) rfl rfl rfl [] (by kernel_rfl) fun x33_16 h21 => ?_
  refine MV.lift0 (i := 4) rfl (V.fa h21 rfl Spf.fo139_2) rfl rfl rfl fun x35_17 h22 => ?_
  refine MV.lift1 (i := 5) rfl hK (V.ldQ hS h22 rfl Spf.one3) rfl rfl rfl [2] (by kernel_rfl) fun x36_18 h23 => ?_
  refine MV.step0 (i := 6) rfl (VAL.move rfl) rfl rfl rfl ?_
  refine MV.step0 (i := 7) rfl (VAL.move rfl) rfl rfl rfl ?_
  refine MV.force (i := 3) rfl ?_
  refine LV.call hS h23 (g231_ok _ _ _ _ ) hP rfl rfl rfl rfl fun x34_19 T7 n7 h24 ρ its hS => ?_
  obtain ⟨hK, h25⟩ := KeepS.step hR hS h24
  refine LV.nextM [5] (by kernel_rfl) (fun _ => hK) ?_
  refine MV.force (i := 8) rfl ?_
  refine LV.callD (G := fun f gs => ih f ro gs T7 n7) (qs := []) hS h25 (fun f gs => hI _ _ _ _ _) hP rfl rfl rfl rfl rfl rfl rfl fun x39_20 T8 n8 h26 ρ its hS => ?_
  obtain ⟨hK, h27⟩ := KeepS.step hR hS h26
  refine LV.nextM [5] (by kernel_rfl) (fun _ => hK) ?_
  refine MV.force (i := 9) rfl ?_
  refine LV.bslice hS h27 rfl rfl Spf.el30 rfl rfl rfl rfl fun x40_21 T9 n9 h28 ρ its hS hdr => ?_
  obtain ⟨hK, h29⟩ := KeepS.step hR hS h28
  refine LV.nextM [5] (by kernel_rfl) (fun _ => hK) ?_
  refine MV.force (i := 10) rfl ?_
  refine LV.call hS h29 (g65_ok _ _ _ _ _ _ _ _ ) hP rfl rfl rfl rfl fun x41_22 T10 n10 h30 ρ its hS => ?_
  refine LV.nextM [] (by kernel_rfl) (fun z => absurd rfl z) ?_
  refine MV.force (i := 11) rfl ?_
  refine as_ ?_
  refine LV.nextM [] (by kernel_rfl) (fun z => absurd rfl z) ?_
  replace hS := hR.up hS
  replace hP := hP0
  refine MV.done ?_
  refine PV.blockN ?_
  exact pb5 hS h30 ⟨rfl, rfl, rfl, rfl, rfl, trivial⟩
 ·
  clear h3 h4
  subst e
  refine CV.exit ?_
  refine PV.thenE ?_
  refine PV.thenE ?_
  refine PV.blockE ?_
  refine PV.thenN ?_
  refine sr ?_
  refine mv ?_
  refine as_ ?_
  refine dn ?_
  refine CV.ret ?_
  cases h5
  exact PV.ret (by simp) Tryz.results217 hS (RS.tmp rfl RS.nil) rfl
noncomputable def g218 (ih : FuncId → List HT → List AV → HT → Nat → R) (ro : List HT) (a0 : AV) (T : HT) (nx : Nat) : R :=
 bsK 2180005 T nx 1 9 1 [(0, (.lit (.string ⟨⟨[97, 110, 100]⟩⟩)))] fun x6_1 T1 n1 =>
 callK (ih 217 ro [a0, (.fn (.func 232) [a0] []), x6_1] T1 n1) fun x7_2 T2 n2 =>
 .ok (.val x7_2) T2 n2
theorem g218_ok (ih : FuncId → List HT → List AV → HT → Nat → R) (hI : ∀ f ro args T nx, GOk Tryz.prog envE f args ro T nx (ih f ro args T nx)) (ro : List HT) (a0 : AV) (T : HT) (nx : Nat) : GOk Tryz.prog envE 218 [a0] ro T nx (g218 ih ro a0 T nx) := by
 refine GOk.of_body Tryz.func218 rfl Tryz.ntmps218 (by kernel_rfl) rfl fun r T' n' h1 w0 base ρ0 its hS hP => ?_
 have X : CtxW envE ρ0 ro r T' n' := trivial
 unfold g218 at h1
 refine sr ?_
 refine as_ ?_
 refine dn ?_
 refine sr ?_
 refine mv ?_
 refine mv ?_
 refine pu ?_
 refine LV.bslice hS h1 rfl rfl Spf.el46 rfl rfl rfl rfl fun x6_1 T1 n1 h2 ρ its hS hdr => ?_
 refine LV.call hS h2 (hI _ _ _ _ _) hP rfl rfl rfl rfl fun x7_2 T2 n2 h3 ρ its hS => ?_
 refine as_ ?_
 refine dn ?_
 refine CV.ret ?_
 cases h3
 exact PV.ret (by simp) Tryz.results218 hS (RS.tmp rfl RS.nil) rfl
noncomputable def g232 (ih : FuncId → List HT → List AV → HT → Nat → R) (ro : List HT) (a0 : AV) (T : HT) (nx : Nat) : R :=
 bsK 2320003 T nx 1 9 1 [(0, (.lit (.string ⟨⟨[110, 111, 116]⟩⟩)))] fun x6_1 T1 n1 =>
 callK (g99 ro a0 x6_1 T1 n1) fun x7_2 T2 n2 =>
 notK 2320005 x7_2 fun x8_3 =>
 condK 2320006 x8_3
 (
  callK (ih 237 ro [a0] T2 n2) fun x10_4 T3 n3 =>
  .ok (.val x10_4) T3 n3
 )
 (
  callK (g177 ro a0 (.lit (.string ⟨⟨[110, 111, 116]⟩⟩)) T2 n2) fun x12_5 T4 n4 =>
  callK (g176 ro a0 x12_5 T4 n4) fun x15_6 T5 n5 =>
  callK (ih 232 ro [a0] T5 n5) fun x17_7 T6 n6 =>
  fldK 2320020 T6 ro a0 3 fun x21_8 =>
  subK Tryz.prog 3 (.tmp 21) (.const (.int .i64 (.ofNat 1))) 2320021 x21_8 (.lit (.int .i64 (.ofNat 1))) fun x22_9 =>
  faK 2320022 a0 3 fun x24_10 =>
  stK 2320023 T6 x24_10 x22_9 fun T7 =>
  bsK 2320027 T7 n6 1 3 1 [(0, x17_7)] fun x28_11 T8 n8 =>
  callK (g65 ro a0 (.lit (.int .i64 (.ofNat 17))) x12_5 (.lit (.string ⟨⟨[]⟩⟩)) x28_11 T8 n8) fun x29_12 T9 n9 =>
  .ok (.val x29_12) T9 n9
 )
theorem g232_ok (ih : FuncId → List HT → List AV → HT → Nat → R) (hI : ∀ f ro args T nx, GOk Tryz.prog envE f args ro T nx (ih f ro args T nx)) (ro : List HT) (a0 : AV) (T : HT) (nx : Nat) : GOk Tryz.prog envE 232 [a0] ro T nx (g232 ih ro a0 T nx) := by
 refine GOk.of_body Tryz.func232 rfl Tryz.ntmps232 (by kernel_rfl) rfl fun r T' n' h1 w0 base ρ0 its hS hP => ?_
 have X : CtxW envE ρ0 ro r T' n' := trivial
 unfold g232 at h1
 refine sr ?_
 refine as_ ?_
 refine dn ?_
 refine CV.seq ?_
 refine sr ?_
 refine mv ?_
 refine LV.bslice hS h1 rfl rfl Spf.el46 rfl rfl rfl rfl fun x6_1 T1 n1 h2 ρ its hS hdr => ?_
 refine LV.call hS h2 (g99_ok _ _ _ _ _ ) hP rfl rfl rfl rfl fun x7_2 T2 n2 h3 ρ its hS => ?_
 refine vy (V.not h3 rfl) fun x8_3 h4 => ?_
 refine dn ?_
 refine CV.cond h4 rfl (fun e h5 => ?_) (fun e h5 => ?_)
 ·
  clear h1 h2 h3 h4
  subst e
  refine sr ?_
  refine mv ?_
  refine LV.call hS h5 (hI _ _ _ _ _) hP rfl rfl rfl rfl fun x10_4 T3 n3 h6 ρ its hS => ?_
  refine as_ ?_
  refine dn ?_
  refine CV.ret ?_
  refine PV.thenR ?_
  cases h6
  exact PV.ret (by simp) Tryz.results232 hS (RS.tmp rfl RS.nil) rfl
 ·
  clear h1 h2 h3 h4
  subst e
  refine CV.skip ?_
  refine PV.thenN ?_
  refine sr ?_
  refine mv ?_
  refine LV.call hS h5 (g177_ok _ _ _ _ _ ) hP rfl rfl rfl rfl fun x12_5 T4 n4 h7 ρ its hS => ?_
  refine as_ ?_
  refine dn ?_
  refine sr ?_
  refine mv ?_
  refine mv ?_
  refine LV.call hS h7 (g176_ok _ _ _ _ _ ) hP rfl rfl rfl rfl fun x15_6 T5 n5 h8 ρ its hS => ?_
  refine dn ?_
  refine sr ?_
  refine mv ?_
  refine LV.call hS h8 (hI _ _ _ _ _) hP rfl rfl rfl rfl fun x17_7 T6 n6 h9 ρ its hS => ?_
  refine as_ ?_
  refine dn ?_
  refine sr ?_
  refine mv ?_
  refine fl hS h9 Spf.fo98_3 Spf.one3 fun x21_8 h10 => ?_
  refine vy (V.sub h10 rfl rfl) fun x22_9 h11 => ?_
  refine fa2 h11 Spf.fo98_3 fun x24_10 h12 => ?_
  refine LV.st hS h12 rfl rfl rfl Spf.siz3 rfl rfl fun T7 its h13 hS => ?_
  refine dn ?_
  refine sr ?_
  refine mv ?_
  refine mv ?_
  refine mv ?_
  refine LV.bslice hS h13 rfl rfl Spf.el30 rfl rfl rfl rfl fun x28_11 T8 n8 h14 ρ its hS hdr => ?_
  refine LV.call hS h14 (g65_ok _ _ _ _ _ _ _ _ ) hP rfl rfl rfl rfl fun x29_12 T9 n9 h15 ρ its hS => ?_
  refine as_ ?_
  refine dn ?_
  refine CV.ret ?_
  cases h15
  exact PV.ret (by simp) Tryz.results232 hS (RS.tmp rfl RS.nil) rfl
noncomputable def g235_b1 (ih : FuncId → List HT → List AV → HT → Nat → R) (ro : List HT) (lp1 : AV → AV → AV → HT → Nat → R) (y0 y2 y3 : AV) (T2 : HT) (n2 : Nat) : R :=
 callK (g129 ro y0 T2 n2) fun x10_2 T3 n3 =>
 callK (g131 ro y0 (.lit (.string ⟨⟨[46]⟩⟩)) T3 n3) fun x14_3 T4 n4 =>
 condK 2350012 x14_3
 (
  .bad 2350013
 )
 (
  bsK 2350015 T4 n4 1 9 1 [(0, (.lit (.string ⟨⟨[40]⟩⟩)))] fun x28_4 T5 n5 =>
  callK (g99 ro y0 x28_4 T5 n5) fun x29_5 T6 n6 =>
  condK 2350018 x29_5
  (
   .bad 2350019
  )
  (
   bsK 2350021 T6 n6 1 9 1 [(0, (.lit (.string ⟨⟨[91]⟩⟩)))] fun x35_6 T7 n7 =>
   callK (g99 ro y0 x35_6 T7 n7) fun x36_7 T8 n8 =>
   condK 2350024 x36_7
   (
    .bad 2350025
   )
   (
    .ok (.val y3) T8 n8
   )
  )
 )
noncomputable def g235 (ih : FuncId → List HT → List AV → HT → Nat → R) (ro : List HT) (a0 : AV) (T : HT) (nx : Nat) : R :=
 callK (ih 238 ro [a0] T nx) fun x8_1 T1 n1 =>
 lpf3 2350005 (g235_b1 ih ro) 100000 a0 (.lit (.int .i64 (.ofNat 0))) x8_1 T1 n1
theorem g235_ok (ih : FuncId → List HT → List AV → HT → Nat → R) (hI : ∀ f ro args T nx, GOk Tryz.prog envE f args ro T nx (ih f ro args T nx)) (ro : List HT) (a0 : AV) (T : HT) (nx : Nat) : GOk Tryz.prog envE 235 [a0] ro T nx (g235 ih ro a0 T nx) := by
 refine GOk.of_body Tryz.func235 rfl Tryz.ntmps235 (by kernel_rfl) rfl fun r T' n' h1 w0 base ρ0 its hS hP => ?_
 have X : CtxW envE ρ0 ro r T' n' := trivial
 unfold g235 at h1
 refine sr ?_
 refine as_ ?_
 refine dn ?_
 refine sr ?_
 refine mv ?_
 refine LV.call hS h1 (hI _ _ _ _ _) hP rfl rfl rfl rfl fun x8_1 T1 n1 h2 ρ its hS => ?_
 refine as_ ?_
 refine dn ?_
 refine CV.block ?_
 refine cl3 X 0 2 3 [] hS h2 ⟨rfl, rfl, rfl, trivial⟩ ?_
 intro f1 y0 y2 y3 T2 n2 ρ its hS h3
 unfold g235_b1 at h3
 clear h1 h2
 refine CV.block ?_
 refine sr ?_
 refine mv ?_
 refine LV.call hS h3 (g129_ok _ _ _ _ ) hP rfl rfl rfl rfl fun x10_2 T3 n3 h4 ρ its hS => ?_
 refine as_ ?_
 refine dn ?_
 refine CV.block ?_
 refine sr ?_
 refine mv ?_
 refine LV.call hS h4 (g131_ok _ _ _ _ _ ) hP rfl rfl rfl rfl fun x14_3 T4 n4 h5 ρ its hS => ?_
 refine as_ ?_
 refine dn ?_
 refine CV.cond h5 rfl (fun e h6 => ?_) (fun e h6 => ?_)
 ·
  clear h3 h4 h5
  subst e
  cases h6
 ·
  clear h3 h4 h5
  subst e
  refine sr ?_
  refine mv ?_
  refine LV.bslice hS h6 rfl rfl Spf.el46 rfl rfl rfl rfl fun x28_4 T5 n5 h7 ρ its hS hdr => ?_
  refine LV.call hS h7 (g99_ok _ _ _ _ _ ) hP rfl rfl rfl rfl fun x29_5 T6 n6 h8 ρ its hS => ?_
  refine as_ ?_
  refine dn ?_
  refine CV.cond h8 rfl (fun e h9 => ?_) (fun e h9 => ?_)
  ·
   clear h6 h7 h8
   subst e
   cases h9
  ·
   clear h6 h7 h8
   subst e
   refine sr ?_
   refine mv ?_
   refine LV.bslice hS h9 rfl rfl Spf.el46 rfl rfl rfl rfl fun x35_6 T7 n7 h10 ρ its hS hdr => ?_
   refine LV.call hS h10 (g99_ok _ _ _ _ _ ) hP rfl rfl rfl rfl fun x36_7 T8 n8 h11 ρ its hS => ?_
   refine as_ ?_
   refine dn ?_
   refine CV.cond h11 rfl (fun e h12 => ?_) (fun e h12 => ?_)
   ·
    clear h9 h10 h11
    subst e
    cases h12
   ·
    clear h9 h10 h11
    subst e
    refine sr ?_
    refine mv ?_
    refine as_ ?_
    refine dn ?_
    refine CV.ret ?_
    refine PV.blockR ?_
    refine PV.blockR ?_
    refine PV.thenR ?_
    refine PV.blockR ?_
    cases h12
    exact PV.ret (by simp) Tryz.results235 hS (RS.tmp rfl RS.nil) rfl
noncomputable def g237 (ih : FuncId → List HT → List AV → HT → Nat → R) (ro : List HT) (a0 : AV) (T : HT) (nx : Nat) : R :=
 callK (ih 241 ro [a0] T nx) fun x7_1 T1 n1 =>
 callK (g129 ro a0 T1 n1) fun x9_2 T2 n2 =>
 bsK 2370009 T2 n2 1 9 1 [(0, (.lit (.string ⟨⟨[110, 111, 116]⟩⟩)))] fun x12_3 T3 n3 =>
 callK (g99 ro a0 x12_3 T3 n3) fun x13_4 T4 n4 =>
 condK 2370012 x13_4
 (
  fldK 2370014 T4 ro a0 1 fun x17_5 =>
  addK Tryz.prog 3 (.tmp 17) (.const (.int .i64 (.ofNat 1))) 2370015 x17_5 (.lit (.int .i64 (.ofNat 1))) fun x18_6 =>
  faK 2370016 a0 1 fun x20_7 =>
  stK 2370017 T4 x20_7 x18_6 fun T5 =>
  callK (g177 ro a0 (.lit (.string ⟨⟨[105, 110]⟩⟩)) T5 n4) fun x22_8 T6 n6 =>
  callK (ih 241 ro [a0] T6 n6) fun x27_9 T7 n7 =>
  bsK 2370025 T7 n7 2 3 1 [(0, x7_1), (1, x27_9)] fun x28_10 T8 n8 =>
  callK (g65 ro a0 (.lit (.int .i64 (.ofNat 33))) x9_2 (.lit (.string ⟨⟨[]⟩⟩)) x28_10 T8 n8) fun x29_11 T9 n9 =>
  .ok (.val x29_11) T9 n9
 )
 (
  bsK 2370029 T4 n4 7 9 1 [(0, (.lit (.string ⟨⟨[61, 61]⟩⟩))), (1, (.lit (.string ⟨⟨[33, 61]⟩⟩))), (2, (.lit (.string ⟨⟨[60]⟩⟩))), (3, (.lit (.string ⟨⟨[60, 61]⟩⟩))), (4, (.lit (.string ⟨⟨[62]⟩⟩))), (5, (.lit (.string ⟨⟨[62, 61]⟩⟩))), (6, (.lit (.string ⟨⟨[105, 110]⟩⟩)))] fun x32_12 T10 n10 =>
  callK (g99 ro a0 x32_12 T10 n10) fun x33_13 T11 n11 =>
  condK 2370032 x33_13
  (
   ncK 2370034 a0 fun x35_14 =>
   faK 2370035 x35_14 0 fun x36_15 =>
   ldK 2370036 T11 ro x36_15 fun x37_16 =>
   ncK 2370038 a0 fun x39_17 =>
   faK 2370039 x39_17 1 fun x40_18 =>
   ldK 2370040 T11 ro x40_18 fun x41_19 =>
   iaK 2370041 x37_16 x41_19 3 fun x42_20 =>
   faK 2370042 x42_20 1 fun x43_21 =>
   ldK 2370043 T11 ro x43_21 fun x44_22 =>
   fldK 2370046 T11 ro a0 1 fun x48_23 =>
   addK Tryz.prog 3 (.tmp 48) (.const (.int .i64 (.ofNat 1))) 2370047 x48_23 (.lit (.int .i64 (.ofNat 1))) fun x49_24 =>
   faK 2370048 a0 1 fun x51_25 =>
   stK 2370049 T11 x51_25 x49_24 fun T12 =>
   callK (g231 ro x44_22 T12 n11) fun x54_26 T13 n13 =>
   callK (ih 241 ro [a0] T13 n13) fun x58_27 T14 n14 =>
   bsK 2370057 T14 n14 2 3 1 [(0, x7_1), (1, x58_27)] fun x59_28 T15 n15 =>
   callK (g65 ro a0 x54_26 x9_2 (.lit (.string ⟨⟨[]⟩⟩)) x59_28 T15 n15) fun x60_29 T16 n16 =>
   .ok (.val x60_29) T16 n16
  )
  (
   .ok (.val x7_1) T11 n11
  )
 )
theorem g237_ok (ih : FuncId → List HT → List AV → HT → Nat → R) (hI : ∀ f ro args T nx, GOk Tryz.prog envE f args ro T nx (ih f ro args T nx)) (ro : List HT) (a0 : AV) (T : HT) (nx : Nat) : GOk Tryz.prog envE 237 [a0] ro T nx (g237 ih ro a0 T nx) := by
 refine GOk.of_body Tryz.func237 rfl Tryz.ntmps237 (by kernel_rfl) rfl fun r T' n' h1 w0 base ρ0 its hS hP => ?_
 have X : CtxW envE ρ0 ro r T' n' := trivial
 unfold g237 at h1
 refine sr ?_
 refine as_ ?_
 refine dn ?_
 refine sr ?_
 refine mv ?_
 refine LV.call hS h1 (hI _ _ _ _ _) hP rfl rfl rfl rfl fun x7_1 T1 n1 h2 ρ its hS => ?_
 refine as_ ?_
 refine dn ?_
 refine sr ?_
 refine mv ?_
 refine LV.call hS h2 (g129_ok _ _ _ _ ) hP rfl rfl rfl rfl fun x9_2 T2 n2 h3 ρ its hS => ?_
 refine as_ ?_
 refine dn ?_
 refine CV.seq ?_
 refine CV.block ?_
 refine sr ?_
 refine mv ?_
 refine LV.bslice hS h3 rfl rfl Spf.el46 rfl rfl rfl rfl fun x12_3 T3 n3 h4 ρ its hS hdr => ?_
 refine LV.call hS h4 (g99_ok _ _ _ _ _ ) hP rfl rfl rfl rfl fun x13_4 T4 n4 h5 ρ its hS => ?_
 refine as_ ?_
 refine dn ?_
 refine CV.cond h5 rfl (fun e h6 => ?_) (fun e h6 => ?_)
 ·
  clear h1 h2 h3 h4 h5
  subst e
  refine sr ?_
  refine mv ?_
  refine fl hS h6 Spf.fo98_1 Spf.one3 fun x17_5 h7 => ?_
  refine vy (V.add h7 rfl rfl) fun x18_6 h8 => ?_
  refine fa2 h8 Spf.fo98_1 fun x20_7 h9 => ?_
  refine LV.st hS h9 rfl rfl rfl Spf.siz3 rfl rfl fun T5 its h10 hS => ?_
  refine dn ?_
  refine sr ?_
  refine mv ?_
  refine LV.call hS h10 (g177_ok _ _ _ _ _ ) hP rfl rfl rfl rfl fun x22_8 T6 n6 h11 ρ its hS => ?_
  refine dn ?_
  refine sr ?_
  refine mv ?_
  refine mv ?_
  refine mv ?_
  refine mv ?_
  refine LV.call hS h11 (hI _ _ _ _ _) hP rfl rfl rfl rfl fun x27_9 T7 n7 h12 ρ its hS => ?_
  refine LV.bslice hS h12 rfl rfl Spf.el30 rfl rfl rfl rfl fun x28_10 T8 n8 h13 ρ its hS hdr => ?_
  refine LV.call hS h13 (g65_ok _ _ _ _ _ _ _ _ ) hP rfl rfl rfl rfl fun x29_11 T9 n9 h14 ρ its hS => ?_
  refine as_ ?_
  refine dn ?_
  refine CV.ret ?_
  refine PV.blockR ?_
  refine PV.thenR ?_
  cases h14
  exact PV.ret (by simp) Tryz.results237 hS (RS.tmp rfl RS.nil) rfl
 ·
  clear h1 h2 h3 h4 h5
  subst e
  refine sr ?_
  refine mv ?_
  refine LV.bslice hS h6 rfl rfl Spf.el46 rfl rfl rfl rfl fun x32_12 T10 n10 h15 ρ its hS hdr => ?_
  refine LV.call hS h15 (g99_ok _ _ _ _ _ ) hP rfl rfl rfl rfl fun x33_13 T11 n11 h16 ρ its hS => ?_
  refine as_ ?_
  refine dn ?_
  refine CV.cond h16 rfl (fun e h17 => ?_) (fun e h17 => ?_)
  ·
   clear h6 h15 h16
   subst e
   refine CV.seq ?_
   refine CV.regionM [(0, .anywhere), (1, .anywhere), (2, .anywhere), (3, .held), (4, .anywhere), (5, .anywhere), (6, .anywhere), (7, .held), (8, .held), (9, .held), (10, .held), (11, .held)] rfl (fun c a a' w hd hq => PanicOk.root (P := Tryz.prog) (fn := Tryz.f237) (w0 := w0) (base := base) (E := envE) (ro := ro) (r := r) (T' := T') (n' := n') (ρ0 := ρ0) c a a' w hd hq) (by kernel_rfl) ?_
   refine MV.step0 (i := 0) rfl (VAL.move rfl) rfl rfl rfl ?_
   refine MV.lift0 (i := 1) rfl (V.nc h17 rfl) rfl rfl rfl fun x35_14 h18 => ?_
   refine MV.lift0 (i := 2) rfl (V.fa h18 rfl Spf.fo98_0) rfl rfl rfl fun x36_15 h19 => ?_
   refine MV.lift1 (i := 3) rfl (fun _ z => z) (V.ld hS h19 rfl Spf.one96) rfl rfl rfl [] (by kernel_rfl) fun x37_16 h20 => ?_
   refine MV.step0 (i := 4) rfl (VAL.move rfl) rfl rfl rfl ?_
   refine MV.lift0 (i := 5) rfl (V.nc h20 rfl) rfl rfl rfl fun x39_17 h21 => ?_
   refine MV.lift0 (i := 6) rfl (V.fa h21 rfl Spf.fo98_1) rfl rfl rfl fun x40_18 h22 => ?_
   refine MV.lift1 (i := 7) rfl (fun _ z => z) (V.ld hS h22 rfl Spf.one3) rfl rfl rfl [3] (by kernel_rfl) fun x41_19 h23 => ?_
   refine MV.lift1 (i := 8) rfl (fun _ z => z) (V.ia h23 rfl rfl Spf.el96) rfl rfl rfl [] (by kernel_rfl) fun x42_20 h24 => ?_
   refine MV.lift1 (i := 9) rfl (fun _ z => z) (V.fa h24 rfl Spf.fo139_1) rfl rfl rfl [] (by kernel_rfl) fun x43_21 h25 => ?_
   refine MV.lift1 (i := 10) rfl (fun _ z => z) (V.ld hS h25 rfl Spf.one9) rfl rfl rfl [] (by kernel_rfl) fun x44_22 h26 => ?_
   refine MV.step1 (i := 11) rfl (fun _ z => z) (VAL.assign rfl) rfl rfl rfl [] (by kernel_rfl) ?_
   refine mdn ?_
   refine sr ?_
   refine mv ?_
   refine fl hS h26 Spf.fo98_1 Spf.one3 fun x48_23 h27 => ?_
   refine vy (V.add h27 rfl rfl) fun x49_24 h28 => ?_
   refine fa2 h28 Spf.fo98_1 fun x51_25 h29 => ?_
   refine LV.st hS h29 rfl rfl rfl Spf.siz3 rfl rfl fun T12 its h30 hS => ?_
   refine dn ?_
   refine sr ?_
   refine mv ?_
   refine mv ?_
   refine LV.call hS h30 (g231_ok _ _ _ _ ) hP rfl rfl rfl rfl fun x54_26 T13 n13 h31 ρ its hS => ?_
   refine mv ?_
   refine mv ?_
   refine mv ?_
   refine LV.call hS h31 (hI _ _ _ _ _) hP rfl rfl rfl rfl fun x58_27 T14 n14 h32 ρ its hS => ?_
   refine LV.bslice hS h32 rfl rfl Spf.el30 rfl rfl rfl rfl fun x59_28 T15 n15 h33 ρ its hS hdr => ?_
   refine LV.call hS h33 (g65_ok _ _ _ _ _ _ _ _ ) hP rfl rfl rfl rfl fun x60_29 T16 n16 h34 ρ its hS => ?_
   refine as_ ?_
   refine dn ?_
   refine CV.ret ?_
   refine PV.blockR ?_
   refine PV.thenR ?_
   cases h34
   exact PV.ret (by simp) Tryz.results237 hS (RS.tmp rfl RS.nil) rfl
  ·
   clear h6 h15 h16
   subst e
   refine CV.skip ?_
   refine PV.blockN ?_
   refine PV.thenN ?_
   refine sr ?_
   refine mv ?_
   refine as_ ?_
   refine dn ?_
   refine CV.ret ?_
   cases h17
   exact PV.ret (by simp) Tryz.results237 hS (RS.tmp rfl RS.nil) rfl
noncomputable def g238 (ih : FuncId → List HT → List AV → HT → Nat → R) (ro : List HT) (a0 : AV) (T : HT) (nx : Nat) : R :=
 ncK 2380003 a0 fun x6_1 =>
 faK 2380004 x6_1 0 fun x7_2 =>
 ldK 2380005 T ro x7_2 fun x8_3 =>
 ncK 2380007 a0 fun x10_4 =>
 faK 2380008 x10_4 1 fun x11_5 =>
 ldK 2380009 T ro x11_5 fun x12_6 =>
 iaK 2380010 x8_3 x12_6 3 fun x13_7 =>
 ldAK 2380011 T ro x13_7 3 fun x14_8 =>
 newK T nx (.obj [.lit (.int .i64 0), .lit (.string ⟨#[]⟩), .lit (.int .i64 0)] 139) fun x3_9 T1 n1 =>
 stAK 2380013 T1 x3_9 x14_8 3 fun T2 =>
 faK 2380014 x3_9 0 fun x16_10 =>
 ldK 2380015 T2 ro x16_10 fun x17_11 =>
 eqK Tryz.prog 3 (.tmp 17) (.const (.int .i64 (.ofNat 1))) 2380016 x17_11 (.lit (.int .i64 (.ofNat 1))) fun x18_12 =>
 condK 2380018 x18_12
 (
  fldK 2380020 T2 ro a0 1 fun x22_13 =>
  addK Tryz.prog 3 (.tmp 22) (.const (.int .i64 (.ofNat 1))) 2380021 x22_13 (.lit (.int .i64 (.ofNat 1))) fun x23_14 =>
  faK 2380022 a0 1 fun x25_15 =>
  stK 2380023 T2 x25_15 x23_14 fun T3 =>
  faK 2380025 x3_9 2 fun x27_16 =>
  ldK 2380026 T3 ro x27_16 fun x28_17 =>
  faK 2380027 x3_9 1 fun x29_18 =>
  ldK 2380028 T3 ro x29_18 fun x30_19 =>
  callK (g65 ro a0 (.lit (.int .i64 (.ofNat 6))) x28_17 x30_19 (.lit (.slice none 0 0)) T3 n1) fun x31_20 T4 n4 =>
  .ok (.val x31_20) T4 n4
 )
 (
  faK 2380031 x3_9 0 fun x33_21 =>
  ldK 2380032 T2 ro x33_21 fun x34_22 =>
  eqK Tryz.prog 3 (.tmp 34) (.const (.int .i64 (.ofNat 2))) 2380033 x34_22 (.lit (.int .i64 (.ofNat 2))) fun x35_23 =>
  condK 2380035 x35_23
  (
   .bad 2380036
  )
  (
   faK 2380037 x3_9 0 fun x50_24 =>
   ldK 2380038 T2 ro x50_24 fun x51_25 =>
   eqK Tryz.prog 3 (.tmp 51) (.const (.int .i64 (.ofNat 3))) 2380039 x51_25 (.lit (.int .i64 (.ofNat 3))) fun x52_26 =>
   condK 2380041 x52_26
   (
    .bad 2380042
   )
   (
    callK (g131 ro a0 (.lit (.string ⟨⟨[78, 111, 110, 101]⟩⟩)) T2 n1) fun x83_27 T5 n5 =>
    condK 2380046 x83_27
    (
     .bad 2380047
    )
    (
     callK (g131 ro a0 (.lit (.string ⟨⟨[84, 114, 117, 101]⟩⟩)) T5 n5) fun x90_28 T6 n6 =>
     condK 2380051 x90_28
     (
      .bad 2380052
     )
     (
      callK (g131 ro a0 (.lit (.string ⟨⟨[70, 97, 108, 115, 101]⟩⟩)) T6 n6) fun x97_29 T7 n7 =>
      condK 2380056 x97_29
      (
       .bad 2380057
      )
      (
       bsK 2380059 T7 n7 1 9 1 [(0, (.lit (.string ⟨⟨[40]⟩⟩)))] fun x104_30 T8 n8 =>
       callK (g99 ro a0 x104_30 T8 n8) fun x105_31 T9 n9 =>
       condK 2380062 x105_31
       (
        callK (ih 242 ro [a0] T9 n9) fun x107_32 T10 n10 =>
        .ok (.val x107_32) T10 n10
       )
       (
        bsK 2380067 T9 n9 1 9 1 [(0, (.lit (.string ⟨⟨[91]⟩⟩)))] fun x110_33 T11 n11 =>
        callK (g99 ro a0 x110_33 T11 n11) fun x111_34 T12 n12 =>
        condK 2380070 x111_34
        (
         .bad 2380071
        )
        (
         bsK 2380073 T12 n12 1 9 1 [(0, (.lit (.string ⟨⟨[123]⟩⟩)))] fun x116_35 T13 n13 =>
         callK (g99 ro a0 x116_35 T13 n13) fun x117_36 T14 n14 =>
         condK 2380076 x117_36
         (
          .bad 2380077
         )
         (
          callK (g78 ro a0 T14 n14) fun x121_37 T15 n15 =>
          .ok (.val (.lit (.int .i64 (.ofNat 0)))) T15 n15
         )
        )
       )
      )
     )
    )
   )
  )
 )
theorem g238_ok (ih : FuncId → List HT → List AV → HT → Nat → R) (hI : ∀ f ro args T nx, GOk Tryz.prog envE f args ro T nx (ih f ro args T nx)) (ro : List HT) (a0 : AV) (T : HT) (nx : Nat) : GOk Tryz.prog envE 238 [a0] ro T nx (g238 ih ro a0 T nx) := by
 refine GOk.of_body Tryz.func238 rfl Tryz.ntmps238 (by kernel_rfl) rfl fun r T' n' h1 w0 base ρ0 its hS hP => ?_
 have X : CtxW envE ρ0 ro r T' n' := trivial
 unfold g238 at h1
 refine sr ?_
 refine as_ ?_
 refine dn ?_
 refine CV.seq ?_
 refine CV.regionM [(0, .anywhere), (1, .anywhere), (2, .anywhere), (3, .held), (4, .anywhere), (5, .anywhere), (6, .anywhere), (7, .held), (8, .held), (9, .held), (10, .alone), (11, .alone)] rfl (fun c a a' w hd hq => PanicOk.root (P := Tryz.prog) (fn := Tryz.f238) (w0 := w0) (base := base) (E := envE) (ro := ro) (r := r) (T' := T') (n' := n') (ρ0 := ρ0) c a a' w hd hq) (by kernel_rfl) ?_
 refine MV.step0 (i := 0) rfl (VAL.move rfl) rfl rfl rfl ?_
 refine MV.lift0 (i := 1) rfl (V.nc h1 rfl) rfl rfl rfl fun x6_1 h2 => ?_
 refine MV.lift0 (i := 2) rfl (V.fa h2 rfl Spf.fo98_0) rfl rfl rfl fun x7_2 h3 => ?_
 refine MV.lift1 (i := 3) rfl (fun _ z => z) (V.ld hS h3 rfl Spf.one96) rfl rfl rfl [] (by kernel_rfl) fun x8_3 h4 => ?_
 refine MV.step0 (i := 4) rfl (VAL.move rfl) rfl rfl rfl ?_
 refine MV.lift0 (i := 5) rfl (V.nc h4 rfl) rfl rfl rfl fun x10_4 h5 => ?_
 refine MV.lift0 (i := 6) rfl (V.fa h5 rfl Spf.fo98_1) rfl rfl rfl fun x11_5 h6 => ?_
 refine MV.lift1 (i := 7) rfl (fun _ z => z) (V.ld hS h6 rfl Spf.one3) rfl rfl rfl [3] (by kernel_rfl) fun x12_6 h7 => ?_
 refine MV.lift1 (i := 8) rfl (fun _ z => z) (V.ia h7 rfl rfl Spf.el96) rfl rfl rfl [] (by kernel_rfl) fun x13_7 h8 => ?_
 refine MV.lift1 (i := 9) rfl (fun _ z => z) (V.ldA hS h8 rfl Spf.agg139) rfl rfl rfl [] (by kernel_rfl) fun x14_8 h9 => ?_
 refine MV.force (i := 10) rfl ?_
 refine LV.alloc hS h9 rfl Spf.zr139 rfl rfl rfl fun x3_9 T1 n1 h10 ρ its hS hdr => ?_
 refine LV.nextM [9] (by kernel_rfl) (fun _ => hdr) ?_
 refine MV.force (i := 11) rfl ?_
 refine LV.stA hS h10 rfl rfl rfl Spf.agg139 rfl rfl rfl fun T2 its h11 hS => ?_
 refine LV.nextM [] (by kernel_rfl) (fun z => absurd rfl z) ?_
 refine mdn ?_
 refine CV.seq ?_
 refine CV.block ?_
 refine sr ?_
 refine vy (V.fa h11 rfl Spf.fo139_0) fun x16_10 h12 => ?_
 refine vy (V.ld hS h12 rfl Spf.one3) fun x17_11 h13 => ?_
 refine vy (V.eq h13 rfl rfl) fun x18_12 h14 => ?_
 refine as_ ?_
 refine dn ?_
 refine CV.cond h14 rfl (fun e h15 => ?_) (fun e h15 => ?_)
 ·
  clear h1 h2 h3 h4 h5 h6 h7 h8 h9 h10 h11 h12 h13 h14
  subst e
  refine sr ?_
  refine mv ?_
  refine fl hS h15 Spf.fo98_1 Spf.one3 fun x22_13 h16 => ?_
  refine vy (V.add h16 rfl rfl) fun x23_14 h17 => ?_
  refine fa2 h17 Spf.fo98_1 fun x25_15 h18 => ?_
  refine LV.st hS h18 rfl rfl rfl Spf.siz3 rfl rfl fun T3 its h19 hS => ?_
  refine dn ?_
  refine sr ?_
  refine mv ?_
  refine vy (V.fa h19 rfl Spf.fo139_2) fun x27_16 h20 => ?_
  refine vy (V.ld hS h20 rfl Spf.one3) fun x28_17 h21 => ?_
  refine vy (V.fa h21 rfl Spf.fo139_1) fun x29_18 h22 => ?_
  refine vy (V.ld hS h22 rfl Spf.one9) fun x30_19 h23 => ?_
  refine LV.call hS h23 (g65_ok _ _ _ _ _ _ _ _ ) hP rfl rfl rfl rfl fun x31_20 T4 n4 h24 ρ its hS => ?_
  refine as_ ?_
  refine dn ?_
  refine CV.ret ?_
  refine PV.blockR ?_
  refine PV.thenR ?_
  cases h24
  exact PV.ret (by simp) Tryz.results238 hS (RS.tmp rfl RS.nil) rfl
 ·
  clear h1 h2 h3 h4 h5 h6 h7 h8 h9 h10 h11 h12 h13 h14
  subst e
  refine sr ?_
  refine vy (V.fa h15 rfl Spf.fo139_0) fun x33_21 h25 => ?_
  refine vy (V.ld hS h25 rfl Spf.one3) fun x34_22 h26 => ?_
  refine vy (V.eq h26 rfl rfl) fun x35_23 h27 => ?_
  refine as_ ?_
  refine dn ?_
  refine CV.cond h27 rfl (fun e h28 => ?_) (fun e h28 => ?_)
  ·
   clear h15 h25 h26 h27
   subst e
   cases h28
  ·
   clear h15 h25 h26 h27
   subst e
   refine sr ?_
   refine vy (V.fa h28 rfl Spf.fo139_0) fun x50_24 h29 => ?_
   refine vy (V.ld hS h29 rfl Spf.one3) fun x51_25 h30 => ?_
   refine vy (V.eq h30 rfl rfl) fun x52_26 h31 => ?_
   refine as_ ?_
   refine dn ?_
   refine CV.cond h31 rfl (fun e h32 => ?_) (fun e h32 => ?_)
   ·
    clear h28 h29 h30 h31
    subst e
    cases h32
   ·
    clear h28 h29 h30 h31
    subst e
    refine sr ?_
    refine mv ?_
    refine LV.call hS h32 (g131_ok _ _ _ _ _ ) hP rfl rfl rfl rfl fun x83_27 T5 n5 h33 ρ its hS => ?_
    refine as_ ?_
    refine dn ?_
    refine CV.cond h33 rfl (fun e h34 => ?_) (fun e h34 => ?_)
    ·
     clear h32 h33
     subst e
     cases h34
    ·
     clear h32 h33
     subst e
     refine sr ?_
     refine mv ?_
     refine LV.call hS h34 (g131_ok _ _ _ _ _ ) hP rfl rfl rfl rfl fun x90_28 T6 n6 h35 ρ its hS => ?_
     refine as_ ?_
     refine dn ?_
     refine CV.cond h35 rfl (fun e h36 => ?_) (fun e h36 => ?_)
     ·
      clear h34 h35
      subst e
      cases h36
     ·
      clear h34 h35
      subst e
      refine sr ?_
      refine mv ?_
      refine LV.call hS h36 (g131_ok _ _ _ _ _ ) hP rfl rfl rfl rfl fun x97_29 T7 n7 h37 ρ its hS => ?_
      refine as_ ?_
      refine dn ?_
      refine CV.cond h37 rfl (fun e h38 => ?_) (fun e h38 => ?_)
      ·
       clear h36 h37
       subst e
       cases h38
      ·
       clear h36 h37
       subst e
       refine sr ?_
       refine mv ?_
       refine LV.bslice hS h38 rfl rfl Spf.el46 rfl rfl rfl rfl fun x104_30 T8 n8 h39 ρ its hS hdr => ?_
       refine LV.call hS h39 (g99_ok _ _ _ _ _ ) hP rfl rfl rfl rfl fun x105_31 T9 n9 h40 ρ its hS => ?_
       refine as_ ?_
       refine dn ?_
       refine CV.cond h40 rfl (fun e h41 => ?_) (fun e h41 => ?_)
       ·
        clear h38 h39 h40
        subst e
        refine sr ?_
        refine mv ?_
        refine LV.call hS h41 (hI _ _ _ _ _) hP rfl rfl rfl rfl fun x107_32 T10 n10 h42 ρ its hS => ?_
        refine as_ ?_
        refine dn ?_
        refine CV.ret ?_
        refine PV.blockR ?_
        refine PV.thenR ?_
        cases h42
        exact PV.ret (by simp) Tryz.results238 hS (RS.tmp rfl RS.nil) rfl
       ·
        clear h38 h39 h40
        subst e
        refine sr ?_
        refine mv ?_
        refine LV.bslice hS h41 rfl rfl Spf.el46 rfl rfl rfl rfl fun x110_33 T11 n11 h43 ρ its hS hdr => ?_
        refine LV.call hS h43 (g99_ok _ _ _ _ _ ) hP rfl rfl rfl rfl fun x111_34 T12 n12 h44 ρ its hS => ?_
        refine as_ ?_
        refine dn ?_
        refine CV.cond h44 rfl (fun e h45 => ?_) (fun e h45 => ?_)
        ·
         clear h41 h43 h44
         subst e
         cases h45
        ·
         clear h41 h43 h44
         subst e
         refine sr ?_
         refine mv ?_
         refine LV.bslice hS h45 rfl rfl Spf.el46 rfl rfl rfl rfl fun x116_35 T13 n13 h46 ρ its hS hdr => ?_
         refine LV.call hS h46 (g99_ok _ _ _ _ _ ) hP rfl rfl rfl rfl fun x117_36 T14 n14 h47 ρ its hS => ?_
         refine as_ ?_
         refine dn ?_
         refine CV.cond h47 rfl (fun e h48 => ?_) (fun e h48 => ?_)
         ·
          clear h45 h46 h47
          subst e
          cases h48
         ·
          clear h45 h46 h47
          subst e
          refine CV.skip ?_
          refine PV.blockN ?_
          refine PV.thenN ?_
          refine sr ?_
          refine mv ?_
          refine LV.call hS h48 (g78_ok _ _ _ _ ) hP rfl rfl rfl rfl fun x121_37 T15 n15 h49 ρ its hS => ?_
          refine dn ?_
          refine sr ?_
          refine as_ ?_
          refine dn ?_
          refine CV.ret ?_
          cases h49
          exact PV.ret (by simp) Tryz.results238 hS (RS.tmp rfl RS.nil) rfl
noncomputable def g241 (ih : FuncId → List HT → List AV → HT → Nat → R) (ro : List HT) (a0 : AV) (T : HT) (nx : Nat) : R :=
 bsK 2410005 T nx 2 9 1 [(0, (.lit (.string ⟨⟨[43]⟩⟩))), (1, (.lit (.string ⟨⟨[45]⟩⟩)))] fun x6_1 T1 n1 =>
 callK (ih 217 ro [a0, (.fn (.func 245) [a0] []), x6_1] T1 n1) fun x7_2 T2 n2 =>
 .ok (.val x7_2) T2 n2
theorem g241_ok (ih : FuncId → List HT → List AV → HT → Nat → R) (hI : ∀ f ro args T nx, GOk Tryz.prog envE f args ro T nx (ih f ro args T nx)) (ro : List HT) (a0 : AV) (T : HT) (nx : Nat) : GOk Tryz.prog envE 241 [a0] ro T nx (g241 ih ro a0 T nx) := by
 refine GOk.of_body Tryz.func241 rfl Tryz.ntmps241 (by kernel_rfl) rfl fun r T' n' h1 w0 base ρ0 its hS hP => ?_
 have X : CtxW envE ρ0 ro r T' n' := trivial
 unfold g241 at h1
 refine sr ?_
 refine as_ ?_
 refine dn ?_
 refine sr ?_
 refine mv ?_
 refine mv ?_
 refine pu ?_
 refine LV.bslice hS h1 rfl rfl Spf.el46 rfl rfl rfl rfl fun x6_1 T1 n1 h2 ρ its hS hdr => ?_
 refine LV.call hS h2 (hI _ _ _ _ _) hP rfl rfl rfl rfl fun x7_2 T2 n2 h3 ρ its hS => ?_
 refine as_ ?_
 refine dn ?_
 refine CV.ret ?_
 cases h3
 exact PV.ret (by simp) Tryz.results241 hS (RS.tmp rfl RS.nil) rfl

end Go.Proofs.YtdepmlcnllofiaaGreatDoor.Sp
