/-
  Proved here: plain functions that do what the program's functions do, each with its proof.
-/
import Derived.Test.YtlljgagoboapaaaGreatDoorVdf
namespace Go.Proofs.YtlljgagoboapaaaGreatDoor.Vd
open Go.EY Go.EX Go.SX Go.RowKit
def envE : List (Nat × AV) := [(6, (.iface 347 (.opq 0))), (5, (.iface 347 (.opq 1))), (3, (.iface 347 (.opq 2))), (0, (.iface 347 (.opq 3))), (8, (.iface 347 (.opq 4))), (9, (.iface 347 (.opq 5))), (10, (.iface 347 (.opq 6))), (1, (.iface 347 (.opq 7))), (11, (.iface 347 (.opq 8))), (4, (.iface 347 (.opq 9))), (12, (.iface 347 (.opq 10))), (13, (.iface 347 (.opq 11))), (2, (.iface 347 (.opq 12))), (14, (.iface 347 (.opq 13))), (15, (.iface 347 (.opq 14))), (16, (.iface 347 (.opq 15))), (17, (.iface 347 (.opq 16)))]
noncomputable def bld29 (ps : List (Nat × AV)) : Option AV := (placesA Tryz.prog 29).bind fun q => (fillA q.2 (q.1.map .lit) ps).map .agg
noncomputable def bld67 (ps : List (Nat × AV)) : Option AV := (placesA Tryz.prog 67).bind fun q => (fillA q.2 (q.1.map .lit) ps).map .agg
noncomputable def bld75 (ps : List (Nat × AV)) : Option AV := (placesA Tryz.prog 75).bind fun q => (fillA q.2 (q.1.map .lit) ps).map .agg
noncomputable def bld77 (ps : List (Nat × AV)) : Option AV := (placesA Tryz.prog 77).bind fun q => (fillA q.2 (q.1.map .lit) ps).map .agg
noncomputable def bld81 (ps : List (Nat × AV)) : Option AV := (placesA Tryz.prog 81).bind fun q => (fillA q.2 (q.1.map .lit) ps).map .agg
noncomputable def bld85 (ps : List (Nat × AV)) : Option AV := (placesA Tryz.prog 85).bind fun q => (fillA q.2 (q.1.map .lit) ps).map .agg
noncomputable def bld89 (ps : List (Nat × AV)) : Option AV := (placesA Tryz.prog 89).bind fun q => (fillA q.2 (q.1.map .lit) ps).map .agg
noncomputable def bld93 (ps : List (Nat × AV)) : Option AV := (placesA Tryz.prog 93).bind fun q => (fillA q.2 (q.1.map .lit) ps).map .agg
noncomputable def bld98 (ps : List (Nat × AV)) : Option AV := (placesA Tryz.prog 98).bind fun q => (fillA q.2 (q.1.map .lit) ps).map .agg
noncomputable def bld100 (ps : List (Nat × AV)) : Option AV := (placesA Tryz.prog 100).bind fun q => (fillA q.2 (q.1.map .lit) ps).map .agg
noncomputable def bld103 (ps : List (Nat × AV)) : Option AV := (placesA Tryz.prog 103).bind fun q => (fillA q.2 (q.1.map .lit) ps).map .agg
noncomputable def bld172 (ps : List (Nat × AV)) : Option AV := (placesA Tryz.prog 172).bind fun q => (fillA q.2 (q.1.map .lit) ps).map .agg
noncomputable def bld185 (ps : List (Nat × AV)) : Option AV := (placesA Tryz.prog 185).bind fun q => (fillA q.2 (q.1.map .lit) ps).map .agg
noncomputable def bld207 (ps : List (Nat × AV)) : Option AV := (placesA Tryz.prog 207).bind fun q => (fillA q.2 (q.1.map .lit) ps).map .agg
noncomputable def bld217 (ps : List (Nat × AV)) : Option AV := (placesA Tryz.prog 217).bind fun q => (fillA q.2 (q.1.map .lit) ps).map .agg
noncomputable def bld233 (ps : List (Nat × AV)) : Option AV := (placesA Tryz.prog 233).bind fun q => (fillA q.2 (q.1.map .lit) ps).map .agg
noncomputable def bld237 (ps : List (Nat × AV)) : Option AV := (placesA Tryz.prog 237).bind fun q => (fillA q.2 (q.1.map .lit) ps).map .agg
noncomputable def bld255 (ps : List (Nat × AV)) : Option AV := (placesA Tryz.prog 255).bind fun q => (fillA q.2 (q.1.map .lit) ps).map .agg
noncomputable def g8 (ro : List HT) (a0 : AV) (T : HT) (nx : Nat) : R :=
 boxK 80001 T nx a0 29 fun x1_1 T1 n1 =>
 ldAK 80003 T1 ro x1_1 2 fun x3_2 =>
 optK 80004 (bld67 [(1, x3_2)]) fun x4_3 =>
 .ok (.val (.iface 67 x4_3)) T1 n1
theorem g8_ok (ro : List HT) (a0 : AV) (T : HT) (nx : Nat) : GOk Tryz.prog envE 8 [a0] ro T nx (g8 ro a0 T nx) := by
 refine GOk.of_body Tryz.func8 rfl Tryz.ntmps8 (by kernel_rfl) rfl fun r T' n' h1 w0 base ρ0 its hS hP => ?_
 have X : CtxW envE ρ0 ro r T' n' := trivial
 unfold g8 at h1
 refine sr ?_
 refine LV.box hS h1 rfl rfl rfl rfl rfl fun x1_1 T1 n1 h2 ρ its hS hdr => ?_
 refine as_ ?_
 refine dn ?_
 refine sr ?_
 refine vy (V.ldA hS h2 rfl Vdf.agg29) fun x3_2 h3 => ?_
 refine vy (V.bld h3 rfl) fun x4_3 h4 => ?_
 refine sv (VAL.mkI rfl Vdf.ni67) ?_
 refine as_ ?_
 refine dn ?_
 refine CV.ret ?_
 cases h4
 exact PV.ret (by simp) Tryz.results8 hS (RS.tmp rfl RS.nil) rfl
noncomputable def g31_k3 (ro : List HT) (y1 y4 y27 : AV) (T4 : HT) (n4 : Nat) : R :=
 optK 310017 (bld29 [(0, y27), (1, y1)]) fun x29_7 =>
 stAK 310018 T4 y4 x29_7 2 fun T5 =>
 ldAK 310019 T5 ro y4 2 fun x4_8 =>
 .ok (.val x4_8) T5 n4
noncomputable def g31_k2 (ro : List HT) (lp1 : AV → AV → AV → HT → Nat → R) (y0 y1 y4 y16 : AV) (T3 : HT) (n3 : Nat) : R :=
 condK 310007 y16
 (
  lenSK 310010 y1 fun x19_4 =>
  subK Tryz.prog 3 (.tmp 19) (.const (.int .i64 (.ofNat 1))) 310011 x19_4 (.lit (.int .i64 (.ofNat 1))) fun x20_5 =>
  cutHiK 310012 T3 ro y1 x20_5 fun x21_6 =>
  lp1 y0 x21_6 y4 T3 n3
 )
 (
  condK 310020 y0
  (
   lenSK 310022 y1 fun x25_9 =>
   gtK Tryz.prog 3 (.tmp 25) (.const (.int .i64 (.ofNat 0))) 310023 x25_9 (.lit (.int .i64 (.ofNat 0))) fun x26_10 =>
   g31_k3 ro y1 y4 x26_10 T3 n3
  )
  (
   g31_k3 ro y1 y4 (.lit (.bool false)) T3 n3
  )
 )
noncomputable def g31_b1 (ro : List HT) (lp1 : AV → AV → AV → HT → Nat → R) (y0 y1 y4 : AV) (T2 : HT) (n2 : Nat) : R :=
 lenSK 310004 y1 fun x6_2 =>
 gtK Tryz.prog 3 (.tmp 6) (.const (.int .i64 (.ofNat 0))) 310005 x6_2 (.lit (.int .i64 (.ofNat 0))) fun x7_3 =>
 condK 310026 x7_3
 (
  lenSK 310029 y1 fun x11_11 =>
  subK Tryz.prog 3 (.tmp 11) (.const (.int .i64 (.ofNat 1))) 310030 x11_11 (.lit (.int .i64 (.ofNat 1))) fun x12_12 =>
  iaK 310031 y1 x12_12 1 fun x13_13 =>
  ldK 310032 T2 ro x13_13 fun x14_14 =>
  eqK Tryz.prog 69 (.tmp 14) (.const (.int .u32 (.ofNat 0))) 310033 x14_14 (.lit (.int .u32 (.ofNat 0))) fun x15_15 =>
  g31_k2 ro lp1 y0 y1 y4 x15_15 T2 n2
 )
 (
  g31_k2 ro lp1 y0 y1 y4 (.lit (.bool false)) T2 n2
 )
noncomputable def g31 (ro : List HT) (a0 a1 : AV) (T : HT) (nx : Nat) : R :=
 newK T nx (.obj [.lit (.bool false), .lit (.slice none 0 0)] 29) fun x4_1 T1 n1 =>
 lpf3 310002 (g31_b1 ro) 100000 a0 a1 x4_1 T1 n1
theorem g31_ok (ro : List HT) (a0 a1 : AV) (T : HT) (nx : Nat) : GOk Tryz.prog envE 31 [a0, a1] ro T nx (g31 ro a0 a1 T nx) := by
 refine GOk.of_body Tryz.func31 rfl Tryz.ntmps31 (by kernel_rfl) rfl fun r T' n' h1 w0 base ρ0 its hS hP => ?_
 have X : CtxW envE ρ0 ro r T' n' := trivial
 unfold g31 at h1
 refine sr ?_
 refine LV.alloc hS h1 rfl Vdf.zr29 rfl rfl rfl fun x4_1 T1 n1 h2 ρ its hS hdr => ?_
 refine dn ?_
 refine CV.seq ?_
 refine CV.block ?_
 refine cl3 X 0 1 4 [] hS h2 ⟨rfl, rfl, rfl, trivial⟩ ?_
 intro f1 y0 y1 y4 T2 n2 ρ its hS h3
 unfold g31_b1 at h3
 clear h1 h2
 refine CV.seq ?_
 refine sr ?_
 refine mv ?_
 refine vy (V.lenS h3 rfl Vdf.ls27) fun x6_2 h4 => ?_
 refine vy (V.gt h4 rfl rfl) fun x7_3 h5 => ?_
 refine mv ?_
 refine ls4 X 0 1 4 16 [] (g31_k2 ro (lpf3 310002 (g31_b1 ro) f1)) 8 ?_ ?_
 ·
  rcases condK_inv h5 with ⟨e, h18⟩ | ⟨e, h18⟩
  ·
   clear h3 h4 h5
   subst e
   refine mv ?_
   refine mv ?_
   refine vy (V.lenS h18 rfl Vdf.ls27) fun x11_11 h19 => ?_
   refine vy (V.sub h19 rfl rfl) fun x12_12 h20 => ?_
   refine vy (V.ia h20 rfl rfl Vdf.el27) fun x13_13 h21 => ?_
   refine vy (V.ld hS h21 rfl Vdf.one69) fun x14_14 h22 => ?_
   refine vy (V.eq h22 rfl rfl) fun x15_15 h23 => ?_
   refine pu ?_
   exact la4 hS h23 ⟨rfl, rfl, rfl, rfl, trivial⟩
  ·
   clear h3 h4 h5
   subst e
   refine sk ?_
   refine sk ?_
   refine sk ?_
   refine sk ?_
   refine sk ?_
   refine sk ?_
   refine sk ?_
   refine pu ?_
   exact la4 hS h18 ⟨rfl, rfl, rfl, rfl, trivial⟩
 ·
  intro y0 y1 y4 y16 T3 n3 ρ its hS h6
  unfold g31_k2 at h6
  clear h3 h4 h5
  refine dn ?_
  refine CV.cond h6 rfl (fun e h7 => ?_) (fun e h7 => ?_)
  ·
   clear h6
   subst e
   refine CV.skip ?_
   refine PV.thenN ?_
   refine CV.block ?_
   refine CV.region ?_
   refine mv ?_
   refine mv ?_
   refine vy (V.lenS h7 rfl Vdf.ls27) fun x19_4 h8 => ?_
   refine vy (V.sub h8 rfl rfl) fun x20_5 h9 => ?_
   refine vy (V.cutHi hS h9 rfl rfl Vdf.el27) fun x21_6 h10 => ?_
   refine as_ ?_
   refine LV.done ?_
   refine PV.blockN ?_
   exact pb3 hS h10 ⟨rfl, rfl, rfl, trivial⟩
  ·
   clear h6
   subst e
   refine CV.exit ?_
   refine PV.thenE ?_
   refine PV.thenE ?_
   refine PV.blockE ?_
   refine PV.thenN ?_
   refine sr ?_
   refine mv ?_
   refine mv ?_
   refine ls3 X 1 4 27 [] (g31_k3 ro) 4 ?_ ?_
   ·
    rcases condK_inv h7 with ⟨e, h15⟩ | ⟨e, h15⟩
    ·
     clear h7
     subst e
     refine mv ?_
     refine vy (V.lenS h15 rfl Vdf.ls27) fun x25_9 h16 => ?_
     refine vy (V.gt h16 rfl rfl) fun x26_10 h17 => ?_
     refine pu ?_
     exact la3 hS h17 ⟨rfl, rfl, rfl, trivial⟩
    ·
     clear h7
     subst e
     refine sk ?_
     refine sk ?_
     refine sk ?_
     refine pu ?_
     exact la3 hS h15 ⟨rfl, rfl, rfl, trivial⟩
   ·
    intro y1 y4 y27 T4 n4 ρ its hS h11
    unfold g31_k3 at h11
    clear h7
    refine mv ?_
    refine vy (V.bld h11 rfl) fun x29_7 h12 => ?_
    refine LV.stA hS h12 rfl rfl rfl Vdf.agg29 rfl rfl rfl fun T5 its h13 hS => ?_
    refine dn ?_
    refine CV.ret ?_
    refine PV.ldA (x := .tmp 4) (t := 29) hS h13 rfl Vdf.agg29 fun x4_8 h14 hVx4_8 => ?_
    cases h14
    exact PV.ret (by simp) Tryz.results31 hS (RS.cell hVx4_8 RS.nil) rfl
noncomputable def g9_b1 (ro : List HT) (lp1 : AV → AV → AV → AV → HT → Nat → R) (y0 y2 y3 y4 : AV) (T2 : HT) (n2 : Nat) : R :=
 gtK Tryz.prog 68 (.tmp 11) (.const (.int .u64 (.ofNat 0))) 90012 y3 (.lit (.int .u64 (.ofNat 0))) fun x12_4 =>
 condK 90013 x12_4
 (
  bin0 Tryz.prog .rem 68 (.tmp 16) (.const (.int .u64 (.ofNat 1000000000))) 90016 y3 (.lit (.int .u64 (.ofNat 1000000000))) fun x17_5 =>
  optK 90017 (convV Tryz.prog 68 69 x17_5) fun x18_6 =>
  bsK 90018 T2 n2 1 69 1 [(0, x18_6)] fun x19_7 T3 n3 =>
  shrK 90020 T3 y4 fun T4 =>
  appEK 90019 T4 ro n3 69 1 4 y4 x19_7 fun x20_8 T5 n5 =>
  bin0 Tryz.prog .quo 68 (.tmp 13) (.const (.int .u64 (.ofNat 1000000000))) 90023 y3 (.lit (.int .u64 (.ofNat 1000000000))) fun x14_9 =>
  lp1 y0 y2 x14_9 x20_8 T5 n5
 )
 (
  ltK Tryz.prog 2 (.tmp 21) (.const (.int .i64 (.ofNat 0))) 90026 y0 (.lit (.int .i64 (.ofNat 0))) fun x22_10 =>
  callK (g31 ro x22_10 y4 T2 n2) fun x24_11 T6 n6 =>
  stAK 90029 T6 y2 x24_11 2 fun T7 =>
  ldAK 90030 T7 ro y2 2 fun x2_12 =>
  .ok (.val x2_12) T7 n6
 )
noncomputable def g9 (ro : List HT) (a0 : AV) (T : HT) (nx : Nat) : R :=
 newK T nx (.obj [.lit (.bool false), .lit (.slice none 0 0)] 29) fun x2_1 T1 n1 =>
 optK 90003 (convV Tryz.prog 2 68 a0) fun x6_2 =>
 ltK Tryz.prog 2 (.tmp 7) (.const (.int .i64 (.ofNat 0))) 90006 a0 (.lit (.int .i64 (.ofNat 0))) fun x8_3 =>
 condK 90007 x8_3
 (
  .bad 90008
 )
 (
  lpf4 90010 (g9_b1 ro) 100000 a0 x2_1 x6_2 (.lit (.slice none 0 0)) T1 n1
 )
theorem g9_ok (ro : List HT) (a0 : AV) (T : HT) (nx : Nat) : GOk Tryz.prog envE 9 [a0] ro T nx (g9 ro a0 T nx) := by
 refine GOk.of_body Tryz.func9 rfl Tryz.ntmps9 (by kernel_rfl) rfl fun r T' n' h1 w0 base ρ0 its hS hP => ?_
 have X : CtxW envE ρ0 ro r T' n' := trivial
 unfold g9 at h1
 refine sr ?_
 refine LV.alloc hS h1 rfl Vdf.zr29 rfl rfl rfl fun x2_1 T1 n1 h2 ρ its hS hdr => ?_
 refine dn ?_
 refine sr ?_
 refine mv ?_
 refine vy (V.conv h2 rfl) fun x6_2 h3 => ?_
 refine as_ ?_
 refine dn ?_
 refine CV.seq ?_
 refine sr ?_
 refine mv ?_
 refine vy (V.lt h3 rfl rfl) fun x8_3 h4 => ?_
 refine dn ?_
 refine CV.cond h4 rfl (fun e h5 => ?_) (fun e h5 => ?_)
 ·
  clear h1 h2 h3 h4
  subst e
  cases h5
 ·
  clear h1 h2 h3 h4
  subst e
  refine CV.skip ?_
  refine PV.thenN ?_
  refine sr ?_
  refine as_ ?_
  refine dn ?_
  refine CV.seq ?_
  refine CV.block ?_
  refine cl4 X 0 2 3 4 [] hS h5 ⟨rfl, rfl, rfl, rfl, trivial⟩ ?_
  intro f1 y0 y2 y3 y4 T2 n2 ρ its hS h6
  unfold g9_b1 at h6
  clear h5
  refine CV.seq ?_
  refine sr ?_
  refine mv ?_
  refine vy (V.gt h6 rfl rfl) fun x12_4 h7 => ?_
  refine dn ?_
  refine CV.cond h7 rfl (fun e h8 => ?_) (fun e h8 => ?_)
  ·
   clear h6 h7
   subst e
   refine CV.skip ?_
   refine PV.thenN ?_
   refine CV.seq ?_
   refine CV.block ?_
   refine CV.region ?_
   refine mv ?_
   refine mv ?_
   refine vy (V.bin0 h8 rfl rfl) fun x17_5 h9 => ?_
   refine vy (V.conv h9 rfl) fun x18_6 h10 => ?_
   refine LV.bslice hS h10 rfl rfl Vdf.el27 rfl rfl rfl rfl fun x19_7 T3 n3 h11 ρ its hS hdr => ?_
   obtain ⟨T4, its1, h12, hS, hW⟩ := shrK_inv hS h11
   refine LV.world hW ?_
   refine LV.appE hS h12 rfl rfl rfl rfl Vdf.el27 rfl rfl rfl fun x20_8 T5 n5 h13 ρ its hS => ?_
   refine as_ ?_
   refine LV.done ?_
   refine PV.blockN ?_
   refine PV.thenN ?_
   refine CV.region ?_
   refine mv ?_
   refine vy (V.bin0 h13 rfl rfl) fun x14_9 h14 => ?_
   refine as_ ?_
   refine LV.done ?_
   exact pb4 hS h14 ⟨rfl, rfl, rfl, rfl, trivial⟩
  ·
   clear h6 h7
   subst e
   refine CV.exit ?_
   refine PV.thenE ?_
   refine PV.thenE ?_
   refine PV.blockE ?_
   refine PV.thenN ?_
   refine sr ?_
   refine mv ?_
   refine vy (V.lt h8 rfl rfl) fun x22_10 h15 => ?_
   refine mv ?_
   refine LV.call hS h15 (g31_ok _ _ _ _ _ ) hP rfl rfl rfl rfl fun x24_11 T6 n6 h16 ρ its hS => ?_
   refine LV.stA hS h16 rfl rfl rfl Vdf.agg29 rfl rfl rfl fun T7 its h17 hS => ?_
   refine dn ?_
   refine CV.ret ?_
   refine PV.ldA (x := .tmp 2) (t := 29) hS h17 rfl Vdf.agg29 fun x2_12 h18 hVx2_12 => ?_
   cases h18
   exact PV.ret (by simp) Tryz.results9 hS (RS.cell hVx2_12 RS.nil) rfl
noncomputable def g52 (ro : List HT) (a0 : AV) (T : HT) (nx : Nat) : R :=
 fldK 520003 T ro a0 0 fun x6_1 =>
 lenSK 520004 x6_1 fun x7_2 =>
 geK Tryz.prog 3 (.tmp 7) (.const (.int .i64 (.ofNat 65536))) 520005 x7_2 (.lit (.int .i64 (.ofNat 65536))) fun x8_3 =>
 .ok (.val x8_3) T nx
theorem g52_ok (ro : List HT) (a0 : AV) (T : HT) (nx : Nat) : GOk Tryz.prog envE 52 [a0] ro T nx (g52 ro a0 T nx) := by
 refine GOk.of_body Tryz.func52 rfl Tryz.ntmps52 (by kernel_rfl) rfl fun r T' n' h1 w0 base ρ0 its hS hP => ?_
 have X : CtxW envE ρ0 ro r T' n' := trivial
 unfold g52 at h1
 refine sr ?_
 refine as_ ?_
 refine dn ?_
 refine sr ?_
 refine mv ?_
 refine fl hS h1 Vdf.fo81_0 Vdf.one79 fun x6_1 h2 => ?_
 refine vy (V.lenS h2 rfl Vdf.ls79) fun x7_2 h3 => ?_
 refine vy (V.ge h3 rfl rfl) fun x8_3 h4 => ?_
 refine as_ ?_
 refine dn ?_
 refine CV.ret ?_
 cases h4
 exact PV.ret (by simp) Tryz.results52 hS (RS.tmp rfl RS.nil) rfl
noncomputable def g53_b1 (ro : List HT) (lp1 : AV → AV → AV → AV → HT → Nat → R) (y0 y6 y7 y8 : AV) (T1 : HT) (n1 : Nat) : R :=
 ltK Tryz.prog 3 (.tmp 8) (.tmp 7) 530005 y8 y7 fun x9_2 =>
 condK 530006 x9_2
 (
  iaK 530007 y6 y8 1 fun x10_3 =>
  ldK 530008 T1 ro x10_3 fun x11_4 =>
  ncK 530012 y0 fun x14_5 =>
  faK 530013 x14_5 0 fun x15_6 =>
  ldK 530014 T1 ro x15_6 fun x16_7 =>
  lenTK 530017 x11_4 fun x19_8 =>
  ncK 530019 y0 fun x21_9 =>
  faK 530020 x21_9 0 fun x22_10 =>
  ldK 530021 T1 ro x22_10 fun x23_11 =>
  lenSK 530022 x23_11 fun x24_12 =>
  subK Tryz.prog 3 (.const (.int .i64 (.ofNat 65536))) (.tmp 24) 530023 (.lit (.int .i64 (.ofNat 65536))) x24_12 fun x25_13 =>
  optK 530024 (mmV x19_8 x25_13 false) fun x26_14 =>
  sliceF 530025 x11_4 none (some x26_14) fun x27_15 =>
  shrK 530027 T1 x16_7 fun T2 =>
  appTK 530026 T2 n1 5 x16_7 x27_15 fun x28_16 T3 n3 =>
  ncK 530028 y0 fun x29_17 =>
  faK 530029 x29_17 0 fun x30_18 =>
  stK 530030 T3 x30_18 x28_16 fun T4 =>
  addK Tryz.prog 3 (.tmp 8) (.const (.int .i64 (.ofNat 1))) 530031 y8 (.lit (.int .i64 (.ofNat 1))) fun x31_19 =>
  lp1 y0 y6 y7 x31_19 T4 n3
 )
 (
  .ok (.val (.tup [])) T1 n1
 )
noncomputable def g53 (ro : List HT) (a0 a1 : AV) (T : HT) (nx : Nat) : R :=
 lenSK 530002 a1 fun x7_1 =>
 lpf4 530004 (g53_b1 ro) 100000 a0 a1 x7_1 (.lit (.int .i64 (.ofNat 0))) T nx
theorem g53_ok (ro : List HT) (a0 a1 : AV) (T : HT) (nx : Nat) : GOk Tryz.prog envE 53 [a0, a1] ro T nx (g53 ro a0 a1 T nx) := by
 refine GOk.of_body Tryz.func53 rfl Tryz.ntmps53 (by kernel_rfl) rfl fun r T' n' h1 w0 base ρ0 its hS hP => ?_
 have X : CtxW envE ρ0 ro r T' n' := trivial
 unfold g53 at h1
 refine sr ?_
 refine mv ?_
 refine vy (V.lenS h1 rfl Vdf.ls54) fun x7_1 h2 => ?_
 refine mv ?_
 refine dn ?_
 refine CV.block ?_
 refine cl4 X 0 6 7 8 [] hS h2 ⟨rfl, rfl, rfl, rfl, trivial⟩ ?_
 intro f1 y0 y6 y7 y8 T1 n1 ρ its hS h3
 unfold g53_b1 at h3
 clear h1 h2
 refine sr ?_
 refine vy (V.lt h3 rfl rfl) fun x9_2 h4 => ?_
 refine dn ?_
 refine CV.seq ?_
 refine CV.cond h4 rfl (fun e h5 => ?_) (fun e h5 => ?_)
 ·
  clear h3 h4
  subst e
  refine CV.skip ?_
  refine PV.thenN ?_
  refine CV.seq ?_
  refine CV.block ?_
  refine sr ?_
  refine vy (V.ia h5 rfl rfl Vdf.el54) fun x10_3 h6 => ?_
  refine vy (V.ld hS h6 rfl Vdf.one9) fun x11_4 h7 => ?_
  refine as_ ?_
  refine dn ?_
  refine CV.regionM [(0, .anywhere), (1, .anywhere), (2, .anywhere), (3, .anywhere), (4, .held), (5, .anywhere), (6, .anywhere), (7, .anywhere), (8, .anywhere), (9, .anywhere), (10, .anywhere), (11, .held), (12, .held), (13, .held), (14, .held), (15, .held), (16, .alone), (17, .alone), (18, .alone), (19, .alone)] rfl (fun c a a' w hd hq => PanicOk.root (P := Tryz.prog) (fn := Tryz.f53) (w0 := w0) (base := base) (E := envE) (ro := ro) (r := r) (T' := T') (n' := n') (ρ0 := ρ0) c a a' w hd hq) (by kernel_rfl) ?_
  refine MV.step0 (i := 0) rfl (VAL.move rfl) rfl rfl rfl ?_
  refine MV.step0 (i := 1) rfl (VAL.move rfl) rfl rfl rfl ?_
  refine MV.lift0 (i := 2) rfl (V.nc h7 rfl) rfl rfl rfl fun x14_5 h8 => ?_
  refine MV.lift0 (i := 3) rfl (V.fa h8 rfl Vdf.fo81_0) rfl rfl rfl fun x15_6 h9 => ?_
  refine MV.lift1 (i := 4) rfl (fun _ z => z) (V.ld hS h9 rfl Vdf.one79) rfl rfl rfl [] (by kernel_rfl) fun x16_7 h10 => ?_
  refine MV.step0 (i := 5) rfl (VAL.move rfl) rfl rfl rfl ?_
  refine MV.step0 (i := 6) rfl (VAL.move rfl) rfl rfl rfl ?_
  refine MV.lift0 (i := 7) rfl (V.lenT h10 rfl Vdf.ls9) rfl rfl rfl fun x19_8 h11 => ?_
  refine MV.step0 (i := 8) rfl (VAL.move rfl) rfl rfl rfl ?_
  refine MV.lift0 (i := 9) rfl (V.nc h11 rfl) rfl rfl rfl fun x21_9 h12 => ?_
  refine MV.lift0 (i := 10) rfl (V.fa h12 rfl Vdf.fo81_0) rfl rfl rfl fun x22_10 h13 => ?_
  refine MV.lift1 (i := 11) rfl (fun _ z => z) (V.ld hS h13 rfl Vdf.one79) rfl rfl rfl [4] (by kernel_rfl) fun x23_11 h14 => ?_
  refine MV.lift1 (i := 12) rfl (fun _ z => z) (V.lenS h14 rfl Vdf.ls79) rfl rfl rfl [4] (by kernel_rfl) fun x24_12 h15 => ?_
  refine MV.lift1 (i := 13) rfl (fun _ z => z) (V.sub h15 rfl rfl) rfl rfl rfl [4] (by kernel_rfl) fun x25_13 h16 => ?_
  refine MV.lift1 (i := 14) rfl (fun _ z => z) (V.min h16 rfl rfl) rfl rfl rfl [4] (by kernel_rfl) fun x26_14 h17 => ?_
  refine MV.lift1 (i := 15) rfl (fun _ z => z) (V.slHi (sliceF_ok h17) rfl rfl Vdf.st9) rfl rfl rfl [4] (by kernel_rfl) fun x27_15 h18 => ?_
  refine MV.force (i := 16) rfl ?_
  obtain ⟨T2, its1, h19, hS, hW⟩ := shrK_inv hS h18
  refine LV.world hW ?_
  refine LV.appT hS h19 rfl rfl rfl rfl Vdf.el79 Vdf.st9 rfl rfl rfl fun x28_16 T3 n3 h20 ρ its hS => ?_
  refine LV.nextM [] (by kernel_rfl) (fun z => absurd rfl z) ?_
  refine MV.force (i := 17) rfl ?_
  refine vy (V.nc h20 rfl) fun x29_17 h21 => ?_
  refine LV.nextM [] (by kernel_rfl) (fun z => absurd rfl z) ?_
  refine MV.force (i := 18) rfl ?_
  refine vy (V.fa h21 rfl Vdf.fo81_0) fun x30_18 h22 => ?_
  refine LV.nextM [] (by kernel_rfl) (fun z => absurd rfl z) ?_
  refine MV.force (i := 19) rfl ?_
  refine LV.st hS h22 rfl rfl rfl Vdf.siz79 rfl rfl fun T4 its h23 hS => ?_
  refine LV.nextM [] (by kernel_rfl) (fun z => absurd rfl z) ?_
  refine MV.done ?_
  refine PV.blockN ?_
  refine PV.thenN ?_
  refine CV.region ?_
  refine vy (V.add h23 rfl rfl) fun x31_19 h24 => ?_
  refine mv ?_
  refine LV.done ?_
  exact pb4 hS h24 ⟨rfl, rfl, rfl, rfl, trivial⟩
 ·
  clear h3 h4
  subst e
  refine CV.exit ?_
  refine PV.thenE ?_
  refine PV.thenE ?_
  refine PV.blockE ?_
  cases h5
  exact PV.ret (by simp) Tryz.results53 hS RS.nil rfl
noncomputable def g54 (ro : List HT) (a0 a1 : AV) (T : HT) (nx : Nat) : R :=
 .bad 540002
theorem g54_ok (ro : List HT) (a0 a1 : AV) (T : HT) (nx : Nat) : GOk Tryz.prog envE 54 [a0, a1] ro T nx (g54 ro a0 a1 T nx) := by
 refine GOk.of_body Tryz.func54 rfl Tryz.ntmps54 (by kernel_rfl) rfl fun r T' n' h1 w0 base ρ0 its hS hP => ?_
 have X : CtxW envE ρ0 ro r T' n' := trivial
 unfold g54 at h1
 refine sr ?_
 refine mv ?_
 refine dn ?_
 cases h1
noncomputable def g92_b1 (ro : List HT) (lp1 : AV → AV → AV → HT → Nat → R) (y0 y2 y3 : AV) (T1 : HT) (n1 : Nat) : R :=
 ltK Tryz.prog 3 (.tmp 7) (.tmp 8) 920009 y2 y3 fun x9_3 =>
 condK 920010 x9_3
 (
  iaK 920017 y0 y3 1 fun x20_4 =>
  ldK 920018 T1 ro x20_4 fun x21_5 =>
  iaK 920021 y0 y2 1 fun x24_6 =>
  ldK 920022 T1 ro x24_6 fun x25_7 =>
  iaK 920023 y0 y2 1 fun x26_8 =>
  stK 920024 T1 x26_8 x21_5 fun T2 =>
  iaK 920025 y0 y3 1 fun x27_9 =>
  stK 920026 T2 x27_9 x25_7 fun T3 =>
  addK Tryz.prog 3 (.tmp 10) (.const (.int .i64 (.ofNat 1))) 920028 y2 (.lit (.int .i64 (.ofNat 1))) fun x11_10 =>
  subK Tryz.prog 3 (.tmp 12) (.const (.int .i64 (.ofNat 1))) 920030 y3 (.lit (.int .i64 (.ofNat 1))) fun x13_11 =>
  lp1 y0 x11_10 x13_11 T3 n1
 )
 (
  .ok (.val (.tup [])) T1 n1
 )
noncomputable def g92 (ro : List HT) (a0 : AV) (T : HT) (nx : Nat) : R :=
 lenSK 920002 a0 fun x5_1 =>
 subK Tryz.prog 3 (.tmp 5) (.const (.int .i64 (.ofNat 1))) 920003 x5_1 (.lit (.int .i64 (.ofNat 1))) fun x6_2 =>
 lpf3 920006 (g92_b1 ro) 100000 a0 (.lit (.int .i64 (.ofNat 0))) x6_2 T nx
theorem g92_ok (ro : List HT) (a0 : AV) (T : HT) (nx : Nat) : GOk Tryz.prog envE 92 [a0] ro T nx (g92 ro a0 T nx) := by
 refine GOk.of_body Tryz.func92 rfl Tryz.ntmps92 (by kernel_rfl) rfl fun r T' n' h1 w0 base ρ0 its hS hP => ?_
 have X : CtxW envE ρ0 ro r T' n' := trivial
 unfold g92 at h1
 refine sr ?_
 refine mv ?_
 refine vy (V.lenS h1 rfl Vdf.ls79) fun x5_1 h2 => ?_
 refine vy (V.sub h2 rfl rfl) fun x6_2 h3 => ?_
 refine as_ ?_
 refine as_ ?_
 refine dn ?_
 refine CV.block ?_
 refine cl3 X 0 2 3 [] hS h3 ⟨rfl, rfl, rfl, trivial⟩ ?_
 intro f1 y0 y2 y3 T1 n1 ρ its hS h4
 unfold g92_b1 at h4
 clear h1 h2 h3
 refine CV.seq ?_
 refine sr ?_
 refine mv ?_
 refine mv ?_
 refine vy (V.lt h4 rfl rfl) fun x9_3 h5 => ?_
 refine dn ?_
 refine CV.cond h5 rfl (fun e h6 => ?_) (fun e h6 => ?_)
 ·
  clear h4 h5
  subst e
  refine CV.skip ?_
  refine PV.thenN ?_
  refine CV.seq ?_
  refine CV.block ?_
  refine CV.regionM [(0, .anywhere), (1, .anywhere), (2, .anywhere), (3, .anywhere), (4, .anywhere), (5, .anywhere), (6, .anywhere), (7, .held), (8, .anywhere), (9, .anywhere), (10, .anywhere), (11, .held), (12, .held), (13, .alone), (14, .alone), (15, .alone)] rfl (fun c a a' w hd hq => PanicOk.root (P := Tryz.prog) (fn := Tryz.f92) (w0 := w0) (base := base) (E := envE) (ro := ro) (r := r) (T' := T') (n' := n') (ρ0 := ρ0) c a a' w hd hq) (by kernel_rfl) ?_
  refine MV.step0 (i := 0) rfl (VAL.move rfl) rfl rfl rfl ?_
  refine MV.step0 (i := 1) rfl (VAL.move rfl) rfl rfl rfl ?_
  refine MV.step0 (i := 2) rfl (VAL.move rfl) rfl rfl rfl ?_
  refine MV.step0 (i := 3) rfl (VAL.move rfl) rfl rfl rfl ?_
  refine MV.step0 (i := 4) rfl (VAL.move rfl) rfl rfl rfl ?_
  refine MV.step0 (i := 5) rfl (VAL.move rfl) rfl rfl rfl ?_
  refine MV.lift0 (i := 6) rfl (V.ia h6 rfl rfl Vdf.el79) rfl rfl rfl fun x20_4 h7 => ?_
  refine MV.lift1 (i := 7) rfl (fun _ z => z) (V.ld hS h7 rfl Vdf.one5) rfl rfl rfl [] (by kernel_rfl) fun x21_5 h8 => ?_
  refine MV.step0 (i := 8) rfl (VAL.move rfl) rfl rfl rfl ?_
  refine MV.step0 (i := 9) rfl (VAL.move rfl) rfl rfl rfl ?_
  refine MV.lift0 (i := 10) rfl (V.ia h8 rfl rfl Vdf.el79) rfl rfl rfl fun x24_6 h9 => ?_
  refine MV.lift1 (i := 11) rfl (fun _ z => z) (V.ld hS h9 rfl Vdf.one5) rfl rfl rfl [7] (by kernel_rfl) fun x25_7 h10 => ?_
  refine MV.lift1 (i := 12) rfl (fun _ z => z) (V.ia h10 rfl rfl Vdf.el79) rfl rfl rfl [] (by kernel_rfl) fun x26_8 h11 => ?_
  refine MV.force (i := 13) rfl ?_
  refine LV.st hS h11 rfl rfl rfl Vdf.siz5 rfl rfl fun T2 its h12 hS => ?_
  refine LV.nextM [] (by kernel_rfl) (fun z => absurd rfl z) ?_
  refine MV.force (i := 14) rfl ?_
  refine vy (V.ia h12 rfl rfl Vdf.el79) fun x27_9 h13 => ?_
  refine LV.nextM [] (by kernel_rfl) (fun z => absurd rfl z) ?_
  refine MV.force (i := 15) rfl ?_
  refine LV.st hS h13 rfl rfl rfl Vdf.siz5 rfl rfl fun T3 its h14 hS => ?_
  refine LV.nextM [] (by kernel_rfl) (fun z => absurd rfl z) ?_
  refine MV.done ?_
  refine PV.blockN ?_
  refine PV.thenN ?_
  refine CV.region ?_
  refine mv ?_
  refine vy (V.add h14 rfl rfl) fun x11_10 h15 => ?_
  refine mv ?_
  refine vy (V.sub h15 rfl rfl) fun x13_11 h16 => ?_
  refine as_ ?_
  refine as_ ?_
  refine LV.done ?_
  exact pb3 hS h16 ⟨rfl, rfl, rfl, trivial⟩
 ·
  clear h4 h5
  subst e
  refine CV.exit ?_
  refine PV.thenE ?_
  refine PV.thenE ?_
  refine PV.blockE ?_
  cases h6
  exact PV.ret (by simp) Tryz.results92 hS RS.nil rfl
noncomputable def g55_k3 (ro : List HT) (lp1 : AV → AV → AV → AV → AV → AV → HT → Nat → R) (lp2 : AV → AV → AV → AV → AV → AV → AV → AV → AV → HT → Nat → R) (y1 y2 y3 y4 y5 y6 y12 y13 y14 y32 : AV) (T4 : HT) (n4 : Nat) : R :=
 condK 550027 y32
 (
  bin0 Tryz.prog .rem 69 (.tmp 36) (.const (.int .u32 (.ofNat 10))) 550030 y5 (.lit (.int .u32 (.ofNat 10))) fun x37_13 =>
  bin0 Tryz.prog .add 69 (.const (.int .u32 (.ofNat 48))) (.tmp 37) 550031 (.lit (.int .u32 (.ofNat 48))) x37_13 fun x38_14 =>
  optK 550032 (convV Tryz.prog 69 5 x38_14) fun x39_15 =>
  bsK 550033 T4 n4 1 5 1 [(0, x39_15)] fun x40_16 T5 n5 =>
  shrK 550035 T5 y3 fun T6 =>
  appEK 550034 T6 ro n5 5 1 1 y3 x40_16 fun x41_17 T7 n7 =>
  bin0 Tryz.prog .quo 69 (.tmp 42) (.const (.int .u32 (.ofNat 10))) 550038 y5 (.lit (.int .u32 (.ofNat 10))) fun x43_18 =>
  addK Tryz.prog 3 (.tmp 33) (.const (.int .i64 (.ofNat 1))) 550041 y6 (.lit (.int .i64 (.ofNat 1))) fun x34_19 =>
  lp2 y1 y2 x41_17 y4 x43_18 x34_19 y12 y13 y14 T7 n7
 )
 (
  addK Tryz.prog 3 (.tmp 14) (.const (.int .i64 (.ofNat 1))) 550043 y14 (.lit (.int .i64 (.ofNat 1))) fun x44_20 =>
  lp1 y1 y2 y3 y12 y13 x44_20 T4 n4
 )
noncomputable def g55_k4 (ro : List HT) (lp1 : AV → AV → AV → AV → AV → AV → HT → Nat → R) (lp2 : AV → AV → AV → AV → AV → AV → AV → AV → AV → HT → Nat → R) (y1 y2 y3 y4 y5 y6 y12 y13 y14 y31 : AV) (T8 : HT) (n8 : Nat) : R :=
 g55_k3 ro lp1 lp2 y1 y2 y3 y4 y5 y6 y12 y13 y14 y31 T8 n8
noncomputable def g55_b2 (ro : List HT) (lp1 : AV → AV → AV → AV → AV → AV → HT → Nat → R) (lp2 : AV → AV → AV → AV → AV → AV → AV → AV → AV → HT → Nat → R) (y1 y2 y3 y4 y5 y6 y12 y13 y14 : AV) (T3 : HT) (n3 : Nat) : R :=
 ltK Tryz.prog 3 (.tmp 19) (.const (.int .i64 (.ofNat 9))) 550025 y6 (.lit (.int .i64 (.ofNat 9))) fun x20_12 =>
 condK 550045 x20_12
 (
  faK 550047 y1 1 fun x23_21 =>
  ldK 550048 T3 ro x23_21 fun x24_22 =>
  lenSK 550049 x24_22 fun x25_23 =>
  subK Tryz.prog 3 (.tmp 25) (.const (.int .i64 (.ofNat 1))) 550050 x25_23 (.lit (.int .i64 (.ofNat 1))) fun x26_24 =>
  ltK Tryz.prog 3 (.tmp 22) (.tmp 26) 550051 y4 x26_24 fun x27_25 =>
  condK 550054 x27_25
  (
   g55_k4 ro lp1 lp2 y1 y2 y3 y4 y5 y6 y12 y13 y14 (.lit (.bool true)) T3 n3
  )
  (
   gtK Tryz.prog 69 (.tmp 29) (.const (.int .u32 (.ofNat 0))) 550057 y5 (.lit (.int .u32 (.ofNat 0))) fun x30_26 =>
   g55_k4 ro lp1 lp2 y1 y2 y3 y4 y5 y6 y12 y13 y14 x30_26 T3 n3
  )
 )
 (
  g55_k3 ro lp1 lp2 y1 y2 y3 y4 y5 y6 y12 y13 y14 (.lit (.bool false)) T3 n3
 )
noncomputable def g55_b1 (ro : List HT) (lp1 : AV → AV → AV → AV → AV → AV → HT → Nat → R) (y1 y2 y3 y12 y13 y14 : AV) (T2 : HT) (n2 : Nat) : R :=
 ltK Tryz.prog 3 (.tmp 14) (.tmp 13) 550015 y14 y13 fun x15_9 =>
 condK 550016 x15_9
 (
  iaK 550018 y12 y14 1 fun x17_10 =>
  ldK 550019 T2 ro x17_10 fun x18_11 =>
  lpf9 550023 (g55_b2 ro lp1) 100000 y1 y2 y3 y14 x18_11 (.lit (.int .i64 (.ofNat 0))) y12 y13 y14 T2 n2
 )
 (
  faK 550060 y1 0 fun x45_27 =>
  ldK 550061 T2 ro x45_27 fun x46_28 =>
  condK 550062 x46_28
  (
   .bad 550063
  )
  (
   callK (g92 ro y3 T2 n2) fun x51_29 T9 n9 =>
   strBK 550067 T9 5 y3 fun x53_30 =>
   .ok (.val x53_30) T9 n9
  )
 )
noncomputable def g55 (ro : List HT) (a0 : AV) (T : HT) (nx : Nat) : R :=
 boxK 550001 T nx a0 29 fun x1_1 T1 n1 =>
 faK 550003 x1_1 1 fun x7_2 =>
 ldK 550004 T1 ro x7_2 fun x8_3 =>
 lenSK 550005 x8_3 fun x9_4 =>
 eqK Tryz.prog 3 (.tmp 9) (.const (.int .i64 (.ofNat 0))) 550006 x9_4 (.lit (.int .i64 (.ofNat 0))) fun x10_5 =>
 condK 550007 x10_5
 (
  .bad 550008
 )
 (
  faK 550010 x1_1 1 fun x11_6 =>
  ldK 550011 T1 ro x11_6 fun x12_7 =>
  lenSK 550012 x12_7 fun x13_8 =>
  lpf6 550014 (g55_b1 ro) 100000 x1_1 (.lit (.string ⟨⟨[]⟩⟩)) (.lit (.slice none 0 0)) x12_7 x13_8 (.lit (.int .i64 (.ofNat 0))) T1 n1
 )
theorem g55_ok (ro : List HT) (a0 : AV) (T : HT) (nx : Nat) : GOk Tryz.prog envE 55 [a0] ro T nx (g55 ro a0 T nx) := by
 refine GOk.of_body Tryz.func55 rfl Tryz.ntmps55 (by kernel_rfl) rfl fun r T' n' h1 w0 base ρ0 its hS hP => ?_
 have X : CtxW envE ρ0 ro r T' n' := trivial
 unfold g55 at h1
 refine sr ?_
 refine LV.box hS h1 rfl rfl rfl rfl rfl fun x1_1 T1 n1 h2 ρ its hS hdr => ?_
 refine as_ ?_
 refine dn ?_
 refine CV.seq ?_
 refine sr ?_
 refine vy (V.fa h2 rfl Vdf.fo29_1) fun x7_2 h3 => ?_
 refine vy (V.ld hS h3 rfl Vdf.one27) fun x8_3 h4 => ?_
 refine vy (V.lenS h4 rfl Vdf.ls27) fun x9_4 h5 => ?_
 refine vy (V.eq h5 rfl rfl) fun x10_5 h6 => ?_
 refine dn ?_
 refine CV.cond h6 rfl (fun e h7 => ?_) (fun e h7 => ?_)
 ·
  clear h1 h2 h3 h4 h5 h6
  subst e
  cases h7
 ·
  clear h1 h2 h3 h4 h5 h6
  subst e
  refine CV.skip ?_
  refine PV.thenN ?_
  refine sr ?_
  refine as_ ?_
  refine dn ?_
  refine CV.seq ?_
  refine sr ?_
  refine vy (V.fa h7 rfl Vdf.fo29_1) fun x11_6 h8 => ?_
  refine vy (V.ld hS h8 rfl Vdf.one27) fun x12_7 h9 => ?_
  refine vy (V.lenS h9 rfl Vdf.ls27) fun x13_8 h10 => ?_
  refine mv ?_
  refine dn ?_
  refine CV.block ?_
  refine cl6 X 1 2 3 12 13 14 [] hS h10 ⟨rfl, rfl, rfl, rfl, rfl, rfl, trivial⟩ ?_
  intro f1 y1 y2 y3 y12 y13 y14 T2 n2 ρ its hS h11
  unfold g55_b1 at h11
  clear h7 h8 h9 h10
  refine sr ?_
  refine vy (V.lt h11 rfl rfl) fun x15_9 h12 => ?_
  refine dn ?_
  refine CV.seq ?_
  refine CV.cond h12 rfl (fun e h13 => ?_) (fun e h13 => ?_)
  ·
   clear h11 h12
   subst e
   refine CV.skip ?_
   refine PV.thenN ?_
   refine CV.seq ?_
   refine CV.block ?_
   refine sr ?_
   refine mv ?_
   refine vy (V.ia h13 rfl rfl Vdf.el27) fun x17_10 h14 => ?_
   refine vy (V.ld hS h14 rfl Vdf.one69) fun x18_11 h15 => ?_
   refine as_ ?_
   refine as_ ?_
   refine dn ?_
   refine sr ?_
   refine as_ ?_
   refine dn ?_
   refine CV.block ?_
   refine cl9 X 1 2 3 4 5 6 12 13 14 [] hS h15 ⟨rfl, rfl, rfl, rfl, rfl, rfl, rfl, rfl, rfl, trivial⟩ ?_
   intro f2 y1 y2 y3 y4 y5 y6 y12 y13 y14 T3 n3 ρ its hS h16
   unfold g55_b2 at h16
   clear h13 h14 h15
   refine CV.seq ?_
   refine sr ?_
   refine mv ?_
   refine vy (V.lt h16 rfl rfl) fun x20_12 h17 => ?_
   refine mv ?_
   refine ls10 X 1 2 3 4 5 6 12 13 14 32 [] (g55_k3 ro (lpf6 550014 (g55_b1 ro) f1) (lpf9 550023 (g55_b2 ro (lpf6 550014 (g55_b1 ro) f1)) f2)) 11 ?_ ?_
   ·
    rcases condK_inv h17 with ⟨e, h29⟩ | ⟨e, h29⟩
    ·
     clear h16 h17
     subst e
     refine mv ?_
     refine vy (V.fa h29 rfl Vdf.fo29_1) fun x23_21 h30 => ?_
     refine vy (V.ld hS h30 rfl Vdf.one27) fun x24_22 h31 => ?_
     refine vy (V.lenS h31 rfl Vdf.ls27) fun x25_23 h32 => ?_
     refine vy (V.sub h32 rfl rfl) fun x26_24 h33 => ?_
     refine vy (V.lt h33 rfl rfl) fun x27_25 h34 => ?_
     refine mv ?_
     refine ls10 X 1 2 3 4 5 6 12 13 14 31 [(21, (.lit (.bool true)))] (g55_k4 ro (lpf6 550014 (g55_b1 ro) f1) (lpf9 550023 (g55_b2 ro (lpf6 550014 (g55_b1 ro) f1)) f2)) 3 ?_ ?_
     ·
      rcases condK_inv h34 with ⟨e, h36⟩ | ⟨e, h36⟩
      ·
       clear h29 h30 h31 h32 h33 h34
       subst e
       refine sk ?_
       refine sk ?_
       refine pu ?_
       exact la10 hS h36 ⟨rfl, rfl, rfl, rfl, rfl, rfl, rfl, rfl, rfl, rfl, rfl, trivial⟩
      ·
       clear h29 h30 h31 h32 h33 h34
       subst e
       refine mv ?_
       refine vy (V.gt h36 rfl rfl) fun x30_26 h37 => ?_
       refine pu ?_
       exact la10 hS h37 ⟨rfl, rfl, rfl, rfl, rfl, rfl, rfl, rfl, rfl, rfl, rfl, trivial⟩
     ·
      intro y1 y2 y3 y4 y5 y6 y12 y13 y14 y31 T8 n8 ρ its hS h35
      unfold g55_k4 at h35
      clear h29 h30 h31 h32 h33 h34
      refine pu ?_
      exact la10 hS h35 ⟨rfl, rfl, rfl, rfl, rfl, rfl, rfl, rfl, rfl, rfl, trivial⟩
    ·
     clear h16 h17
     subst e
     refine sk ?_
     refine sk ?_
     refine sk ?_
     refine sk ?_
     refine sk ?_
     refine sk ?_
     refine sk ?_
     refine sk ?_
     refine sk ?_
     refine sk ?_
     refine pu ?_
     exact la10 hS h29 ⟨rfl, rfl, rfl, rfl, rfl, rfl, rfl, rfl, rfl, rfl, trivial⟩
   ·
    intro y1 y2 y3 y4 y5 y6 y12 y13 y14 y32 T4 n4 ρ its hS h18
    unfold g55_k3 at h18
    clear h16 h17
    refine dn ?_
    refine CV.cond h18 rfl (fun e h19 => ?_) (fun e h19 => ?_)
    ·
     clear h18
     subst e
     refine CV.skip ?_
     refine PV.thenN ?_
     refine CV.seq ?_
     refine CV.block ?_
     refine sr ?_
     refine mv ?_
     refine mv ?_
     refine vy (V.bin0 h19 rfl rfl) fun x37_13 h20 => ?_
     refine vy (V.bin0 h20 rfl rfl) fun x38_14 h21 => ?_
     refine vy (V.conv h21 rfl) fun x39_15 h22 => ?_
     refine LV.bslice hS h22 rfl rfl Vdf.el79 rfl rfl rfl rfl fun x40_16 T5 n5 h23 ρ its hS hdr => ?_
     obtain ⟨T6, its1, h24, hS, hW⟩ := shrK_inv hS h23
     refine LV.world hW ?_
     refine LV.appE hS h24 rfl rfl rfl rfl Vdf.el79 rfl rfl rfl fun x41_17 T7 n7 h25 ρ its hS => ?_
     refine as_ ?_
     refine dn ?_
     refine CV.region ?_
     refine mv ?_
     refine vy (V.bin0 h25 rfl rfl) fun x43_18 h26 => ?_
     refine as_ ?_
     refine LV.done ?_
     refine PV.blockN ?_
     refine PV.thenN ?_
     refine CV.region ?_
     refine mv ?_
     refine vy (V.add h26 rfl rfl) fun x34_19 h27 => ?_
     refine as_ ?_
     refine LV.done ?_
     exact pb9 hS h27 ⟨rfl, rfl, rfl, rfl, rfl, rfl, rfl, rfl, rfl, trivial⟩
    ·
     clear h18
     subst e
     refine CV.exit ?_
     refine PV.thenE ?_
     refine PV.thenE ?_
     refine PV.blockE ?_
     refine PV.blockN ?_
     refine PV.thenN ?_
     refine CV.region ?_
     refine vy (V.add h19 rfl rfl) fun x44_20 h28 => ?_
     refine mv ?_
     refine LV.done ?_
     exact pb6 hS h28 ⟨rfl, rfl, rfl, rfl, rfl, rfl, trivial⟩
  ·
   clear h11 h12
   subst e
   refine CV.exit ?_
   refine PV.thenE ?_
   refine PV.thenE ?_
   refine PV.blockE ?_
   refine PV.thenN ?_
   refine CV.seq ?_
   refine sr ?_
   refine vy (V.fa h13 rfl Vdf.fo29_0) fun x45_27 h38 => ?_
   refine vy (V.ld hS h38 rfl Vdf.one4) fun x46_28 h39 => ?_
   refine dn ?_
   refine CV.cond h39 rfl (fun e h40 => ?_) (fun e h40 => ?_)
   ·
    clear h13 h38 h39
    subst e
    cases h40
   ·
    clear h13 h38 h39
    subst e
    refine CV.skip ?_
    refine PV.thenN ?_
    refine sr ?_
    refine mv ?_
    refine LV.call hS h40 (g92_ok _ _ _ _ ) hP rfl rfl rfl rfl fun x51_29 T9 n9 h41 ρ its hS => ?_
    refine dn ?_
    refine sr ?_
    refine mv ?_
    refine vy (V.strB hS h41 rfl Vdf.slt79 Vdf.u8t5 Vdf.st9) fun x53_30 h42 => ?_
    refine as_ ?_
    refine dn ?_
    refine CV.ret ?_
    cases h42
    exact PV.ret (by simp) Tryz.results55 hS (RS.tmp rfl RS.nil) rfl
noncomputable def g56_k3 (ro : List HT) (lp1 : AV → AV → AV → AV → AV → HT → Nat → R) (y0 y2 y3 y5 y8 y9 y48 : AV) (T4 : HT) (n4 : Nat) : R :=
 condK 560036 y48
 (
  .bad 560037
 )
 (
  bsK 560040 T4 n4 1 5 1 [(0, y5)] fun x17_9 T5 n5 =>
  shrK 560042 T5 y3 fun T6 =>
  appEK 560041 T6 ro n5 5 1 1 y3 x17_9 fun x18_10 T7 n7 =>
  addK Tryz.prog 3 (.tmp 9) (.const (.int .i64 (.ofNat 1))) 560044 y9 (.lit (.int .i64 (.ofNat 1))) fun x58_11 =>
  lp1 y0 y2 x18_10 y8 x58_11 T7 n7
 )
noncomputable def g56_k2 (ro : List HT) (lp1 : AV → AV → AV → AV → AV → HT → Nat → R) (y0 y2 y3 y5 y8 y9 y37 : AV) (T3 : HT) (n3 : Nat) : R :=
 condK 560030 y37
 (
  .bad 560031
 )
 (
  ltK Tryz.prog 5 (.tmp 43) (.const (.int .u8 (.ofNat 32))) 560033 y5 (.lit (.int .u8 (.ofNat 32))) fun x44_8 =>
  condK 560046 x44_8
  (
   g56_k3 ro lp1 y0 y2 y3 y5 y8 y9 (.lit (.bool true)) T3 n3
  )
  (
   eqK Tryz.prog 5 (.tmp 46) (.const (.int .u8 (.ofNat 127))) 560049 y5 (.lit (.int .u8 (.ofNat 127))) fun x47_12 =>
   g56_k3 ro lp1 y0 y2 y3 y5 y8 y9 x47_12 T3 n3
  )
 )
noncomputable def g56_b1 (ro : List HT) (lp1 : AV → AV → AV → AV → AV → HT → Nat → R) (y0 y2 y3 y8 y9 : AV) (T2 : HT) (n2 : Nat) : R :=
 ltK Tryz.prog 3 (.tmp 9) (.tmp 8) 560008 y9 y8 fun x10_3 =>
 condK 560009 x10_3
 (
  ixK 560014 y0 y9 fun x14_4 =>
  eqK Tryz.prog 5 (.tmp 20) (.const (.int .u8 (.ofNat 10))) 560017 x14_4 (.lit (.int .u8 (.ofNat 10))) fun x21_5 =>
  condK 560019 x21_5
  (
   .bad 560020
  )
  (
   eqK Tryz.prog 5 (.tmp 26) (.const (.int .u8 (.ofNat 9))) 560022 x14_4 (.lit (.int .u8 (.ofNat 9))) fun x27_6 =>
   condK 560024 x27_6
   (
    .bad 560025
   )
   (
    eqK Tryz.prog 5 (.tmp 32) (.const (.int .u8 (.ofNat 92))) 560027 x14_4 (.lit (.int .u8 (.ofNat 92))) fun x33_7 =>
    condK 560051 x33_7
    (
     g56_k2 ro lp1 y0 y2 y3 x14_4 y8 y9 (.lit (.bool true)) T2 n2
    )
    (
     eqK Tryz.prog 5 (.tmp 35) (.const (.int .u8 (.ofNat 34))) 560054 x14_4 (.lit (.int .u8 (.ofNat 34))) fun x36_13 =>
     g56_k2 ro lp1 y0 y2 y3 x14_4 y8 y9 x36_13 T2 n2
    )
   )
  )
 )
 (
  bsK 560057 T2 n2 1 5 1 [(0, (.lit (.int .u8 (.ofNat 34))))] fun x60_14 T8 n8 =>
  shrK 560059 T8 y3 fun T9 =>
  appEK 560058 T9 ro n8 5 1 1 y3 x60_14 fun x61_15 T10 n10 =>
  strBK 560060 T10 5 x61_15 fun x62_16 =>
  .ok (.val x62_16) T10 n10
 )
noncomputable def g56 (ro : List HT) (a0 : AV) (T : HT) (nx : Nat) : R :=
 bsK 560002 T nx 1 5 1 [(0, (.lit (.int .u8 (.ofNat 34))))] fun x6_1 T1 n1 =>
 lenTK 560005 a0 fun x8_2 =>
 lpf5 560007 (g56_b1 ro) 100000 a0 (.lit (.string ⟨⟨[]⟩⟩)) x6_1 x8_2 (.lit (.int .i64 (.ofNat 0))) T1 n1
theorem g56_ok (ro : List HT) (a0 : AV) (T : HT) (nx : Nat) : GOk Tryz.prog envE 56 [a0] ro T nx (g56 ro a0 T nx) := by
 refine GOk.of_body Tryz.func56 rfl Tryz.ntmps56 (by kernel_rfl) rfl fun r T' n' h1 w0 base ρ0 its hS hP => ?_
 have X : CtxW envE ρ0 ro r T' n' := trivial
 unfold g56 at h1
 refine sr ?_
 refine as_ ?_
 refine dn ?_
 refine sr ?_
 refine LV.bslice hS h1 rfl rfl Vdf.el79 rfl rfl rfl rfl fun x6_1 T1 n1 h2 ρ its hS hdr => ?_
 refine as_ ?_
 refine dn ?_
 refine CV.seq ?_
 refine sr ?_
 refine mv ?_
 refine vy (V.lenT h2 rfl Vdf.ls9) fun x8_2 h3 => ?_
 refine mv ?_
 refine dn ?_
 refine CV.block ?_
 refine cl5 X 0 2 3 8 9 [] hS h3 ⟨rfl, rfl, rfl, rfl, rfl, trivial⟩ ?_
 intro f1 y0 y2 y3 y8 y9 T2 n2 ρ its hS h4
 unfold g56_b1 at h4
 clear h1 h2 h3
 refine sr ?_
 refine vy (V.lt h4 rfl rfl) fun x10_3 h5 => ?_
 refine dn ?_
 refine CV.seq ?_
 refine CV.cond h5 rfl (fun e h6 => ?_) (fun e h6 => ?_)
 ·
  clear h4 h5
  subst e
  refine CV.skip ?_
  refine PV.thenN ?_
  refine CV.seq ?_
  refine CV.block ?_
  refine sr ?_
  refine mv ?_
  refine as_ ?_
  refine dn ?_
  refine sr ?_
  refine mv ?_
  refine mv ?_
  refine vy (V.ix h6 rfl rfl Vdf.st9) fun x14_4 h7 => ?_
  refine as_ ?_
  refine dn ?_
  refine CV.block ?_
  refine sr ?_
  refine mv ?_
  refine vy (V.eq h7 rfl rfl) fun x21_5 h8 => ?_
  refine as_ ?_
  refine dn ?_
  refine CV.cond h8 rfl (fun e h9 => ?_) (fun e h9 => ?_)
  ·
   clear h6 h7 h8
   subst e
   cases h9
  ·
   clear h6 h7 h8
   subst e
   refine sr ?_
   refine mv ?_
   refine vy (V.eq h9 rfl rfl) fun x27_6 h10 => ?_
   refine as_ ?_
   refine dn ?_
   refine CV.cond h10 rfl (fun e h11 => ?_) (fun e h11 => ?_)
   ·
    clear h9 h10
    subst e
    cases h11
   ·
    clear h9 h10
    subst e
    refine sr ?_
    refine mv ?_
    refine vy (V.eq h11 rfl rfl) fun x33_7 h12 => ?_
    refine mv ?_
    refine ls7 X 0 2 3 5 8 9 37 [] (g56_k2 ro (lpf5 560007 (g56_b1 ro) f1)) 3 ?_ ?_
    ·
     rcases condK_inv h12 with ⟨e, h24⟩ | ⟨e, h24⟩
     ·
      clear h11 h12
      subst e
      refine sk ?_
      refine sk ?_
      refine pu ?_
      exact la7 hS h24 ⟨rfl, rfl, rfl, rfl, rfl, rfl, rfl, trivial⟩
     ·
      clear h11 h12
      subst e
      refine mv ?_
      refine vy (V.eq h24 rfl rfl) fun x36_13 h25 => ?_
      refine pu ?_
      exact la7 hS h25 ⟨rfl, rfl, rfl, rfl, rfl, rfl, rfl, trivial⟩
    ·
     intro y0 y2 y3 y5 y8 y9 y37 T3 n3 ρ its hS h13
     unfold g56_k2 at h13
     clear h11 h12
     refine as_ ?_
     refine dn ?_
     refine CV.cond h13 rfl (fun e h14 => ?_) (fun e h14 => ?_)
     ·
      clear h13
      subst e
      cases h14
     ·
      clear h13
      subst e
      refine sr ?_
      refine mv ?_
      refine vy (V.lt h14 rfl rfl) fun x44_8 h15 => ?_
      refine mv ?_
      refine ls7 X 0 2 3 5 8 9 48 [] (g56_k3 ro (lpf5 560007 (g56_b1 ro) f1)) 3 ?_ ?_
      ·
       rcases condK_inv h15 with ⟨e, h22⟩ | ⟨e, h22⟩
       ·
        clear h14 h15
        subst e
        refine sk ?_
        refine sk ?_
        refine pu ?_
        exact la7 hS h22 ⟨rfl, rfl, rfl, rfl, rfl, rfl, rfl, trivial⟩
       ·
        clear h14 h15
        subst e
        refine mv ?_
        refine vy (V.eq h22 rfl rfl) fun x47_12 h23 => ?_
        refine pu ?_
        exact la7 hS h23 ⟨rfl, rfl, rfl, rfl, rfl, rfl, rfl, trivial⟩
      ·
       intro y0 y2 y3 y5 y8 y9 y48 T4 n4 ρ its hS h16
       unfold g56_k3 at h16
       clear h14 h15
       refine as_ ?_
       refine dn ?_
       refine CV.cond h16 rfl (fun e h17 => ?_) (fun e h17 => ?_)
       ·
        clear h16
        subst e
        cases h17
       ·
        clear h16
        subst e
        refine CV.region ?_
        refine mv ?_
        refine mv ?_
        refine LV.bslice hS h17 rfl rfl Vdf.el79 rfl rfl rfl rfl fun x17_9 T5 n5 h18 ρ its hS hdr => ?_
        obtain ⟨T6, its1, h19, hS, hW⟩ := shrK_inv hS h18
        refine LV.world hW ?_
        refine LV.appE hS h19 rfl rfl rfl rfl Vdf.el79 rfl rfl rfl fun x18_10 T7 n7 h20 ρ its hS => ?_
        refine as_ ?_
        refine LV.done ?_
        refine PV.blockN ?_
        refine PV.blockN ?_
        refine PV.thenN ?_
        refine CV.region ?_
        refine vy (V.add h20 rfl rfl) fun x58_11 h21 => ?_
        refine mv ?_
        refine LV.done ?_
        exact pb5 hS h21 ⟨rfl, rfl, rfl, rfl, rfl, trivial⟩
 ·
  clear h4 h5
  subst e
  refine CV.exit ?_
  refine PV.thenE ?_
  refine PV.thenE ?_
  refine PV.blockE ?_
  refine PV.thenN ?_
  refine sr ?_
  refine mv ?_
  refine LV.bslice hS h6 rfl rfl Vdf.el79 rfl rfl rfl rfl fun x60_14 T8 n8 h26 ρ its hS hdr => ?_
  obtain ⟨T9, its1, h27, hS, hW⟩ := shrK_inv hS h26
  refine LV.world hW ?_
  refine LV.appE hS h27 rfl rfl rfl rfl Vdf.el79 rfl rfl rfl fun x61_15 T10 n10 h28 ρ its hS => ?_
  refine vy (V.strB hS h28 rfl Vdf.slt79 Vdf.u8t5 Vdf.st9) fun x62_16 h29 => ?_
  refine as_ ?_
  refine dn ?_
  refine CV.ret ?_
  cases h29
  exact PV.ret (by simp) Tryz.results56 hS (RS.tmp rfl RS.nil) rfl
noncomputable def g93 (ro : List HT) (a0 : AV) (T : HT) (nx : Nat) : R :=
 ltK Tryz.prog 3 (.tmp 4) (.const (.int .i64 (.ofNat 0))) 930003 a0 (.lit (.int .i64 (.ofNat 0))) fun x5_1 =>
 condK 930005 x5_1
 (
  .ok (.val (.lit (.int .i64 (.negSucc 0)))) T nx
 )
 (
  gtK Tryz.prog 3 (.tmp 7) (.const (.int .i64 (.ofNat 0))) 930008 a0 (.lit (.int .i64 (.ofNat 0))) fun x8_2 =>
  condK 930010 x8_2
  (
   .bad 930011
  )
  (
   .ok (.val (.lit (.int .i64 (.ofNat 0)))) T nx
  )
 )
theorem g93_ok (ro : List HT) (a0 : AV) (T : HT) (nx : Nat) : GOk Tryz.prog envE 93 [a0] ro T nx (g93 ro a0 T nx) := by
 refine GOk.of_body Tryz.func93 rfl Tryz.ntmps93 (by kernel_rfl) rfl fun r T' n' h1 w0 base ρ0 its hS hP => ?_
 have X : CtxW envE ρ0 ro r T' n' := trivial
 unfold g93 at h1
 refine sr ?_
 refine as_ ?_
 refine dn ?_
 refine CV.seq ?_
 refine CV.block ?_
 refine sr ?_
 refine mv ?_
 refine vy (V.lt h1 rfl rfl) fun x5_1 h2 => ?_
 refine as_ ?_
 refine dn ?_
 refine CV.cond h2 rfl (fun e h3 => ?_) (fun e h3 => ?_)
 ·
  clear h1 h2
  subst e
  refine sr ?_
  refine as_ ?_
  refine dn ?_
  refine CV.ret ?_
  refine PV.blockR ?_
  refine PV.thenR ?_
  cases h3
  exact PV.ret (by simp) Tryz.results93 hS (RS.tmp rfl RS.nil) rfl
 ·
  clear h1 h2
  subst e
  refine sr ?_
  refine mv ?_
  refine vy (V.gt h3 rfl rfl) fun x8_2 h4 => ?_
  refine as_ ?_
  refine dn ?_
  refine CV.cond h4 rfl (fun e h5 => ?_) (fun e h5 => ?_)
  ·
   clear h3 h4
   subst e
   cases h5
  ·
   clear h3 h4
   subst e
   refine CV.skip ?_
   refine PV.blockN ?_
   refine PV.thenN ?_
   refine sr ?_
   refine as_ ?_
   refine dn ?_
   refine CV.ret ?_
   cases h5
   exact PV.ret (by simp) Tryz.results93 hS (RS.tmp rfl RS.nil) rfl
noncomputable def g94_b1 (ro : List HT) (lp1 : AV → AV → AV → AV → HT → Nat → R) (y0 y1 y4 y5 : AV) (T1 : HT) (n1 : Nat) : R :=
 geK Tryz.prog 3 (.tmp 19) (.const (.int .i64 (.ofNat 0))) 940015 y5 (.lit (.int .i64 (.ofNat 0))) fun x20_6 =>
 condK 940016 x20_6
 (
  iaK 940019 y0 y5 1 fun x25_7 =>
  ldK 940020 T1 ro x25_7 fun x26_8 =>
  iaK 940023 y1 y5 1 fun x29_9 =>
  ldK 940024 T1 ro x29_9 fun x30_10 =>
  neK Tryz.prog 69 (.tmp 26) (.tmp 30) 940025 x26_8 x30_10 fun x31_11 =>
  condK 940026 x31_11
  (
   iaK 940029 y0 y5 1 fun x34_12 =>
   ldK 940030 T1 ro x34_12 fun x35_13 =>
   optK 940031 (convV Tryz.prog 69 3 x35_13) fun x36_14 =>
   iaK 940034 y1 y5 1 fun x39_15 =>
   ldK 940035 T1 ro x39_15 fun x40_16 =>
   optK 940036 (convV Tryz.prog 69 3 x40_16) fun x41_17 =>
   subK Tryz.prog 3 (.tmp 36) (.tmp 41) 940037 x36_14 x41_17 fun x42_18 =>
   .ok (.val x42_18) T1 n1
  )
  (
   subK Tryz.prog 3 (.tmp 21) (.const (.int .i64 (.ofNat 1))) 940040 y5 (.lit (.int .i64 (.ofNat 1))) fun x22_19 =>
   lp1 y0 y1 y4 x22_19 T1 n1
  )
 )
 (
  .ok (.val (.lit (.int .i64 (.ofNat 0)))) T1 n1
 )
noncomputable def g94 (ro : List HT) (a0 a1 : AV) (T : HT) (nx : Nat) : R :=
 lenSK 940003 a0 fun x7_1 =>
 lenSK 940005 a1 fun x9_2 =>
 neK Tryz.prog 3 (.tmp 7) (.tmp 9) 940006 x7_1 x9_2 fun x10_3 =>
 condK 940007 x10_3
 (
  .bad 940008
 )
 (
  lenSK 940010 a0 fun x17_4 =>
  subK Tryz.prog 3 (.tmp 17) (.const (.int .i64 (.ofNat 1))) 940011 x17_4 (.lit (.int .i64 (.ofNat 1))) fun x18_5 =>
  lpf4 940013 (g94_b1 ro) 100000 a0 a1 (.lit (.int .i64 (.ofNat 0))) x18_5 T nx
 )
theorem g94_ok (ro : List HT) (a0 a1 : AV) (T : HT) (nx : Nat) : GOk Tryz.prog envE 94 [a0, a1] ro T nx (g94 ro a0 a1 T nx) := by
 refine GOk.of_body Tryz.func94 rfl Tryz.ntmps94 (by kernel_rfl) rfl fun r T' n' h1 w0 base ρ0 its hS hP => ?_
 have X : CtxW envE ρ0 ro r T' n' := trivial
 unfold g94 at h1
 refine sr ?_
 refine as_ ?_
 refine dn ?_
 refine CV.seq ?_
 refine sr ?_
 refine mv ?_
 refine vy (V.lenS h1 rfl Vdf.ls27) fun x7_1 h2 => ?_
 refine mv ?_
 refine vy (V.lenS h2 rfl Vdf.ls27) fun x9_2 h3 => ?_
 refine vy (V.ne h3 rfl rfl) fun x10_3 h4 => ?_
 refine dn ?_
 refine CV.cond h4 rfl (fun e h5 => ?_) (fun e h5 => ?_)
 ·
  clear h1 h2 h3 h4
  subst e
  cases h5
 ·
  clear h1 h2 h3 h4
  subst e
  refine CV.skip ?_
  refine PV.thenN ?_
  refine CV.seq ?_
  refine sr ?_
  refine mv ?_
  refine vy (V.lenS h5 rfl Vdf.ls27) fun x17_4 h6 => ?_
  refine vy (V.sub h6 rfl rfl) fun x18_5 h7 => ?_
  refine as_ ?_
  refine dn ?_
  refine CV.block ?_
  refine cl4 X 0 1 4 5 [] hS h7 ⟨rfl, rfl, rfl, rfl, trivial⟩ ?_
  intro f1 y0 y1 y4 y5 T1 n1 ρ its hS h8
  unfold g94_b1 at h8
  clear h5 h6 h7
  refine CV.seq ?_
  refine sr ?_
  refine mv ?_
  refine vy (V.ge h8 rfl rfl) fun x20_6 h9 => ?_
  refine dn ?_
  refine CV.cond h9 rfl (fun e h10 => ?_) (fun e h10 => ?_)
  ·
   clear h8 h9
   subst e
   refine CV.skip ?_
   refine PV.thenN ?_
   refine CV.seq ?_
   refine CV.block ?_
   refine CV.seq ?_
   refine CV.regionM [(0, .anywhere), (1, .anywhere), (2, .anywhere), (3, .held), (4, .anywhere), (5, .anywhere), (6, .anywhere), (7, .held), (8, .held)] rfl (fun c a a' w hd hq => PanicOk.root (P := Tryz.prog) (fn := Tryz.f94) (w0 := w0) (base := base) (E := envE) (ro := ro) (r := r) (T' := T') (n' := n') (ρ0 := ρ0) c a a' w hd hq) (by kernel_rfl) ?_
   refine MV.step0 (i := 0) rfl (VAL.move rfl) rfl rfl rfl ?_
   refine MV.step0 (i := 1) rfl (VAL.move rfl) rfl rfl rfl ?_
   refine MV.lift0 (i := 2) rfl (V.ia h10 rfl rfl Vdf.el27) rfl rfl rfl fun x25_7 h11 => ?_
   refine MV.lift1 (i := 3) rfl (fun _ z => z) (V.ld hS h11 rfl Vdf.one69) rfl rfl rfl [] (by kernel_rfl) fun x26_8 h12 => ?_
   refine MV.step0 (i := 4) rfl (VAL.move rfl) rfl rfl rfl ?_
   refine MV.step0 (i := 5) rfl (VAL.move rfl) rfl rfl rfl ?_
   refine MV.lift0 (i := 6) rfl (V.ia h12 rfl rfl Vdf.el27) rfl rfl rfl fun x29_9 h13 => ?_
   refine MV.lift1 (i := 7) rfl (fun _ z => z) (V.ld hS h13 rfl Vdf.one69) rfl rfl rfl [3] (by kernel_rfl) fun x30_10 h14 => ?_
   refine MV.lift1 (i := 8) rfl (fun _ z => z) (V.ne h14 rfl rfl) rfl rfl rfl [] (by kernel_rfl) fun x31_11 h15 => ?_
   refine mdn ?_
   refine CV.cond h15 rfl (fun e h16 => ?_) (fun e h16 => ?_)
   ·
    clear h10 h11 h12 h13 h14 h15
    subst e
    refine CV.seq ?_
    refine CV.regionM [(0, .anywhere), (1, .anywhere), (2, .anywhere), (3, .held), (4, .held), (5, .anywhere), (6, .anywhere), (7, .anywhere), (8, .held), (9, .held), (10, .held), (11, .held)] rfl (fun c a a' w hd hq => PanicOk.root (P := Tryz.prog) (fn := Tryz.f94) (w0 := w0) (base := base) (E := envE) (ro := ro) (r := r) (T' := T') (n' := n') (ρ0 := ρ0) c a a' w hd hq) (by kernel_rfl) ?_
    refine MV.step0 (i := 0) rfl (VAL.move rfl) rfl rfl rfl ?_
    refine MV.step0 (i := 1) rfl (VAL.move rfl) rfl rfl rfl ?_
    refine MV.lift0 (i := 2) rfl (V.ia h16 rfl rfl Vdf.el27) rfl rfl rfl fun x34_12 h17 => ?_
    refine MV.lift1 (i := 3) rfl (fun _ z => z) (V.ld hS h17 rfl Vdf.one69) rfl rfl rfl [] (by kernel_rfl) fun x35_13 h18 => ?_
    refine MV.lift1 (i := 4) rfl (fun _ z => z) (V.conv h18 rfl) rfl rfl rfl [] (by kernel_rfl) fun x36_14 h19 => ?_
    refine MV.step0 (i := 5) rfl (VAL.move rfl) rfl rfl rfl ?_
    refine MV.step0 (i := 6) rfl (VAL.move rfl) rfl rfl rfl ?_
    refine MV.lift0 (i := 7) rfl (V.ia h19 rfl rfl Vdf.el27) rfl rfl rfl fun x39_15 h20 => ?_
    refine MV.lift1 (i := 8) rfl (fun _ z => z) (V.ld hS h20 rfl Vdf.one69) rfl rfl rfl [4] (by kernel_rfl) fun x40_16 h21 => ?_
    refine MV.lift1 (i := 9) rfl (fun _ z => z) (V.conv h21 rfl) rfl rfl rfl [4] (by kernel_rfl) fun x41_17 h22 => ?_
    refine MV.lift1 (i := 10) rfl (fun _ z => z) (V.sub h22 rfl rfl) rfl rfl rfl [] (by kernel_rfl) fun x42_18 h23 => ?_
    refine MV.step1 (i := 11) rfl (fun _ z => z) (VAL.assign rfl) rfl rfl rfl [] (by kernel_rfl) ?_
    refine mdn ?_
    refine CV.ret ?_
    refine PV.blockR ?_
    refine PV.thenR ?_
    refine PV.thenR ?_
    refine PV.blockR ?_
    refine PV.thenR ?_
    cases h23
    exact PV.ret (by simp) Tryz.results94 hS (RS.tmp rfl RS.nil) rfl
   ·
    clear h10 h11 h12 h13 h14 h15
    subst e
    refine CV.skip ?_
    refine PV.blockN ?_
    refine PV.thenN ?_
    refine CV.region ?_
    refine mv ?_
    refine vy (V.sub h16 rfl rfl) fun x22_19 h24 => ?_
    refine as_ ?_
    refine LV.done ?_
    exact pb4 hS h24 ⟨rfl, rfl, rfl, rfl, trivial⟩
  ·
   clear h8 h9
   subst e
   refine CV.exit ?_
   refine PV.thenE ?_
   refine PV.thenE ?_
   refine PV.blockE ?_
   refine PV.thenN ?_
   refine sr ?_
   refine as_ ?_
   refine dn ?_
   refine CV.ret ?_
   cases h10
   exact PV.ret (by simp) Tryz.results94 hS (RS.tmp rfl RS.nil) rfl
noncomputable def g61_k1 (ro : List HT) (y2 y3 y14 : AV) (T3 : HT) (n3 : Nat) : R :=
 condK 610011 y14
 (
  .bad 610012
 )
 (
  faK 610013 y2 0 fun x16_8 =>
  ldK 610014 T3 ro x16_8 fun x17_9 =>
  faK 610015 y3 0 fun x18_10 =>
  ldK 610016 T3 ro x18_10 fun x19_11 =>
  bin0 Tryz.prog .neq 4 (.tmp 17) (.tmp 19) 610017 x17_9 x19_11 fun x20_12 =>
  condK 610019 x20_12
  (
   .bad 610020
  )
  (
   faK 610021 y2 0 fun x22_13 =>
   ldK 610022 T3 ro x22_13 fun x23_14 =>
   condK 610024 x23_14
   (
    .bad 610025
   )
   (
    faK 610026 y2 1 fun x30_15 =>
    ldK 610027 T3 ro x30_15 fun x31_16 =>
    faK 610028 y3 1 fun x32_17 =>
    ldK 610029 T3 ro x32_17 fun x33_18 =>
    callK (g94 ro x31_16 x33_18 T3 n3) fun x34_19 T4 n4 =>
    callK (g93 ro x34_19 T4 n4) fun x35_20 T5 n5 =>
    .ok (.val x35_20) T5 n5
   )
  )
 )
noncomputable def g61 (ro : List HT) (a0 a1 : AV) (T : HT) (nx : Nat) : R :=
 boxK 610001 T nx a0 29 fun x2_1 T1 n1 =>
 boxK 610002 T1 n1 a1 29 fun x3_2 T2 n2 =>
 faK 610004 x2_1 0 fun x6_3 =>
 ldK 610005 T2 ro x6_3 fun x7_4 =>
 faK 610006 x3_2 0 fun x8_5 =>
 ldK 610007 T2 ro x8_5 fun x9_6 =>
 bin0 Tryz.prog .neq 4 (.tmp 7) (.tmp 9) 610008 x7_4 x9_6 fun x10_7 =>
 condK 610033 x10_7
 (
  faK 610034 x2_1 0 fun x12_21 =>
  ldK 610035 T2 ro x12_21 fun x13_22 =>
  g61_k1 ro x2_1 x3_2 x13_22 T2 n2
 )
 (
  g61_k1 ro x2_1 x3_2 (.lit (.bool false)) T2 n2
 )
theorem g61_ok (ro : List HT) (a0 a1 : AV) (T : HT) (nx : Nat) : GOk Tryz.prog envE 61 [a0, a1] ro T nx (g61 ro a0 a1 T nx) := by
 refine GOk.of_body Tryz.func61 rfl Tryz.ntmps61 (by kernel_rfl) rfl fun r T' n' h1 w0 base ρ0 its hS hP => ?_
 have X : CtxW envE ρ0 ro r T' n' := trivial
 unfold g61 at h1
 refine sr ?_
 refine LV.box hS h1 rfl rfl rfl rfl rfl fun x2_1 T1 n1 h2 ρ its hS hdr => ?_
 refine LV.box hS h2 rfl rfl rfl rfl rfl fun x3_2 T2 n2 h3 ρ its hS hdr => ?_
 refine as_ ?_
 refine dn ?_
 refine CV.seq ?_
 refine CV.block ?_
 refine sr ?_
 refine vy (V.fa h3 rfl Vdf.fo29_0) fun x6_3 h4 => ?_
 refine vy (V.ld hS h4 rfl Vdf.one4) fun x7_4 h5 => ?_
 refine vy (V.fa h5 rfl Vdf.fo29_0) fun x8_5 h6 => ?_
 refine vy (V.ld hS h6 rfl Vdf.one4) fun x9_6 h7 => ?_
 refine vy (V.bin0 h7 rfl rfl) fun x10_7 h8 => ?_
 refine mv ?_
 refine ls3 X 2 3 14 [(4, (.lit (.int .i64 (.ofNat 0))))] (g61_k1 ro) 3 ?_ ?_
 ·
  rcases condK_inv h8 with ⟨e, h26⟩ | ⟨e, h26⟩
  ·
   clear h1 h2 h3 h4 h5 h6 h7 h8
   subst e
   refine vy (V.fa h26 rfl Vdf.fo29_0) fun x12_21 h27 => ?_
   refine vy (V.ld hS h27 rfl Vdf.one4) fun x13_22 h28 => ?_
   refine pu ?_
   exact la3 hS h28 ⟨rfl, rfl, rfl, rfl, trivial⟩
  ·
   clear h1 h2 h3 h4 h5 h6 h7 h8
   subst e
   refine sk ?_
   refine sk ?_
   refine pu ?_
   exact la3 hS h26 ⟨rfl, rfl, rfl, rfl, trivial⟩
 ·
  intro y2 y3 y14 T3 n3 ρ its hS h9
  unfold g61_k1 at h9
  clear h1 h2 h3 h4 h5 h6 h7 h8
  refine as_ ?_
  refine dn ?_
  refine CV.cond h9 rfl (fun e h10 => ?_) (fun e h10 => ?_)
  ·
   clear h9
   subst e
   cases h10
  ·
   clear h9
   subst e
   refine sr ?_
   refine vy (V.fa h10 rfl Vdf.fo29_0) fun x16_8 h11 => ?_
   refine vy (V.ld hS h11 rfl Vdf.one4) fun x17_9 h12 => ?_
   refine vy (V.fa h12 rfl Vdf.fo29_0) fun x18_10 h13 => ?_
   refine vy (V.ld hS h13 rfl Vdf.one4) fun x19_11 h14 => ?_
   refine vy (V.bin0 h14 rfl rfl) fun x20_12 h15 => ?_
   refine as_ ?_
   refine dn ?_
   refine CV.cond h15 rfl (fun e h16 => ?_) (fun e h16 => ?_)
   ·
    clear h10 h11 h12 h13 h14 h15
    subst e
    cases h16
   ·
    clear h10 h11 h12 h13 h14 h15
    subst e
    refine sr ?_
    refine vy (V.fa h16 rfl Vdf.fo29_0) fun x22_13 h17 => ?_
    refine vy (V.ld hS h17 rfl Vdf.one4) fun x23_14 h18 => ?_
    refine as_ ?_
    refine dn ?_
    refine CV.cond h18 rfl (fun e h19 => ?_) (fun e h19 => ?_)
    ·
     clear h16 h17 h18
     subst e
     cases h19
    ·
     clear h16 h17 h18
     subst e
     refine CV.skip ?_
     refine PV.blockN ?_
     refine PV.thenN ?_
     refine sr ?_
     refine vy (V.fa h19 rfl Vdf.fo29_1) fun x30_15 h20 => ?_
     refine vy (V.ld hS h20 rfl Vdf.one27) fun x31_16 h21 => ?_
     refine vy (V.fa h21 rfl Vdf.fo29_1) fun x32_17 h22 => ?_
     refine vy (V.ld hS h22 rfl Vdf.one27) fun x33_18 h23 => ?_
     refine LV.call hS h23 (g94_ok _ _ _ _ _ ) hP rfl rfl rfl rfl fun x34_19 T4 n4 h24 ρ its hS => ?_
     refine LV.call hS h24 (g93_ok _ _ _ _ ) hP rfl rfl rfl rfl fun x35_20 T5 n5 h25 ρ its hS => ?_
     refine as_ ?_
     refine dn ?_
     refine CV.ret ?_
     cases h25
     exact PV.ret (by simp) Tryz.results61 hS (RS.tmp rfl RS.nil) rfl
noncomputable def g57 (ro : List HT) (a0 a1 : AV) (T : HT) (nx : Nat) : R :=
 callK (ifcK 570002 a1 fun tr xr => .bad 570002) fun x9_1 T1 n1 =>
 exK 570004 x9_1 0 fun x10_2 =>
 exK 570005 x9_1 1 fun x11_3 =>
 exK 570006 x9_1 2 fun x12_4 =>
 newK T1 n1 (.obj [.lit (.bool false), .lit (.slice none 0 0)] 29) fun x4_5 T2 n2 =>
 newK T2 n2 (.obj [.lit (.bool false), .lit (.slice none 0 0)] 29) fun x5_6 T3 n3 =>
 newK T3 n3 (.obj [.lit (.bool false), .lit (.slice none 0 0)] 29) fun x6_7 T4 n4 =>
 stAK 570010 T4 x4_5 x10_2 2 fun T5 =>
 stAK 570011 T5 x5_6 x11_3 2 fun T6 =>
 stAK 570012 T6 x6_7 x12_4 2 fun T7 =>
 ldAQK 570014 T7 ro [(x4_5, 0, 2), (x5_6, 0, 2)] x4_5 2 fun x14_8 =>
 ldAQK 570015 T7 ro [(x4_5, 0, 2), (x5_6, 0, 2)] x5_6 2 fun x16_9 =>
 callK (g55 ro x14_8 T7 n4) fun x15_10 T8 n8 =>
 keepK 570017 T7 T8 [(x4_5, 0, 2), (x5_6, 0, 2)] <|
 callK (g55 ro x16_9 T8 n8) fun x17_11 T9 n9 =>
 bsK 570019 T9 n9 4 9 1 [(0, (.lit (.string ⟨⟨[114, 97, 110, 103, 101, 40]⟩⟩))), (1, x15_10), (2, (.lit (.string ⟨⟨[44, 32]⟩⟩))), (3, x17_11)] fun x18_12 T10 n10 =>
 callK (g53 ro a0 x18_12 T10 n10) fun x19_13 T11 n11 =>
 ldAQK 570021 T11 ro [(x6_7, 0, 2)] x6_7 2 fun x20_14 =>
 callK (g9 ro (.lit (.int .i64 (.ofNat 1))) T11 n11) fun x21_15 T12 n12 =>
 keepK 570023 T11 T12 [(x6_7, 0, 2)] <|
 callK (g61 ro x20_14 x21_15 T12 n12) fun x22_16 T13 n13 =>
 neK Tryz.prog 3 (.tmp 22) (.const (.int .i64 (.ofNat 0))) 570025 x22_16 (.lit (.int .i64 (.ofNat 0))) fun x23_17 =>
 condK 570026 x23_17
 (
  .bad 570027
 )
 (
  bsK 570029 T13 n13 1 9 1 [(0, (.lit (.string ⟨⟨[41]⟩⟩)))] fun x30_18 T14 n14 =>
  callK (g53 ro a0 x30_18 T14 n14) fun x31_19 T15 n15 =>
  .ok (.val (.tup [])) T15 n15
 )
theorem g57_ok (ro : List HT) (a0 a1 : AV) (T : HT) (nx : Nat) : GOk Tryz.prog envE 57 [a0, a1] ro T nx (g57 ro a0 a1 T nx) := by
 refine GOk.of_body Tryz.func57 rfl Tryz.ntmps57 (by kernel_rfl) rfl fun r T' n' h1 w0 base ρ0 its hS hP => ?_
 have X : CtxW envE ρ0 ro r T' n' := trivial
 unfold g57 at h1
 refine sr ?_
 refine mv ?_
 refine LV.inv hS h1 (GMk.ifc fun tr xr _ => GMk.bad) hP rfl rfl rfl rfl rfl rfl rfl fun x9_1 T1 n1 h2 ρ its hS => ?_
 refine mv ?_
 refine vy (V.ex h2 rfl) fun x10_2 h3 => ?_
 refine vy (V.ex h3 rfl) fun x11_3 h4 => ?_
 refine vy (V.ex h4 rfl) fun x12_4 h5 => ?_
 refine LV.alloc hS h5 rfl Vdf.zr29 rfl rfl rfl fun x4_5 T2 n2 h6 ρ its hS hdr => ?_
 refine LV.alloc hS h6 rfl Vdf.zr29 rfl rfl rfl fun x5_6 T3 n3 h7 ρ its hS hdr => ?_
 refine LV.alloc hS h7 rfl Vdf.zr29 rfl rfl rfl fun x6_7 T4 n4 h8 ρ its hS hdr => ?_
 refine LV.stA hS h8 rfl rfl rfl Vdf.agg29 rfl rfl rfl fun T5 its h9 hS => ?_
 refine LV.stA hS h9 rfl rfl rfl Vdf.agg29 rfl rfl rfl fun T6 its h10 hS => ?_
 refine LV.stA hS h10 rfl rfl rfl Vdf.agg29 rfl rfl rfl fun T7 its h11 hS => ?_
 refine dn ?_
 refine CV.seq ?_
 refine CV.regionMS hS [(x4_5, 0, 2), (x5_6, 0, 2)] [(0, .anywhere), (1, .held), (3, .held), (2, .alone), (4, .alone), (5, .alone), (6, .alone)] rfl (fun c a a' w hd hq => PanicOk.root (P := Tryz.prog) (fn := Tryz.f57) (w0 := w0) (base := base) (E := envE) (ro := ro) (r := r) (T' := T') (n' := n') (ρ0 := ρ0) c a a' w hd hq) (by kernel_rfl) ?_
 have hK := KeepS.start [(x4_5, 0, 2), (x5_6, 0, 2)] hS
 have hR := hS
 have hP0 := hP
 replace hP := PK.up hR hP
 replace hS := hR.root
 refine MV.step0 (i := 0) rfl (VAL.move rfl) rfl rfl rfl ?_
 refine MV.lift1 (i := 1) rfl hK (V.ldAQ hS h11 rfl Vdf.agg29) rfl rfl rfl [] (by kernel_rfl) fun x14_8 h12 => ?_
 refine MV.lift1 (i := 3) rfl hK (V.ldAQ hS h12 rfl Vdf.agg29) rfl rfl rfl [1] (by kernel_rfl) fun x16_9 h13 => ?_
 refine MV.force (i := 2) rfl ?_
 refine LV.call hS h13 (g55_ok _ _ _ _ ) hP rfl rfl rfl rfl fun x15_10 T8 n8 h14 ρ its hS => ?_
 obtain ⟨hK, h15⟩ := KeepS.step hR hS h14
 refine LV.nextM [3] (by kernel_rfl) (fun _ => hK) ?_
 refine MV.force (i := 4) rfl ?_
 refine LV.call hS h15 (g55_ok _ _ _ _ ) hP rfl rfl rfl rfl fun x17_11 T9 n9 h16 ρ its hS => ?_
 refine LV.nextM [] (by kernel_rfl) (fun z => absurd rfl z) ?_
 refine MV.force (i := 5) rfl ?_
 refine LV.bslice hS h16 rfl rfl Vdf.el54 rfl rfl rfl rfl fun x18_12 T10 n10 h17 ρ its hS hdr => ?_
 refine LV.nextM [] (by kernel_rfl) (fun z => absurd rfl z) ?_
 refine MV.force (i := 6) rfl ?_
 refine LV.call hS h17 (g53_ok _ _ _ _ _ ) hP rfl rfl rfl rfl fun x19_13 T11 n11 h18 ρ its hS => ?_
 refine LV.nextM [] (by kernel_rfl) (fun z => absurd rfl z) ?_
 replace hS := hR.up hS
 replace hP := hP0
 refine mdn ?_
 refine CV.seq ?_
 refine CV.seq ?_
 refine CV.regionMS hS [(x6_7, 0, 2)] [(0, .held), (1, .alone), (2, .alone), (3, .alone)] rfl (fun c a a' w hd hq => PanicOk.root (P := Tryz.prog) (fn := Tryz.f57) (w0 := w0) (base := base) (E := envE) (ro := ro) (r := r) (T' := T') (n' := n') (ρ0 := ρ0) c a a' w hd hq) (by kernel_rfl) ?_
 have hK := KeepS.start [(x6_7, 0, 2)] hS
 have hR := hS
 have hP0 := hP
 replace hP := PK.up hR hP
 replace hS := hR.root
 refine MV.lift1 (i := 0) rfl hK (V.ldAQ hS h18 rfl Vdf.agg29) rfl rfl rfl [] (by kernel_rfl) fun x20_14 h19 => ?_
 refine MV.force (i := 1) rfl ?_
 refine LV.call hS h19 (g9_ok _ _ _ _ ) hP rfl rfl rfl rfl fun x21_15 T12 n12 h20 ρ its hS => ?_
 obtain ⟨hK, h21⟩ := KeepS.step hR hS h20
 refine LV.nextM [0] (by kernel_rfl) (fun _ => hK) ?_
 refine MV.force (i := 2) rfl ?_
 refine LV.call hS h21 (g61_ok _ _ _ _ _ ) hP rfl rfl rfl rfl fun x22_16 T13 n13 h22 ρ its hS => ?_
 refine LV.nextM [] (by kernel_rfl) (fun z => absurd rfl z) ?_
 refine MV.force (i := 3) rfl ?_
 refine vy (V.ne h22 rfl rfl) fun x23_17 h23 => ?_
 refine LV.nextM [] (by kernel_rfl) (fun z => absurd rfl z) ?_
 replace hS := hR.up hS
 replace hP := hP0
 refine mdn ?_
 refine CV.cond h23 rfl (fun e h24 => ?_) (fun e h24 => ?_)
 ·
  clear h1 h2 h3 h4 h5 h6 h7 h8 h9 h10 h11 h12 h13 h14 h15 h16 h17 h18 h19 h20 h21 h22 h23
  subst e
  cases h24
 ·
  clear h1 h2 h3 h4 h5 h6 h7 h8 h9 h10 h11 h12 h13 h14 h15 h16 h17 h18 h19 h20 h21 h22 h23
  subst e
  refine CV.skip ?_
  refine PV.thenN ?_
  refine CV.region ?_
  refine mv ?_
  refine LV.bslice hS h24 rfl rfl Vdf.el54 rfl rfl rfl rfl fun x30_18 T14 n14 h25 ρ its hS hdr => ?_
  refine LV.call hS h25 (g53_ok _ _ _ _ _ ) hP rfl rfl rfl rfl fun x31_19 T15 n15 h26 ρ its hS => ?_
  refine LV.done ?_
  cases h26
  exact PV.ret (by simp) Tryz.results57 hS RS.nil rfl
noncomputable def g33 (ih : FuncId → List HT → List AV → HT → Nat → R) (ro : List HT) (a0 a1 a2 : AV) (T : HT) (nx : Nat) : R :=
 callK (g52 ro a0 T nx) fun x17_1 T1 n1 =>
 condK 330003 x17_1
 (
  .ok (.val (.tup [])) T1 n1
 )
 (
  asK 330005 a1 100 (.tup [.lit (.agg #[]), .lit (.bool false)]) fun x23_2 =>
  exK 330006 x23_2 1 fun x24_3 =>
  exK 330007 x23_2 0 fun x25_4 =>
  condK 330008 x24_3
  (
   newK T1 n1 (.obj [] 100) fun x6_5 T2 n2 =>
   st0K 330010 x6_5 x25_4 <|
   bsK 330012 T2 n2 1 9 1 [(0, (.lit (.string ⟨⟨[78, 111, 110, 101]⟩⟩)))] fun x27_6 T3 n3 =>
   callK (g53 ro a0 x27_6 T3 n3) fun x28_7 T4 n4 =>
   .ok (.val (.tup [])) T4 n4
  )
  (
   asK 330014 a1 123 (.tup [.lit (.bool false), .lit (.bool false)]) fun x29_8 =>
   exK 330015 x29_8 1 fun x30_9 =>
   exK 330016 x29_8 0 fun x31_10 =>
   condK 330017 x30_9
   (
    callK (g54 ro a0 x31_10 T1 n1) fun x34_11 T5 n5 =>
    .ok (.val (.tup [])) T5 n5
   )
   (
    asK 330022 a1 67 (.tup [.lit (.agg #[.bool false, .slice none 0 0]), .lit (.bool false)]) fun x35_12 =>
    exK 330023 x35_12 1 fun x36_13 =>
    exK 330024 x35_12 0 fun x37_14 =>
    condK 330025 x36_13
    (
     newK T1 n1 (.obj [.lit (.bool false), .lit (.slice none 0 0)] 67) fun x8_15 T6 n6 =>
     stAK 330027 T6 x8_15 x37_14 2 fun T7 =>
     faK 330029 x8_15 0 fun x39_16 =>
     ldAK 330030 T7 ro x39_16 2 fun x40_17 =>
     callK (g55 ro x40_17 T7 n6) fun x41_18 T8 n8 =>
     bsK 330032 T8 n8 1 9 1 [(0, x41_18)] fun x42_19 T9 n9 =>
     callK (g53 ro a0 x42_19 T9 n9) fun x43_20 T10 n10 =>
     .ok (.val (.tup [])) T10 n10
    )
    (
     asK 330034 a1 104 (.tup [.lit (.string ⟨#[]⟩), .lit (.bool false)]) fun x44_21 =>
     exK 330035 x44_21 1 fun x45_22 =>
     exK 330036 x44_21 0 fun x46_23 =>
     condK 330037 x45_22
     (
      callK (g56 ro x46_23 T1 n1) fun x49_24 T11 n11 =>
      bsK 330042 T11 n11 1 9 1 [(0, x49_24)] fun x50_25 T12 n12 =>
      callK (g53 ro a0 x50_25 T12 n12) fun x51_26 T13 n13 =>
      .ok (.val (.tup [])) T13 n13
     )
     (
      asIK 330044 a1 [] [32, 43, 67, 72, 100, 104, 207] fun x52_27 =>
      exK 330045 x52_27 1 fun x53_28 =>
      exK 330046 x52_27 0 fun x54_29 =>
      condK 330047 x53_28
      (
       callK (ifcK 330051 x54_29 fun tr xr => .bad 330051) fun x57_30 T14 n14 =>
       bsK 330052 T14 n14 3 9 1 [(0, (.lit (.string ⟨⟨[60, 102, 117, 110, 99, 116, 105, 111, 110, 32]⟩⟩))), (1, x57_30), (2, (.lit (.string ⟨⟨[62]⟩⟩)))] fun x58_31 T15 n15 =>
       callK (g53 ro a0 x58_31 T15 n15) fun x59_32 T16 n16 =>
       .ok (.val (.tup [])) T16 n16
      )
      (
       asIK 330054 a1 [] [32, 43, 67, 72, 100, 104, 207] fun x60_33 =>
       exK 330055 x60_33 1 fun x61_34 =>
       exK 330056 x60_33 0 fun x62_35 =>
       condK 330057 x61_34
       (
        callK (g57 ro a0 x62_35 T1 n1) fun x65_36 T17 n17 =>
        .ok (.val (.tup [])) T17 n17
       )
       (
        asIK 330062 a1 [] [32, 43, 67, 72, 100, 104, 207] fun x66_37 =>
        exK 330063 x66_37 1 fun x67_38 =>
        exK 330064 x66_37 0 fun x68_39 =>
        condK 330065 x67_38
        (
         callK (ifcK 330068 x68_39 fun tr xr => .bad 330068) fun x71_40 T18 n18 =>
         exK 330070 x71_40 0 fun x72_41 =>
         exK 330071 x71_40 1 fun x73_42 =>
         bsK 330075 T18 n18 1 9 1 [(0, (.lit (.string ⟨⟨[100, 101, 112, 115, 101, 116, 40, 91]⟩⟩)))] fun x75_43 T19 n19 =>
         callK (g53 ro a0 x75_43 T19 n19) fun x76_44 T20 n20 =>
         callK (ih 58 ro [a0, x72_41, a2] T20 n20) fun x80_45 T21 n21 =>
         bsK 330082 T21 n21 1 9 1 [(0, (.lit (.string ⟨⟨[93, 41]⟩⟩)))] fun x82_46 T22 n22 =>
         callK (g53 ro a0 x82_46 T22 n22) fun x83_47 T23 n23 =>
         .ok (.val (.tup [])) T23 n23
        )
        (
         callK (ih 59 ro [a0, a1, a2] T1 n1) fun x22_48 T24 n24 =>
         .ok (.val (.tup [])) T24 n24
        )
       )
      )
     )
    )
   )
  )
 )
theorem g33_ok (ih : FuncId → List HT → List AV → HT → Nat → R) (hI : ∀ f ro args T nx, GOk Tryz.prog envE f args ro T nx (ih f ro args T nx)) (ro : List HT) (a0 a1 a2 : AV) (T : HT) (nx : Nat) : GOk Tryz.prog envE 33 [a0, a1, a2] ro T nx (g33 ih ro a0 a1 a2 T nx) := by
 refine GOk.of_body Tryz.func33 rfl Tryz.ntmps33 (by kernel_rfl) rfl fun r T' n' h1 w0 base ρ0 its hS hP => ?_
 have X : CtxW envE ρ0 ro r T' n' := trivial
 unfold g33 at h1
 refine CV.seq ?_
 refine sr ?_
 refine mv ?_
 refine LV.call hS h1 (g52_ok _ _ _ _ ) hP rfl rfl rfl rfl fun x17_1 T1 n1 h2 ρ its hS => ?_
 refine dn ?_
 refine CV.cond h2 rfl (fun e h3 => ?_) (fun e h3 => ?_)
 ·
  clear h1 h2
  subst e
  refine CV.ret ?_
  refine PV.thenR ?_
  cases h3
  exact PV.ret (by simp) Tryz.results33 hS RS.nil rfl
 ·
  clear h1 h2
  subst e
  refine CV.skip ?_
  refine PV.thenN ?_
  refine sr ?_
  refine mv ?_
  refine dn ?_
  refine CV.block ?_
  refine sr ?_
  refine vy (V.as h3 rfl Vdf.ni100 Vdf.za100) fun x23_2 h4 => ?_
  refine vy (V.ex h4 rfl) fun x24_3 h5 => ?_
  refine vy (V.ex h5 rfl) fun x25_4 h6 => ?_
  refine dn ?_
  refine CV.cond h6 rfl (fun e h7 => ?_) (fun e h7 => ?_)
  ·
   clear h3 h4 h5 h6
   subst e
   refine sr ?_
   refine LV.alloc hS h7 rfl Vdf.zr100 rfl rfl rfl fun x6_5 T2 n2 h8 ρ its hS hdr => ?_
   refine LV.st0 h8 rfl rfl rfl Vdf.agg100 rfl rfl fun h9 => ?_
   refine dn ?_
   refine CV.region ?_
   refine mv ?_
   refine LV.bslice hS h9 rfl rfl Vdf.el54 rfl rfl rfl rfl fun x27_6 T3 n3 h10 ρ its hS hdr => ?_
   refine LV.call hS h10 (g53_ok _ _ _ _ _ ) hP rfl rfl rfl rfl fun x28_7 T4 n4 h11 ρ its hS => ?_
   refine LV.done ?_
   refine PV.blockN ?_
   cases h11
   exact PV.ret (by simp) Tryz.results33 hS RS.nil rfl
  ·
   clear h3 h4 h5 h6
   subst e
   refine sr ?_
   refine vy (V.as h7 rfl Vdf.ni123 Vdf.za123) fun x29_8 h12 => ?_
   refine vy (V.ex h12 rfl) fun x30_9 h13 => ?_
   refine vy (V.ex h13 rfl) fun x31_10 h14 => ?_
   refine dn ?_
   refine CV.cond h14 rfl (fun e h15 => ?_) (fun e h15 => ?_)
   ·
    clear h7 h12 h13 h14
    subst e
    refine sr ?_
    refine as_ ?_
    refine dn ?_
    refine CV.region ?_
    refine mv ?_
    refine mv ?_
    refine LV.call hS h15 (g54_ok _ _ _ _ _ ) hP rfl rfl rfl rfl fun x34_11 T5 n5 h16 ρ its hS => ?_
    refine LV.done ?_
    refine PV.blockN ?_
    cases h16
    exact PV.ret (by simp) Tryz.results33 hS RS.nil rfl
   ·
    clear h7 h12 h13 h14
    subst e
    refine sr ?_
    refine vy (V.as h15 rfl Vdf.ni67 Vdf.za67) fun x35_12 h17 => ?_
    refine vy (V.ex h17 rfl) fun x36_13 h18 => ?_
    refine vy (V.ex h18 rfl) fun x37_14 h19 => ?_
    refine dn ?_
    refine CV.cond h19 rfl (fun e h20 => ?_) (fun e h20 => ?_)
    ·
     clear h15 h17 h18 h19
     subst e
     refine sr ?_
     refine LV.alloc hS h20 rfl Vdf.zr67 rfl rfl rfl fun x8_15 T6 n6 h21 ρ its hS hdr => ?_
     refine LV.stA hS h21 rfl rfl rfl Vdf.agg67 rfl rfl rfl fun T7 its h22 hS => ?_
     refine dn ?_
     refine CV.region ?_
     refine mv ?_
     refine vy (V.fa h22 rfl Vdf.fo67_1) fun x39_16 h23 => ?_
     refine vy (V.ldA hS h23 rfl Vdf.agg29) fun x40_17 h24 => ?_
     refine LV.call hS h24 (g55_ok _ _ _ _ ) hP rfl rfl rfl rfl fun x41_18 T8 n8 h25 ρ its hS => ?_
     refine LV.bslice hS h25 rfl rfl Vdf.el54 rfl rfl rfl rfl fun x42_19 T9 n9 h26 ρ its hS hdr => ?_
     refine LV.call hS h26 (g53_ok _ _ _ _ _ ) hP rfl rfl rfl rfl fun x43_20 T10 n10 h27 ρ its hS => ?_
     refine LV.done ?_
     refine PV.blockN ?_
     cases h27
     exact PV.ret (by simp) Tryz.results33 hS RS.nil rfl
    ·
     clear h15 h17 h18 h19
     subst e
     refine sr ?_
     refine vy (V.as h20 rfl Vdf.ni104 Vdf.za104) fun x44_21 h28 => ?_
     refine vy (V.ex h28 rfl) fun x45_22 h29 => ?_
     refine vy (V.ex h29 rfl) fun x46_23 h30 => ?_
     refine dn ?_
     refine CV.cond h30 rfl (fun e h31 => ?_) (fun e h31 => ?_)
     ·
      clear h20 h28 h29 h30
      subst e
      refine sr ?_
      refine as_ ?_
      refine dn ?_
      refine CV.region ?_
      refine mv ?_
      refine mv ?_
      refine LV.call hS h31 (g56_ok _ _ _ _ ) hP rfl rfl rfl rfl fun x49_24 T11 n11 h32 ρ its hS => ?_
      refine LV.bslice hS h32 rfl rfl Vdf.el54 rfl rfl rfl rfl fun x50_25 T12 n12 h33 ρ its hS hdr => ?_
      refine LV.call hS h33 (g53_ok _ _ _ _ _ ) hP rfl rfl rfl rfl fun x51_26 T13 n13 h34 ρ its hS => ?_
      refine LV.done ?_
      refine PV.blockN ?_
      cases h34
      exact PV.ret (by simp) Tryz.results33 hS RS.nil rfl
     ·
      clear h20 h28 h29 h30
      subst e
      refine sr ?_
      refine vy (V.asI h31 rfl Vdf.ii128 Vdf.zw128 Vdf.hi128_y_ Vdf.hi128_n_32_43_67_72_100_104_207) fun x52_27 h35 => ?_
      refine vy (V.ex h35 rfl) fun x53_28 h36 => ?_
      refine vy (V.ex h36 rfl) fun x54_29 h37 => ?_
      refine dn ?_
      refine CV.cond h37 rfl (fun e h38 => ?_) (fun e h38 => ?_)
      ·
       clear h31 h35 h36 h37
       subst e
       refine sr ?_
       refine as_ ?_
       refine dn ?_
       refine CV.region ?_
       refine mv ?_
       refine mv ?_
       refine LV.inv hS h38 (GMk.ifc fun tr xr _ => GMk.bad) hP rfl rfl rfl rfl rfl rfl rfl fun x57_30 T14 n14 h39 ρ its hS => ?_
       refine LV.bslice hS h39 rfl rfl Vdf.el54 rfl rfl rfl rfl fun x58_31 T15 n15 h40 ρ its hS hdr => ?_
       refine LV.call hS h40 (g53_ok _ _ _ _ _ ) hP rfl rfl rfl rfl fun x59_32 T16 n16 h41 ρ its hS => ?_
       refine LV.done ?_
       refine PV.blockN ?_
       cases h41
       exact PV.ret (by simp) Tryz.results33 hS RS.nil rfl
      ·
       clear h31 h35 h36 h37
       subst e
       refine sr ?_
       refine vy (V.asI h38 rfl Vdf.ii130 Vdf.zw130 Vdf.hi130_y_ Vdf.hi130_n_32_43_67_72_100_104_207) fun x60_33 h42 => ?_
       refine vy (V.ex h42 rfl) fun x61_34 h43 => ?_
       refine vy (V.ex h43 rfl) fun x62_35 h44 => ?_
       refine dn ?_
       refine CV.cond h44 rfl (fun e h45 => ?_) (fun e h45 => ?_)
       ·
        clear h38 h42 h43 h44
        subst e
        refine sr ?_
        refine as_ ?_
        refine dn ?_
        refine CV.region ?_
        refine mv ?_
        refine mv ?_
        refine LV.call hS h45 (g57_ok _ _ _ _ _ ) hP rfl rfl rfl rfl fun x65_36 T17 n17 h46 ρ its hS => ?_
        refine LV.done ?_
        refine PV.blockN ?_
        cases h46
        exact PV.ret (by simp) Tryz.results33 hS RS.nil rfl
       ·
        clear h38 h42 h43 h44
        subst e
        refine sr ?_
        refine vy (V.asI h45 rfl Vdf.ii133 Vdf.zw133 Vdf.hi133_y_ Vdf.hi133_n_32_43_67_72_100_104_207) fun x66_37 h47 => ?_
        refine vy (V.ex h47 rfl) fun x67_38 h48 => ?_
        refine vy (V.ex h48 rfl) fun x68_39 h49 => ?_
        refine dn ?_
        refine CV.cond h49 rfl (fun e h50 => ?_) (fun e h50 => ?_)
        ·
         clear h45 h47 h48 h49
         subst e
         refine sr ?_
         refine as_ ?_
         refine dn ?_
         refine sr ?_
         refine mv ?_
         refine LV.inv hS h50 (GMk.ifc fun tr xr _ => GMk.bad) hP rfl rfl rfl rfl rfl rfl rfl fun x71_40 T18 n18 h51 ρ its hS => ?_
         refine mv ?_
         refine vy (V.ex h51 rfl) fun x72_41 h52 => ?_
         refine vy (V.ex h52 rfl) fun x73_42 h53 => ?_
         refine as_ ?_
         refine as_ ?_
         refine dn ?_
         refine sr ?_
         refine mv ?_
         refine LV.bslice hS h53 rfl rfl Vdf.el54 rfl rfl rfl rfl fun x75_43 T19 n19 h54 ρ its hS hdr => ?_
         refine LV.call hS h54 (g53_ok _ _ _ _ _ ) hP rfl rfl rfl rfl fun x76_44 T20 n20 h55 ρ its hS => ?_
         refine dn ?_
         refine sr ?_
         refine mv ?_
         refine mv ?_
         refine mv ?_
         refine LV.call hS h55 (hI _ _ _ _ _) hP rfl rfl rfl rfl fun x80_45 T21 n21 h56 ρ its hS => ?_
         refine dn ?_
         refine CV.region ?_
         refine mv ?_
         refine LV.bslice hS h56 rfl rfl Vdf.el54 rfl rfl rfl rfl fun x82_46 T22 n22 h57 ρ its hS hdr => ?_
         refine LV.call hS h57 (g53_ok _ _ _ _ _ ) hP rfl rfl rfl rfl fun x83_47 T23 n23 h58 ρ its hS => ?_
         refine LV.done ?_
         refine PV.blockN ?_
         cases h58
         exact PV.ret (by simp) Tryz.results33 hS RS.nil rfl
        ·
         clear h45 h47 h48 h49
         subst e
         refine sr ?_
         refine as_ ?_
         refine dn ?_
         refine CV.region ?_
         refine mv ?_
         refine mv ?_
         refine mv ?_
         refine LV.call hS h50 (hI _ _ _ _ _) hP rfl rfl rfl rfl fun x22_48 T24 n24 h59 ρ its hS => ?_
         refine LV.done ?_
         refine PV.blockN ?_
         cases h59
         exact PV.ret (by simp) Tryz.results33 hS RS.nil rfl
noncomputable def g58_k2 (ih : FuncId → List HT → List AV → HT → Nat → R) (ro : List HT) (lp1 : AV → AV → AV → AV → AV → HT → Nat → R) (y0 y2 y7 y8 y9 y10 : AV) (T3 : HT) (n3 : Nat) : R :=
 callK (ih 33 ro [y0, y7, y2] T3 n3) fun x25_6 T4 n4 =>
 addK Tryz.prog 3 (.tmp 10) (.const (.int .i64 (.ofNat 1))) 580019 y10 (.lit (.int .i64 (.ofNat 1))) fun x26_7 =>
 lp1 y0 y2 y8 y9 x26_7 T4 n4
noncomputable def g58_b1 (ih : FuncId → List HT → List AV → HT → Nat → R) (ro : List HT) (lp1 : AV → AV → AV → AV → AV → HT → Nat → R) (y0 y2 y8 y9 y10 : AV) (T1 : HT) (n1 : Nat) : R :=
 ltK Tryz.prog 3 (.tmp 10) (.tmp 9) 580005 y10 y9 fun x11_2 =>
 condK 580006 x11_2
 (
  iaK 580008 y8 y10 1 fun x13_3 =>
  ldK 580009 T1 ro x13_3 fun x14_4 =>
  callK (g52 ro y0 T1 n1) fun x16_5 T2 n2 =>
  condK 580014 x16_5
  (
   .ok (.val (.tup [])) T2 n2
  )
  (
   gtK Tryz.prog 3 (.tmp 17) (.const (.int .i64 (.ofNat 0))) 580022 y10 (.lit (.int .i64 (.ofNat 0))) fun x18_8 =>
   condK 580023 x18_8
   (
    bsK 580025 T2 n2 1 9 1 [(0, (.lit (.string ⟨⟨[44, 32]⟩⟩)))] fun x20_9 T5 n5 =>
    callK (g53 ro y0 x20_9 T5 n5) fun x21_10 T6 n6 =>
    g58_k2 ih ro lp1 y0 y2 x14_4 y8 y9 y10 T6 n6
   )
   (
    g58_k2 ih ro lp1 y0 y2 x14_4 y8 y9 y10 T2 n2
   )
  )
 )
 (
  .ok (.val (.tup [])) T1 n1
 )
noncomputable def g58 (ih : FuncId → List HT → List AV → HT → Nat → R) (ro : List HT) (a0 a1 a2 : AV) (T : HT) (nx : Nat) : R :=
 lenSK 580002 a1 fun x9_1 =>
 lpf5 580004 (g58_b1 ih ro) 100000 a0 a2 a1 x9_1 (.lit (.int .i64 (.ofNat 0))) T nx
theorem g58_ok (ih : FuncId → List HT → List AV → HT → Nat → R) (hI : ∀ f ro args T nx, GOk Tryz.prog envE f args ro T nx (ih f ro args T nx)) (ro : List HT) (a0 a1 a2 : AV) (T : HT) (nx : Nat) : GOk Tryz.prog envE 58 [a0, a1, a2] ro T nx (g58 ih ro a0 a1 a2 T nx) := by
 refine GOk.of_body Tryz.func58 rfl Tryz.ntmps58 (by kernel_rfl) rfl fun r T' n' h1 w0 base ρ0 its hS hP => ?_
 have X : CtxW envE ρ0 ro r T' n' := trivial
 unfold g58 at h1
 refine sr ?_
 refine mv ?_
 refine vy (V.lenS h1 rfl Vdf.ls71) fun x9_1 h2 => ?_
 refine mv ?_
 refine dn ?_
 refine CV.block ?_
 refine cl5 X 0 2 8 9 10 [] hS h2 ⟨rfl, rfl, rfl, rfl, rfl, trivial⟩ ?_
 intro f1 y0 y2 y8 y9 y10 T1 n1 ρ its hS h3
 unfold g58_b1 at h3
 clear h1 h2
 refine sr ?_
 refine vy (V.lt h3 rfl rfl) fun x11_2 h4 => ?_
 refine dn ?_
 refine CV.seq ?_
 refine CV.cond h4 rfl (fun e h5 => ?_) (fun e h5 => ?_)
 ·
  clear h3 h4
  subst e
  refine CV.skip ?_
  refine PV.thenN ?_
  refine CV.seq ?_
  refine CV.block ?_
  refine sr ?_
  refine mv ?_
  refine vy (V.ia h5 rfl rfl Vdf.el71) fun x13_3 h6 => ?_
  refine vy (V.ld hS h6 rfl Vdf.one25) fun x14_4 h7 => ?_
  refine as_ ?_
  refine as_ ?_
  refine dn ?_
  refine CV.seq ?_
  refine sr ?_
  refine mv ?_
  refine LV.call hS h7 (g52_ok _ _ _ _ ) hP rfl rfl rfl rfl fun x16_5 T2 n2 h8 ρ its hS => ?_
  refine dn ?_
  refine CV.cond h8 rfl (fun e h9 => ?_) (fun e h9 => ?_)
  ·
   clear h5 h6 h7 h8
   subst e
   refine CV.ret ?_
   refine PV.thenR ?_
   refine PV.blockR ?_
   refine PV.thenR ?_
   refine PV.thenR ?_
   refine PV.blockR ?_
   cases h9
   exact PV.ret (by simp) Tryz.results58 hS RS.nil rfl
  ·
   clear h5 h6 h7 h8
   subst e
   refine CV.skip ?_
   refine PV.thenN ?_
   refine cs6 X 0 2 7 8 9 10 [] (g58_k2 ih ro (lpf5 580004 (g58_b1 ih ro) f1)) ?_ ?_
   ·
    refine sr ?_
    refine mv ?_
    refine vy (V.gt h9 rfl rfl) fun x18_8 h13 => ?_
    refine dn ?_
    refine CV.cond h13 rfl (fun e h14 => ?_) (fun e h14 => ?_)
    ·
     clear h9 h13
     subst e
     refine CV.region ?_
     refine mv ?_
     refine LV.bslice hS h14 rfl rfl Vdf.el54 rfl rfl rfl rfl fun x20_9 T5 n5 h15 ρ its hS hdr => ?_
     refine LV.call hS h15 (g53_ok _ _ _ _ _ ) hP rfl rfl rfl rfl fun x21_10 T6 n6 h16 ρ its hS => ?_
     refine LV.done ?_
     exact pa6 hS h16 ⟨rfl, rfl, rfl, rfl, rfl, rfl, trivial⟩
    ·
     clear h9 h13
     subst e
     refine CV.skip ?_
     exact pa6 hS h14 ⟨rfl, rfl, rfl, rfl, rfl, rfl, trivial⟩
   ·
    intro y0 y2 y7 y8 y9 y10 T3 n3 ρ its hS h10
    unfold g58_k2 at h10
    clear h9
    refine CV.region ?_
    refine mv ?_
    refine mv ?_
    refine mv ?_
    refine LV.call hS h10 (hI _ _ _ _ _) hP rfl rfl rfl rfl fun x25_6 T4 n4 h11 ρ its hS => ?_
    refine LV.done ?_
    refine PV.blockN ?_
    refine PV.thenN ?_
    refine CV.region ?_
    refine vy (V.add h11 rfl rfl) fun x26_7 h12 => ?_
    refine mv ?_
    refine LV.done ?_
    exact pb5 hS h12 ⟨rfl, rfl, rfl, rfl, rfl, trivial⟩
 ·
  clear h3 h4
  subst e
  refine CV.exit ?_
  refine PV.thenE ?_
  refine PV.thenE ?_
  refine PV.blockE ?_
  cases h5
  exact PV.ret (by simp) Tryz.results58 hS RS.nil rfl
noncomputable def g59_k1 (ih : FuncId → List HT → List AV → HT → Nat → R) (ro : List HT) (y0 : AV) (T11 : HT) (n11 : Nat) : R :=
 bsK 590040 T11 n11 1 9 1 [(0, (.lit (.string ⟨⟨[41]⟩⟩)))] fun x61_22 T12 n12 =>
 callK (g53 ro y0 x61_22 T12 n12) fun x62_23 T13 n13 =>
 .ok (.val (.tup [])) T13 n13
noncomputable def g59_b2 (ih : FuncId → List HT → List AV → HT → Nat → R) (ro : List HT) (lp2 : AV → AV → AV → AV → AV → HT → Nat → R) (y0 y2 y72 y73 y74 : AV) (T18 : HT) (n18 : Nat) : R :=
 ltK Tryz.prog 3 (.tmp 74) (.tmp 73) 590063 y74 y73 fun x75_36 =>
 condK 590064 x75_36
 (
  iaK 590066 y72 y74 1 fun x77_37 =>
  ldK 590067 T18 ro x77_37 fun x78_38 =>
  gtK Tryz.prog 3 (.tmp 79) (.const (.int .i64 (.ofNat 0))) 590071 y74 (.lit (.int .i64 (.ofNat 0))) fun x80_39 =>
  condK 590072 x80_39
  (
   .bad 590073
  )
  (
   fldK 590076 T18 ro x78_38 1 fun x88_40 =>
   addK Tryz.prog 3 (.tmp 89) (.const (.int .i64 (.ofNat 1))) 590078 y2 (.lit (.int .i64 (.ofNat 1))) fun x90_41 =>
   callK (ih 33 ro [y0, x88_40, x90_41] T18 n18) fun x91_42 T19 n19 =>
   bsK 590081 T19 n19 1 9 1 [(0, (.lit (.string ⟨⟨[58, 32]⟩⟩)))] fun x93_43 T20 n20 =>
   callK (g53 ro y0 x93_43 T20 n20) fun x94_44 T21 n21 =>
   fldK 590085 T21 ro x78_38 2 fun x99_45 =>
   addK Tryz.prog 3 (.tmp 100) (.const (.int .i64 (.ofNat 1))) 590087 y2 (.lit (.int .i64 (.ofNat 1))) fun x101_46 =>
   callK (ih 33 ro [y0, x99_45, x101_46] T21 n21) fun x102_47 T22 n22 =>
   addK Tryz.prog 3 (.tmp 74) (.const (.int .i64 (.ofNat 1))) 590089 y74 (.lit (.int .i64 (.ofNat 1))) fun x103_48 =>
   lp2 y0 y2 y72 y73 x103_48 T22 n22
  )
 )
 (
  bsK 590092 T18 n18 1 9 1 [(0, (.lit (.string ⟨⟨[125]⟩⟩)))] fun x105_49 T23 n23 =>
  callK (g53 ro y0 x105_49 T23 n23) fun x106_50 T24 n24 =>
  .ok (.val (.tup [])) T24 n24
 )
noncomputable def g59_b3 (ih : FuncId → List HT → List AV → HT → Nat → R) (ro : List HT) (lp3 : AV → AV → AV → AV → AV → AV → HT → Nat → R) (y0 y2 y11 y116 y117 y118 : AV) (T27 : HT) (n27 : Nat) : R :=
 ltK Tryz.prog 3 (.tmp 118) (.tmp 117) 590107 y118 y117 fun x119_58 =>
 condK 590108 x119_58
 (
  iaK 590110 y116 y118 1 fun x121_59 =>
  ldK 590111 T27 ro x121_59 fun x122_60 =>
  gtK Tryz.prog 3 (.tmp 123) (.const (.int .i64 (.ofNat 0))) 590115 y118 (.lit (.int .i64 (.ofNat 0))) fun x124_61 =>
  condK 590116 x124_61
  (
   .bad 590117
  )
  (
   bsK 590120 T27 n27 2 9 1 [(0, x122_60), (1, (.lit (.string ⟨⟨[32, 61, 32]⟩⟩)))] fun x130_62 T28 n28 =>
   callK (g53 ro y0 x130_62 T28 n28) fun x131_63 T29 n29 =>
   fldK 590124 T29 ro y11 1 fun x136_64 =>
   iaK 590126 x136_64 y118 1 fun x138_65 =>
   ldK 590127 T29 ro x138_65 fun x139_66 =>
   addK Tryz.prog 3 (.tmp 140) (.const (.int .i64 (.ofNat 1))) 590129 y2 (.lit (.int .i64 (.ofNat 1))) fun x141_67 =>
   callK (ih 33 ro [y0, x139_66, x141_67] T29 n29) fun x142_68 T30 n30 =>
   addK Tryz.prog 3 (.tmp 118) (.const (.int .i64 (.ofNat 1))) 590131 y118 (.lit (.int .i64 (.ofNat 1))) fun x143_69 =>
   lp3 y0 y2 y11 y116 y117 x143_69 T30 n30
  )
 )
 (
  bsK 590134 T27 n27 1 9 1 [(0, (.lit (.string ⟨⟨[41]⟩⟩)))] fun x145_70 T31 n31 =>
  callK (g53 ro y0 x145_70 T31 n31) fun x146_71 T32 n32 =>
  .ok (.val (.tup [])) T32 n32
 )
noncomputable def g59 (ih : FuncId → List HT → List AV → HT → Nat → R) (ro : List HT) (a0 a1 a2 : AV) (T : HT) (nx : Nat) : R :=
 geK Tryz.prog 3 (.tmp 14) (.const (.int .i64 (.ofNat 60))) 590002 a2 (.lit (.int .i64 (.ofNat 60))) fun x15_1 =>
 condK 590003 x15_1
 (
  bsK 590005 T nx 1 9 1 [(0, (.lit (.string ⟨⟨[46, 46, 46]⟩⟩)))] fun x17_2 T1 n1 =>
  callK (g53 ro a0 x17_2 T1 n1) fun x18_3 T2 n2 =>
  .ok (.val (.tup [])) T2 n2
 )
 (
  asK 590008 a1 32 (.tup [.lit (.pointer none), .lit (.bool false)]) fun x20_4 =>
  exK 590009 x20_4 1 fun x21_5 =>
  exK 590010 x20_4 0 fun x22_6 =>
  condK 590011 x21_5
  (
   bsK 590014 T nx 1 9 1 [(0, (.lit (.string ⟨⟨[91]⟩⟩)))] fun x24_7 T3 n3 =>
   callK (g53 ro a0 x24_7 T3 n3) fun x25_8 T4 n4 =>
   fldK 590018 T4 ro x22_6 0 fun x30_9 =>
   addK Tryz.prog 3 (.tmp 31) (.const (.int .i64 (.ofNat 1))) 590020 a2 (.lit (.int .i64 (.ofNat 1))) fun x32_10 =>
   callK (ih 58 ro [a0, x30_9, x32_10] T4 n4) fun x33_11 T5 n5 =>
   bsK 590023 T5 n5 1 9 1 [(0, (.lit (.string ⟨⟨[93]⟩⟩)))] fun x35_12 T6 n6 =>
   callK (g53 ro a0 x35_12 T6 n6) fun x36_13 T7 n7 =>
   .ok (.val (.tup [])) T7 n7
  )
  (
   asK 590025 a1 72 (.tup [.lit (.pointer none), .lit (.bool false)]) fun x37_14 =>
   exK 590026 x37_14 1 fun x38_15 =>
   exK 590027 x37_14 0 fun x39_16 =>
   condK 590028 x38_15
   (
    bsK 590031 T nx 1 9 1 [(0, (.lit (.string ⟨⟨[40]⟩⟩)))] fun x41_17 T8 n8 =>
    callK (g53 ro a0 x41_17 T8 n8) fun x42_18 T9 n9 =>
    fldK 590035 T9 ro x39_16 0 fun x47_19 =>
    addK Tryz.prog 3 (.tmp 48) (.const (.int .i64 (.ofNat 1))) 590037 a2 (.lit (.int .i64 (.ofNat 1))) fun x49_20 =>
    callK (ih 58 ro [a0, x47_19, x49_20] T9 n9) fun x50_21 T10 n10 =>
    fldK 590043 T10 ro x39_16 0 fun x54_24 =>
    lenSK 590044 x54_24 fun x55_25 =>
    eqK Tryz.prog 3 (.tmp 55) (.const (.int .i64 (.ofNat 1))) 590045 x55_25 (.lit (.int .i64 (.ofNat 1))) fun x56_26 =>
    condK 590046 x56_26
    (
     bsK 590048 T10 n10 1 9 1 [(0, (.lit (.string ⟨⟨[44]⟩⟩)))] fun x58_27 T14 n14 =>
     callK (g53 ro a0 x58_27 T14 n14) fun x59_28 T15 n15 =>
     g59_k1 ih ro a0 T15 n15
    )
    (
     g59_k1 ih ro a0 T10 n10
    )
   )
   (
    asK 590050 a1 43 (.tup [.lit (.pointer none), .lit (.bool false)]) fun x63_29 =>
    exK 590051 x63_29 1 fun x64_30 =>
    exK 590052 x63_29 0 fun x65_31 =>
    condK 590053 x64_30
    (
     bsK 590056 T nx 1 9 1 [(0, (.lit (.string ⟨⟨[123]⟩⟩)))] fun x67_32 T16 n16 =>
     callK (g53 ro a0 x67_32 T16 n16) fun x68_33 T17 n17 =>
     fldK 590059 T17 ro x65_31 0 fun x72_34 =>
     lenSK 590060 x72_34 fun x73_35 =>
     lpf5 590062 (g59_b2 ih ro) 100000 a0 a2 x72_34 x73_35 (.lit (.int .i64 (.ofNat 0))) T17 n17
    )
    (
     asK 590094 a1 141 (.tup [.lit (.pointer none), .lit (.bool false)]) fun x107_51 =>
     exK 590095 x107_51 1 fun x108_52 =>
     exK 590096 x107_51 0 fun x109_53 =>
     condK 590097 x108_52
     (
      bsK 590100 T nx 1 9 1 [(0, (.lit (.string ⟨⟨[115, 116, 114, 117, 99, 116, 40]⟩⟩)))] fun x111_54 T25 n25 =>
      callK (g53 ro a0 x111_54 T25 n25) fun x112_55 T26 n26 =>
      fldK 590103 T26 ro x109_53 0 fun x116_56 =>
      lenSK 590104 x116_56 fun x117_57 =>
      lpf6 590106 (g59_b3 ih ro) 100000 a0 a2 x109_53 x116_56 x117_57 (.lit (.int .i64 (.ofNat 0))) T26 n26
     )
     (
      .ok (.val (.tup [])) T nx
     )
    )
   )
  )
 )
theorem g59_ok (ih : FuncId → List HT → List AV → HT → Nat → R) (hI : ∀ f ro args T nx, GOk Tryz.prog envE f args ro T nx (ih f ro args T nx)) (ro : List HT) (a0 a1 a2 : AV) (T : HT) (nx : Nat) : GOk Tryz.prog envE 59 [a0, a1, a2] ro T nx (g59 ih ro a0 a1 a2 T nx) := by
 refine GOk.of_body Tryz.func59 rfl Tryz.ntmps59 (by kernel_rfl) rfl fun r T' n' h1 w0 base ρ0 its hS hP => ?_
 have X : CtxW envE ρ0 ro r T' n' := trivial
 unfold g59 at h1
 refine CV.seq ?_
 refine sr ?_
 refine mv ?_
 refine vy (V.ge h1 rfl rfl) fun x15_1 h2 => ?_
 refine dn ?_
 refine CV.cond h2 rfl (fun e h3 => ?_) (fun e h3 => ?_)
 ·
  clear h1 h2
  subst e
  refine sr ?_
  refine mv ?_
  refine LV.bslice hS h3 rfl rfl Vdf.el54 rfl rfl rfl rfl fun x17_2 T1 n1 h4 ρ its hS hdr => ?_
  refine LV.call hS h4 (g53_ok _ _ _ _ _ ) hP rfl rfl rfl rfl fun x18_3 T2 n2 h5 ρ its hS => ?_
  refine dn ?_
  refine CV.ret ?_
  refine PV.thenR ?_
  cases h5
  exact PV.ret (by simp) Tryz.results59 hS RS.nil rfl
 ·
  clear h1 h2
  subst e
  refine CV.skip ?_
  refine PV.thenN ?_
  refine sr ?_
  refine mv ?_
  refine dn ?_
  refine CV.block ?_
  refine sr ?_
  refine vy (V.as h3 rfl Vdf.ni32 Vdf.za32) fun x20_4 h6 => ?_
  refine vy (V.ex h6 rfl) fun x21_5 h7 => ?_
  refine vy (V.ex h7 rfl) fun x22_6 h8 => ?_
  refine dn ?_
  refine CV.cond h8 rfl (fun e h9 => ?_) (fun e h9 => ?_)
  ·
   clear h3 h6 h7 h8
   subst e
   refine sr ?_
   refine as_ ?_
   refine dn ?_
   refine sr ?_
   refine mv ?_
   refine LV.bslice hS h9 rfl rfl Vdf.el54 rfl rfl rfl rfl fun x24_7 T3 n3 h10 ρ its hS hdr => ?_
   refine LV.call hS h10 (g53_ok _ _ _ _ _ ) hP rfl rfl rfl rfl fun x25_8 T4 n4 h11 ρ its hS => ?_
   refine dn ?_
   refine sr ?_
   refine mv ?_
   refine mv ?_
   refine fl hS h11 Vdf.fo77_1 Vdf.one71 fun x30_9 h12 => ?_
   refine mv ?_
   refine vy (V.add h12 rfl rfl) fun x32_10 h13 => ?_
   refine LV.call hS h13 (hI _ _ _ _ _) hP rfl rfl rfl rfl fun x33_11 T5 n5 h14 ρ its hS => ?_
   refine dn ?_
   refine CV.region ?_
   refine mv ?_
   refine LV.bslice hS h14 rfl rfl Vdf.el54 rfl rfl rfl rfl fun x35_12 T6 n6 h15 ρ its hS hdr => ?_
   refine LV.call hS h15 (g53_ok _ _ _ _ _ ) hP rfl rfl rfl rfl fun x36_13 T7 n7 h16 ρ its hS => ?_
   refine LV.done ?_
   refine PV.blockN ?_
   cases h16
   exact PV.ret (by simp) Tryz.results59 hS RS.nil rfl
  ·
   clear h3 h6 h7 h8
   subst e
   refine sr ?_
   refine vy (V.as h9 rfl Vdf.ni72 Vdf.za72) fun x37_14 h17 => ?_
   refine vy (V.ex h17 rfl) fun x38_15 h18 => ?_
   refine vy (V.ex h18 rfl) fun x39_16 h19 => ?_
   refine dn ?_
   refine CV.cond h19 rfl (fun e h20 => ?_) (fun e h20 => ?_)
   ·
    clear h9 h17 h18 h19
    subst e
    refine sr ?_
    refine as_ ?_
    refine dn ?_
    refine sr ?_
    refine mv ?_
    refine LV.bslice hS h20 rfl rfl Vdf.el54 rfl rfl rfl rfl fun x41_17 T8 n8 h21 ρ its hS hdr => ?_
    refine LV.call hS h21 (g53_ok _ _ _ _ _ ) hP rfl rfl rfl rfl fun x42_18 T9 n9 h22 ρ its hS => ?_
    refine dn ?_
    refine sr ?_
    refine mv ?_
    refine mv ?_
    refine fl hS h22 Vdf.fo75_1 Vdf.one71 fun x47_19 h23 => ?_
    refine mv ?_
    refine vy (V.add h23 rfl rfl) fun x49_20 h24 => ?_
    refine LV.call hS h24 (hI _ _ _ _ _) hP rfl rfl rfl rfl fun x50_21 T10 n10 h25 ρ its hS => ?_
    refine dn ?_
    refine cs1 X 0 [] (g59_k1 ih ro) ?_ ?_
    ·
     refine sr ?_
     refine mv ?_
     refine fl hS h25 Vdf.fo75_1 Vdf.one71 fun x54_24 h29 => ?_
     refine vy (V.lenS h29 rfl Vdf.ls71) fun x55_25 h30 => ?_
     refine vy (V.eq h30 rfl rfl) fun x56_26 h31 => ?_
     refine dn ?_
     refine CV.cond h31 rfl (fun e h32 => ?_) (fun e h32 => ?_)
     ·
      clear h20 h21 h22 h23 h24 h25 h29 h30 h31
      subst e
      refine CV.region ?_
      refine mv ?_
      refine LV.bslice hS h32 rfl rfl Vdf.el54 rfl rfl rfl rfl fun x58_27 T14 n14 h33 ρ its hS hdr => ?_
      refine LV.call hS h33 (g53_ok _ _ _ _ _ ) hP rfl rfl rfl rfl fun x59_28 T15 n15 h34 ρ its hS => ?_
      refine LV.done ?_
      exact pa1 hS h34 ⟨rfl, trivial⟩
     ·
      clear h20 h21 h22 h23 h24 h25 h29 h30 h31
      subst e
      refine CV.skip ?_
      exact pa1 hS h32 ⟨rfl, trivial⟩
    ·
     intro y0 T11 n11 ρ its hS h26
     unfold g59_k1 at h26
     clear h20 h21 h22 h23 h24 h25
     refine CV.region ?_
     refine mv ?_
     refine LV.bslice hS h26 rfl rfl Vdf.el54 rfl rfl rfl rfl fun x61_22 T12 n12 h27 ρ its hS hdr => ?_
     refine LV.call hS h27 (g53_ok _ _ _ _ _ ) hP rfl rfl rfl rfl fun x62_23 T13 n13 h28 ρ its hS => ?_
     refine LV.done ?_
     refine PV.blockN ?_
     cases h28
     exact PV.ret (by simp) Tryz.results59 hS RS.nil rfl
   ·
    clear h9 h17 h18 h19
    subst e
    refine sr ?_
    refine vy (V.as h20 rfl Vdf.ni43 Vdf.za43) fun x63_29 h35 => ?_
    refine vy (V.ex h35 rfl) fun x64_30 h36 => ?_
    refine vy (V.ex h36 rfl) fun x65_31 h37 => ?_
    refine dn ?_
    refine CV.cond h37 rfl (fun e h38 => ?_) (fun e h38 => ?_)
    ·
     clear h20 h35 h36 h37
     subst e
     refine sr ?_
     refine as_ ?_
     refine dn ?_
     refine sr ?_
     refine mv ?_
     refine LV.bslice hS h38 rfl rfl Vdf.el54 rfl rfl rfl rfl fun x67_32 T16 n16 h39 ρ its hS hdr => ?_
     refine LV.call hS h39 (g53_ok _ _ _ _ _ ) hP rfl rfl rfl rfl fun x68_33 T17 n17 h40 ρ its hS => ?_
     refine dn ?_
     refine CV.seq ?_
     refine sr ?_
     refine mv ?_
     refine fl hS h40 Vdf.fo98_1 Vdf.one96 fun x72_34 h41 => ?_
     refine vy (V.lenS h41 rfl Vdf.ls96) fun x73_35 h42 => ?_
     refine mv ?_
     refine dn ?_
     refine CV.block ?_
     refine cl5 X 0 2 72 73 74 [] hS h42 ⟨rfl, rfl, rfl, rfl, rfl, trivial⟩ ?_
     intro f2 y0 y2 y72 y73 y74 T18 n18 ρ its hS h43
     unfold g59_b2 at h43
     clear h38 h39 h40 h41 h42
     refine sr ?_
     refine vy (V.lt h43 rfl rfl) fun x75_36 h44 => ?_
     refine dn ?_
     refine CV.seq ?_
     refine CV.cond h44 rfl (fun e h45 => ?_) (fun e h45 => ?_)
     ·
      clear h43 h44
      subst e
      refine CV.skip ?_
      refine PV.thenN ?_
      refine CV.seq ?_
      refine CV.block ?_
      refine sr ?_
      refine mv ?_
      refine vy (V.ia h45 rfl rfl Vdf.el96) fun x77_37 h46 => ?_
      refine vy (V.ld hS h46 rfl Vdf.one101) fun x78_38 h47 => ?_
      refine as_ ?_
      refine as_ ?_
      refine dn ?_
      refine CV.seq ?_
      refine sr ?_
      refine mv ?_
      refine vy (V.gt h47 rfl rfl) fun x80_39 h48 => ?_
      refine dn ?_
      refine CV.cond h48 rfl (fun e h49 => ?_) (fun e h49 => ?_)
      ·
       clear h45 h46 h47 h48
       subst e
       cases h49
      ·
       clear h45 h46 h47 h48
       subst e
       refine CV.skip ?_
       refine PV.thenN ?_
       refine sr ?_
       refine mv ?_
       refine mv ?_
       refine fl hS h49 Vdf.fo103_1 Vdf.one25 fun x88_40 h50 => ?_
       refine mv ?_
       refine vy (V.add h50 rfl rfl) fun x90_41 h51 => ?_
       refine LV.call hS h51 (hI _ _ _ _ _) hP rfl rfl rfl rfl fun x91_42 T19 n19 h52 ρ its hS => ?_
       refine dn ?_
       refine sr ?_
       refine mv ?_
       refine LV.bslice hS h52 rfl rfl Vdf.el54 rfl rfl rfl rfl fun x93_43 T20 n20 h53 ρ its hS hdr => ?_
       refine LV.call hS h53 (g53_ok _ _ _ _ _ ) hP rfl rfl rfl rfl fun x94_44 T21 n21 h54 ρ its hS => ?_
       refine dn ?_
       refine CV.region ?_
       refine mv ?_
       refine mv ?_
       refine fl hS h54 Vdf.fo103_2 Vdf.one25 fun x99_45 h55 => ?_
       refine mv ?_
       refine vy (V.add h55 rfl rfl) fun x101_46 h56 => ?_
       refine LV.call hS h56 (hI _ _ _ _ _) hP rfl rfl rfl rfl fun x102_47 T22 n22 h57 ρ its hS => ?_
       refine LV.done ?_
       refine PV.blockN ?_
       refine PV.thenN ?_
       refine CV.region ?_
       refine vy (V.add h57 rfl rfl) fun x103_48 h58 => ?_
       refine mv ?_
       refine LV.done ?_
       exact pb5 hS h58 ⟨rfl, rfl, rfl, rfl, rfl, trivial⟩
     ·
      clear h43 h44
      subst e
      refine CV.exit ?_
      refine PV.thenE ?_
      refine PV.thenE ?_
      refine PV.blockE ?_
      refine PV.thenN ?_
      refine CV.region ?_
      refine mv ?_
      refine LV.bslice hS h45 rfl rfl Vdf.el54 rfl rfl rfl rfl fun x105_49 T23 n23 h59 ρ its hS hdr => ?_
      refine LV.call hS h59 (g53_ok _ _ _ _ _ ) hP rfl rfl rfl rfl fun x106_50 T24 n24 h60 ρ its hS => ?_
      refine LV.done ?_
      refine PV.blockN ?_
      cases h60
      exact PV.ret (by simp) Tryz.results59 hS RS.nil rfl
    ·
     clear h20 h35 h36 h37
     subst e
     refine sr ?_
     refine vy (V.as h38 rfl Vdf.ni141 Vdf.za141) fun x107_51 h61 => ?_
     refine vy (V.ex h61 rfl) fun x108_52 h62 => ?_
     refine vy (V.ex h62 rfl) fun x109_53 h63 => ?_
     refine dn ?_
     refine CV.cond h63 rfl (fun e h64 => ?_) (fun e h64 => ?_)
     ·
      clear h38 h61 h62 h63
      subst e
      refine sr ?_
      refine as_ ?_
      refine dn ?_
      refine sr ?_
      refine mv ?_
      refine LV.bslice hS h64 rfl rfl Vdf.el54 rfl rfl rfl rfl fun x111_54 T25 n25 h65 ρ its hS hdr => ?_
      refine LV.call hS h65 (g53_ok _ _ _ _ _ ) hP rfl rfl rfl rfl fun x112_55 T26 n26 h66 ρ its hS => ?_
      refine dn ?_
      refine CV.seq ?_
      refine sr ?_
      refine mv ?_
      refine fl hS h66 Vdf.fo143_1 Vdf.one54 fun x116_56 h67 => ?_
      refine vy (V.lenS h67 rfl Vdf.ls54) fun x117_57 h68 => ?_
      refine mv ?_
      refine dn ?_
      refine CV.block ?_
      refine cl6 X 0 2 11 116 117 118 [] hS h68 ⟨rfl, rfl, rfl, rfl, rfl, rfl, trivial⟩ ?_
      intro f3 y0 y2 y11 y116 y117 y118 T27 n27 ρ its hS h69
      unfold g59_b3 at h69
      clear h64 h65 h66 h67 h68
      refine sr ?_
      refine vy (V.lt h69 rfl rfl) fun x119_58 h70 => ?_
      refine dn ?_
      refine CV.seq ?_
      refine CV.cond h70 rfl (fun e h71 => ?_) (fun e h71 => ?_)
      ·
       clear h69 h70
       subst e
       refine CV.skip ?_
       refine PV.thenN ?_
       refine CV.seq ?_
       refine CV.block ?_
       refine sr ?_
       refine mv ?_
       refine vy (V.ia h71 rfl rfl Vdf.el54) fun x121_59 h72 => ?_
       refine vy (V.ld hS h72 rfl Vdf.one9) fun x122_60 h73 => ?_
       refine as_ ?_
       refine as_ ?_
       refine dn ?_
       refine CV.seq ?_
       refine sr ?_
       refine mv ?_
       refine vy (V.gt h73 rfl rfl) fun x124_61 h74 => ?_
       refine dn ?_
       refine CV.cond h74 rfl (fun e h75 => ?_) (fun e h75 => ?_)
       ·
        clear h71 h72 h73 h74
        subst e
        cases h75
       ·
        clear h71 h72 h73 h74
        subst e
        refine CV.skip ?_
        refine PV.thenN ?_
        refine sr ?_
        refine mv ?_
        refine mv ?_
        refine LV.bslice hS h75 rfl rfl Vdf.el54 rfl rfl rfl rfl fun x130_62 T28 n28 h76 ρ its hS hdr => ?_
        refine LV.call hS h76 (g53_ok _ _ _ _ _ ) hP rfl rfl rfl rfl fun x131_63 T29 n29 h77 ρ its hS => ?_
        refine dn ?_
        refine CV.region ?_
        refine mv ?_
        refine mv ?_
        refine fl hS h77 Vdf.fo143_2 Vdf.one71 fun x136_64 h78 => ?_
        refine mv ?_
        refine vy (V.ia h78 rfl rfl Vdf.el71) fun x138_65 h79 => ?_
        refine vy (V.ld hS h79 rfl Vdf.one25) fun x139_66 h80 => ?_
        refine mv ?_
        refine vy (V.add h80 rfl rfl) fun x141_67 h81 => ?_
        refine LV.call hS h81 (hI _ _ _ _ _) hP rfl rfl rfl rfl fun x142_68 T30 n30 h82 ρ its hS => ?_
        refine LV.done ?_
        refine PV.blockN ?_
        refine PV.thenN ?_
        refine CV.region ?_
        refine vy (V.add h82 rfl rfl) fun x143_69 h83 => ?_
        refine mv ?_
        refine LV.done ?_
        exact pb6 hS h83 ⟨rfl, rfl, rfl, rfl, rfl, rfl, trivial⟩
      ·
       clear h69 h70
       subst e
       refine CV.exit ?_
       refine PV.thenE ?_
       refine PV.thenE ?_
       refine PV.blockE ?_
       refine PV.thenN ?_
       refine CV.region ?_
       refine mv ?_
       refine LV.bslice hS h71 rfl rfl Vdf.el54 rfl rfl rfl rfl fun x145_70 T31 n31 h84 ρ its hS hdr => ?_
       refine LV.call hS h84 (g53_ok _ _ _ _ _ ) hP rfl rfl rfl rfl fun x146_71 T32 n32 h85 ρ its hS => ?_
       refine LV.done ?_
       refine PV.blockN ?_
       cases h85
       exact PV.ret (by simp) Tryz.results59 hS RS.nil rfl
     ·
      clear h38 h61 h62 h63
      subst e
      refine CV.skip ?_
      refine PV.blockN ?_
      cases h64
      exact PV.ret (by simp) Tryz.results59 hS RS.nil rfl
noncomputable def ap1 (ih : FuncId → List HT → List AV → HT → Nat → R) (f : FuncId) (ro : List HT) (args : List AV) (T : HT) (nx : Nat) : R :=
  Bool.rec (motive := fun _ => R) (Bool.rec (motive := fun _ => R) (Bool.rec (motive := fun _ => R) (.bad 2) (List.rec (motive := fun _ => R) (.bad 1) (fun a0 l0 _ => List.rec (motive := fun _ => R) (.bad 1) (fun a1 l1 _ => List.rec (motive := fun _ => R) (.bad 1) (fun a2 l2 _ => List.rec (motive := fun _ => R) (g59 ih ro a0 a1 a2 T nx) (fun _ _ _ => .bad 1) l2) l1) l0) args) (Nat.beq f 59)) (Bool.rec (motive := fun _ => R) (.bad 2) (List.rec (motive := fun _ => R) (.bad 1) (fun a0 l0 _ => List.rec (motive := fun _ => R) (.bad 1) (fun a1 l1 _ => List.rec (motive := fun _ => R) (.bad 1) (fun a2 l2 _ => List.rec (motive := fun _ => R) (g58 ih ro a0 a1 a2 T nx) (fun _ _ _ => .bad 1) l2) l1) l0) args) (Nat.beq f 58)) (Nat.ble f 58)) (Bool.rec (motive := fun _ => R) (.bad 2) (List.rec (motive := fun _ => R) (.bad 1) (fun a0 l0 _ => List.rec (motive := fun _ => R) (.bad 1) (fun a1 l1 _ => List.rec (motive := fun _ => R) (.bad 1) (fun a2 l2 _ => List.rec (motive := fun _ => R) (g33 ih ro a0 a1 a2 T nx) (fun _ _ _ => .bad 1) l2) l1) l0) args) (Nat.beq f 33)) (Nat.ble f 33)
noncomputable def scc1 (fuel : Nat) : FuncId → List HT → List AV → HT → Nat → R :=
  Nat.rec (motive := fun _ => FuncId → List HT → List AV → HT → Nat → R) (fun _ _ _ _ _ => .bad 3) (fun _ ih => ap1 ih) fuel
theorem ap1_ok (ih : FuncId → List HT → List AV → HT → Nat → R) (hI : ∀ f ro args T nx, GOk Tryz.prog envE f args ro T nx (ih f ro args T nx)) (f : FuncId) (ro : List HT) (args : List AV) (T : HT) (nx : Nat) : GOk Tryz.prog envE f args ro T nx (ap1 ih f ro args T nx) := by
  unfold ap1
  refine recb_go (fun hb => ?_) (fun _ => ?_)
  · refine recb_go (fun hb => ?_) (fun _ => ?_)
    · obtain rfl := beqT hb
      rcases args with _ | ⟨a0, l0⟩
      · exact GOk.bad
      rcases l0 with _ | ⟨a1, l1⟩
      · exact GOk.bad
      rcases l1 with _ | ⟨a2, l2⟩
      · exact GOk.bad
      rcases l2 with _ | ⟨_, _⟩
      · exact g33_ok _ hI _ _ _ _ _ _ 
      · exact GOk.bad
    · exact GOk.bad
  · refine recb_go (fun hb => ?_) (fun _ => ?_)
    · refine recb_go (fun hb => ?_) (fun _ => ?_)
      · obtain rfl := beqT hb
        rcases args with _ | ⟨a0, l0⟩
        · exact GOk.bad
        rcases l0 with _ | ⟨a1, l1⟩
        · exact GOk.bad
        rcases l1 with _ | ⟨a2, l2⟩
        · exact GOk.bad
        rcases l2 with _ | ⟨_, _⟩
        · exact g58_ok _ hI _ _ _ _ _ _ 
        · exact GOk.bad
      · exact GOk.bad
    · refine recb_go (fun hb => ?_) (fun _ => ?_)
      · obtain rfl := beqT hb
        rcases args with _ | ⟨a0, l0⟩
        · exact GOk.bad
        rcases l0 with _ | ⟨a1, l1⟩
        · exact GOk.bad
        rcases l1 with _ | ⟨a2, l2⟩
        · exact GOk.bad
        rcases l2 with _ | ⟨_, _⟩
        · exact g59_ok _ hI _ _ _ _ _ _ 
        · exact GOk.bad
      · exact GOk.bad
theorem scc1_ok : ∀ (fuel : Nat) (f : FuncId) (ro : List HT) (args : List AV) (T : HT) (nx : Nat), GOk Tryz.prog envE f args ro T nx (scc1 fuel f ro args T nx)
  | 0, _, _, _, _, _ => GOk.bad
  | fuel + 1, f, ro, args, T, nx => ap1_ok (scc1 fuel) (scc1_ok fuel) f ro args T nx
noncomputable def g12 (ro : List HT) (a0 : AV) (T : HT) (nx : Nat) : R :=
 optK 120002 (bld81 []) fun x4_1 =>
 boxK 120003 T nx x4_1 81 fun x5_2 T1 n1 =>
 callK (scc1 4000 33 ro [x5_2, a0, (.lit (.int .i64 (.ofNat 0)))] T1 n1) fun x8_3 T2 n2 =>
 fldK 120009 T2 ro x5_2 0 fun x12_4 =>
 strBK 120010 T2 5 x12_4 fun x13_5 =>
 .ok (.val x13_5) T2 n2
theorem g12_ok (ro : List HT) (a0 : AV) (T : HT) (nx : Nat) : GOk Tryz.prog envE 12 [a0] ro T nx (g12 ro a0 T nx) := by
 refine GOk.of_body Tryz.func12 rfl Tryz.ntmps12 (by kernel_rfl) rfl fun r T' n' h1 w0 base ρ0 its hS hP => ?_
 have X : CtxW envE ρ0 ro r T' n' := trivial
 unfold g12 at h1
 refine sr ?_
 refine as_ ?_
 refine dn ?_
 refine sr ?_
 refine vy (V.bld h1 rfl) fun x4_1 h2 => ?_
 refine LV.box hS h2 rfl rfl rfl rfl rfl fun x5_2 T1 n1 h3 ρ its hS hdr => ?_
 refine as_ ?_
 refine dn ?_
 refine sr ?_
 refine mv ?_
 refine mv ?_
 refine LV.call hS h3 (scc1_ok _ _ _ _ _ _) hP rfl rfl rfl rfl fun x8_3 T2 n2 h4 ρ its hS => ?_
 refine dn ?_
 refine sr ?_
 refine mv ?_
 refine fl hS h4 Vdf.fo81_0 Vdf.one79 fun x12_4 h5 => ?_
 refine vy (V.strB hS h5 rfl Vdf.slt79 Vdf.u8t5 Vdf.st9) fun x13_5 h6 => ?_
 refine as_ ?_
 refine dn ?_
 refine CV.ret ?_
 cases h6
 exact PV.ret (by simp) Tryz.results12 hS (RS.tmp rfl RS.nil) rfl
noncomputable def g68_k4 (ro : List HT) (y37 : AV) (T6 : HT) (n6 : Nat) : R :=
 .ok (.val y37) T6 n6
noncomputable def g68_k3 (ro : List HT) (y2 y3 y30 : AV) (T5 : HT) (n5 : Nat) : R :=
 condK 680014 y30
 (
  faK 680015 y2 4 fun x32_8 =>
  ldK 680016 T5 ro x32_8 fun x33_9 =>
  faK 680017 y3 4 fun x34_10 =>
  ldK 680018 T5 ro x34_10 fun x35_11 =>
  eqSK Tryz.prog 9 (.tmp 33) (.tmp 35) 680019 x33_9 x35_11 fun x36_12 =>
  g68_k4 ro x36_12 T5 n5
 )
 (
  g68_k4 ro (.lit (.bool false)) T5 n5
 )
noncomputable def g68_k2 (ro : List HT) (y2 y3 y23 : AV) (T4 : HT) (n4 : Nat) : R :=
 condK 680022 y23
 (
  faK 680023 y2 3 fun x25_13 =>
  ldK 680024 T4 ro x25_13 fun x26_14 =>
  faK 680025 y3 3 fun x27_15 =>
  ldK 680026 T4 ro x27_15 fun x28_16 =>
  bin0 Tryz.prog .eql 4 (.tmp 26) (.tmp 28) 680027 x26_14 x28_16 fun x29_17 =>
  g68_k3 ro y2 y3 x29_17 T4 n4
 )
 (
  g68_k3 ro y2 y3 (.lit (.bool false)) T4 n4
 )
noncomputable def g68_k1 (ro : List HT) (y2 y3 y16 : AV) (T3 : HT) (n3 : Nat) : R :=
 condK 680030 y16
 (
  faK 680031 y2 2 fun x18_18 =>
  ldK 680032 T3 ro x18_18 fun x19_19 =>
  faK 680033 y3 2 fun x20_20 =>
  ldK 680034 T3 ro x20_20 fun x21_21 =>
  eqK Tryz.prog 3 (.tmp 19) (.tmp 21) 680035 x19_19 x21_21 fun x22_22 =>
  g68_k2 ro y2 y3 x22_22 T3 n3
 )
 (
  g68_k2 ro y2 y3 (.lit (.bool false)) T3 n3
 )
noncomputable def g68 (ro : List HT) (a0 a1 : AV) (T : HT) (nx : Nat) : R :=
 boxK 680001 T nx a0 93 fun x2_1 T1 n1 =>
 boxK 680002 T1 n1 a1 93 fun x3_2 T2 n2 =>
 faK 680004 x2_1 0 fun x5_3 =>
 ldK 680005 T2 ro x5_3 fun x6_4 =>
 faK 680006 x3_2 0 fun x7_5 =>
 ldK 680007 T2 ro x7_5 fun x8_6 =>
 eqK Tryz.prog 3 (.tmp 6) (.tmp 8) 680008 x6_4 x8_6 fun x9_7 =>
 condK 680038 x9_7
 (
  faK 680039 x2_1 1 fun x11_23 =>
  ldK 680040 T2 ro x11_23 fun x12_24 =>
  faK 680041 x3_2 1 fun x13_25 =>
  ldK 680042 T2 ro x13_25 fun x14_26 =>
  bin0 Tryz.prog .eql 4 (.tmp 12) (.tmp 14) 680043 x12_24 x14_26 fun x15_27 =>
  g68_k1 ro x2_1 x3_2 x15_27 T2 n2
 )
 (
  g68_k1 ro x2_1 x3_2 (.lit (.bool false)) T2 n2
 )
theorem g68_ok (ro : List HT) (a0 a1 : AV) (T : HT) (nx : Nat) : GOk Tryz.prog envE 68 [a0, a1] ro T nx (g68 ro a0 a1 T nx) := by
 refine GOk.of_body Tryz.func68 rfl Tryz.ntmps68 (by kernel_rfl) rfl fun r T' n' h1 w0 base ρ0 its hS hP => ?_
 have X : CtxW envE ρ0 ro r T' n' := trivial
 unfold g68 at h1
 refine sr ?_
 refine LV.box hS h1 rfl rfl rfl rfl rfl fun x2_1 T1 n1 h2 ρ its hS hdr => ?_
 refine LV.box hS h2 rfl rfl rfl rfl rfl fun x3_2 T2 n2 h3 ρ its hS hdr => ?_
 refine as_ ?_
 refine dn ?_
 refine sr ?_
 refine vy (V.fa h3 rfl Vdf.fo93_0) fun x5_3 h4 => ?_
 refine vy (V.ld hS h4 rfl Vdf.one3) fun x6_4 h5 => ?_
 refine vy (V.fa h5 rfl Vdf.fo93_0) fun x7_5 h6 => ?_
 refine vy (V.ld hS h6 rfl Vdf.one3) fun x8_6 h7 => ?_
 refine vy (V.eq h7 rfl rfl) fun x9_7 h8 => ?_
 refine mv ?_
 refine ls3 X 2 3 16 [(4, (.lit (.bool false)))] (g68_k1 ro) 6 ?_ ?_
 ·
  rcases condK_inv h8 with ⟨e, h31⟩ | ⟨e, h31⟩
  ·
   clear h1 h2 h3 h4 h5 h6 h7 h8
   subst e
   refine vy (V.fa h31 rfl Vdf.fo93_1) fun x11_23 h32 => ?_
   refine vy (V.ld hS h32 rfl Vdf.one4) fun x12_24 h33 => ?_
   refine vy (V.fa h33 rfl Vdf.fo93_1) fun x13_25 h34 => ?_
   refine vy (V.ld hS h34 rfl Vdf.one4) fun x14_26 h35 => ?_
   refine vy (V.bin0 h35 rfl rfl) fun x15_27 h36 => ?_
   refine pu ?_
   exact la3 hS h36 ⟨rfl, rfl, rfl, rfl, trivial⟩
  ·
   clear h1 h2 h3 h4 h5 h6 h7 h8
   subst e
   refine sk ?_
   refine sk ?_
   refine sk ?_
   refine sk ?_
   refine sk ?_
   refine pu ?_
   exact la3 hS h31 ⟨rfl, rfl, rfl, rfl, trivial⟩
 ·
  intro y2 y3 y16 T3 n3 ρ its hS h9
  unfold g68_k1 at h9
  clear h1 h2 h3 h4 h5 h6 h7 h8
  refine mv ?_
  refine ls3 X 2 3 23 [(4, (.lit (.bool false)))] (g68_k2 ro) 6 ?_ ?_
  ·
   rcases condK_inv h9 with ⟨e, h25⟩ | ⟨e, h25⟩
   ·
    clear h9
    subst e
    refine vy (V.fa h25 rfl Vdf.fo93_2) fun x18_18 h26 => ?_
    refine vy (V.ld hS h26 rfl Vdf.one3) fun x19_19 h27 => ?_
    refine vy (V.fa h27 rfl Vdf.fo93_2) fun x20_20 h28 => ?_
    refine vy (V.ld hS h28 rfl Vdf.one3) fun x21_21 h29 => ?_
    refine vy (V.eq h29 rfl rfl) fun x22_22 h30 => ?_
    refine pu ?_
    exact la3 hS h30 ⟨rfl, rfl, rfl, rfl, trivial⟩
   ·
    clear h9
    subst e
    refine sk ?_
    refine sk ?_
    refine sk ?_
    refine sk ?_
    refine sk ?_
    refine pu ?_
    exact la3 hS h25 ⟨rfl, rfl, rfl, rfl, trivial⟩
  ·
   intro y2 y3 y23 T4 n4 ρ its hS h10
   unfold g68_k2 at h10
   clear h9
   refine mv ?_
   refine ls3 X 2 3 30 [(4, (.lit (.bool false)))] (g68_k3 ro) 6 ?_ ?_
   ·
    rcases condK_inv h10 with ⟨e, h19⟩ | ⟨e, h19⟩
    ·
     clear h10
     subst e
     refine vy (V.fa h19 rfl Vdf.fo93_3) fun x25_13 h20 => ?_
     refine vy (V.ld hS h20 rfl Vdf.one4) fun x26_14 h21 => ?_
     refine vy (V.fa h21 rfl Vdf.fo93_3) fun x27_15 h22 => ?_
     refine vy (V.ld hS h22 rfl Vdf.one4) fun x28_16 h23 => ?_
     refine vy (V.bin0 h23 rfl rfl) fun x29_17 h24 => ?_
     refine pu ?_
     exact la3 hS h24 ⟨rfl, rfl, rfl, rfl, trivial⟩
    ·
     clear h10
     subst e
     refine sk ?_
     refine sk ?_
     refine sk ?_
     refine sk ?_
     refine sk ?_
     refine pu ?_
     exact la3 hS h19 ⟨rfl, rfl, rfl, rfl, trivial⟩
   ·
    intro y2 y3 y30 T5 n5 ρ its hS h11
    unfold g68_k3 at h11
    clear h10
    refine mv ?_
    refine ls1 X 37 [(4, (.lit (.bool false)))] (g68_k4 ro) 6 ?_ ?_
    ·
     rcases condK_inv h11 with ⟨e, h13⟩ | ⟨e, h13⟩
     ·
      clear h11
      subst e
      refine vy (V.fa h13 rfl Vdf.fo93_4) fun x32_8 h14 => ?_
      refine vy (V.ld hS h14 rfl Vdf.one9) fun x33_9 h15 => ?_
      refine vy (V.fa h15 rfl Vdf.fo93_4) fun x34_10 h16 => ?_
      refine vy (V.ld hS h16 rfl Vdf.one9) fun x35_11 h17 => ?_
      refine vy (V.eqS h17 rfl rfl) fun x36_12 h18 => ?_
      refine pu ?_
      exact la1 hS h18 ⟨rfl, rfl, trivial⟩
     ·
      clear h11
      subst e
      refine sk ?_
      refine sk ?_
      refine sk ?_
      refine sk ?_
      refine sk ?_
      refine pu ?_
      exact la1 hS h13 ⟨rfl, rfl, trivial⟩
    ·
     intro y37 T6 n6 ρ its hS h12
     unfold g68_k4 at h12
     clear h11
     refine as_ ?_
     refine dn ?_
     refine CV.ret ?_
     cases h12
     exact PV.ret (by simp) Tryz.results68 hS (RS.tmp rfl RS.nil) rfl
noncomputable def g37 (ro : List HT) (a0 : AV) (T : HT) (nx : Nat) : R :=
 newK T nx (.obj [.lit (.int .i64 0), .lit (.bool false), .lit (.int .i64 0), .lit (.bool false), .lit (.string ⟨#[]⟩)] 93) fun x2_1 T1 n1 =>
 optK 370003 (bld93 [(0, a0)]) fun x4_2 =>
 stAK 370004 T1 x2_1 x4_2 5 fun T2 =>
 ldAK 370005 T2 ro x2_1 5 fun x2_3 =>
 .ok (.val x2_3) T2 n1
theorem g37_ok (ro : List HT) (a0 : AV) (T : HT) (nx : Nat) : GOk Tryz.prog envE 37 [a0] ro T nx (g37 ro a0 T nx) := by
 refine GOk.of_body Tryz.func37 rfl Tryz.ntmps37 (by kernel_rfl) rfl fun r T' n' h1 w0 base ρ0 its hS hP => ?_
 have X : CtxW envE ρ0 ro r T' n' := trivial
 unfold g37 at h1
 refine sr ?_
 refine LV.alloc hS h1 rfl Vdf.zr93 rfl rfl rfl fun x2_1 T1 n1 h2 ρ its hS hdr => ?_
 refine dn ?_
 refine sr ?_
 refine mv ?_
 refine vy (V.bld h2 rfl) fun x4_2 h3 => ?_
 refine LV.stA hS h3 rfl rfl rfl Vdf.agg93 rfl rfl rfl fun T2 its h4 hS => ?_
 refine dn ?_
 refine CV.ret ?_
 refine PV.ldA (x := .tmp 2) (t := 93) hS h4 rfl Vdf.agg93 fun x2_3 h5 hVx2_3 => ?_
 cases h5
 exact PV.ret (by simp) Tryz.results37 hS (RS.cell hVx2_3 RS.nil) rfl

end Go.Proofs.YtlljgagoboapaaaGreatDoor.Vd
