/-
  Proved here: plain functions that do what the program's functions do, each with its proof.
-/
import Derived.Test.YtdepmlcnllofiaaDoorPad
namespace Go.Proofs.YtdepmlcnllofiaaDoor.Pa
open Go.EY Go.EX Go.SX Go.RowKit
noncomputable def g79_k2 (ro : List HT) (lp1 : AV → AV → AV → AV → AV → HT → Nat → R) (y0 y2 y3 y4 y6 y10 y25 : AV) (T3 : HT) (n3 : Nat) : R :=
 condK 790025 y25
 (
  .ok (.val (.tup [(.lit (.int .u8 (.ofNat 0))), (.lit (.bool false))])) T3 n3
 )
 (
  bin0 Tryd.prog .shl 5 (.tmp 26) (.const (.int .u64 (.ofNat 4))) 790029 y4 (.lit (.int .u64 (.ofNat 4))) fun x27_8 =>
  optK 790031 (convV Tryd.prog 3 5 y6) fun x29_9 =>
  bin0 Tryd.prog .or 5 (.tmp 27) (.tmp 29) 790032 x27_8 x29_9 fun x30_10 =>
  addK Tryd.prog 3 (.tmp 10) (.const (.int .i64 (.ofNat 1))) 790034 y10 (.lit (.int .i64 (.ofNat 1))) fun x31_11 =>
  lp1 y0 y2 y3 x30_10 x31_11 T3 n3
 )
noncomputable def g79_b1 (ro : List HT) (lp1 : AV → AV → AV → AV → AV → HT → Nat → R) (y0 y2 y3 y4 y10 : AV) (T1 : HT) (n1 : Nat) : R :=
 ltK Tryd.prog 3 (.tmp 10) (.const (.int .i64 (.ofNat 2))) 790012 y10 (.lit (.int .i64 (.ofNat 2))) fun x11_3 =>
 condK 790013 x11_3
 (
  ixK 790018 y0 y10 fun x15_4 =>
  bin0 Tryd.prog .or 5 (.tmp 15) (.const (.int .u8 (.ofNat 32))) 790019 x15_4 (.lit (.int .u8 (.ofNat 32))) fun x16_5 =>
  callK (g72 ro (.lit (.string ⟨⟨[48, 49, 50, 51, 52, 53, 54, 55, 56, 57, 97, 98, 99, 100, 101, 102]⟩⟩)) x16_5 T1 n1) fun x17_6 T2 n2 =>
  ltK Tryd.prog 3 (.tmp 18) (.const (.int .i64 (.ofNat 0))) 790023 x17_6 (.lit (.int .i64 (.ofNat 0))) fun x19_7 =>
  condK 790036 x19_7
  (
   g79_k2 ro lp1 y0 y2 y3 y4 x17_6 y10 (.lit (.bool true)) T2 n2
  )
  (
   ixK 790040 y0 y10 fun x23_12 =>
   ltK Tryd.prog 5 (.tmp 23) (.const (.int .u8 (.ofNat 48))) 790041 x23_12 (.lit (.int .u8 (.ofNat 48))) fun x24_13 =>
   g79_k2 ro lp1 y0 y2 y3 y4 x17_6 y10 x24_13 T2 n2
  )
 )
 (
  .ok (.val (.tup [y4, (.lit (.bool true))])) T1 n1
 )
noncomputable def g79 (ro : List HT) (a0 : AV) (T : HT) (nx : Nat) : R :=
 lenTK 790005 a0 fun x8_1 =>
 ltK Tryd.prog 3 (.tmp 8) (.const (.int .i64 (.ofNat 2))) 790006 x8_1 (.lit (.int .i64 (.ofNat 2))) fun x9_2 =>
 condK 790007 x9_2
 (
  .ok (.val (.tup [(.lit (.int .u8 (.ofNat 0))), (.lit (.bool false))])) T nx
 )
 (
  lpf5 790011 (g79_b1 ro) 100000 a0 (.lit (.int .u8 (.ofNat 0))) (.lit (.bool false)) (.lit (.int .u8 (.ofNat 0))) (.lit (.int .i64 (.ofNat 0))) T nx
 )
theorem g79_ok (ro : List HT) (a0 : AV) (T : HT) (nx : Nat) : GOk Tryd.prog envE 79 [a0] ro T nx (g79 ro a0 T nx) := by
 refine GOk.of_body Tryd.func79 rfl Tryd.ntmps79 (by kernel_rfl) rfl fun r T' n' h1 w0 base ρ0 its hS hP => ?_
 have X : CtxW envE ρ0 ro r T' n' := trivial
 unfold g79 at h1
 refine sr ?_
 refine as_ ?_
 refine as_ ?_
 refine dn ?_
 refine sr ?_
 refine as_ ?_
 refine dn ?_
 refine CV.seq ?_
 refine sr ?_
 refine mv ?_
 refine vy (V.lenT h1 rfl Paf.ls9) fun x8_1 h2 => ?_
 refine vy (V.lt h2 rfl rfl) fun x9_2 h3 => ?_
 refine dn ?_
 refine CV.cond h3 rfl (fun e h4 => ?_) (fun e h4 => ?_)
 ·
  clear h1 h2 h3
  subst e
  refine sr ?_
  refine as_ ?_
  refine as_ ?_
  refine dn ?_
  refine CV.ret ?_
  refine PV.thenR ?_
  cases h4
  exact PV.ret (by simp) Tryd.results79 hS (RS.tmp rfl (RS.tmp rfl RS.nil)) rfl
 ·
  clear h1 h2 h3
  subst e
  refine CV.skip ?_
  refine PV.thenN ?_
  refine CV.seq ?_
  refine sr ?_
  refine mv ?_
  refine dn ?_
  refine CV.block ?_
  refine cl5 X 0 2 3 4 10 [] hS h4 ⟨rfl, rfl, rfl, rfl, rfl, trivial⟩ ?_
  intro f1 y0 y2 y3 y4 y10 T1 n1 ρ its hS h5
  unfold g79_b1 at h5
  clear h4
  refine sr ?_
  refine vy (V.lt h5 rfl rfl) fun x11_3 h6 => ?_
  refine dn ?_
  refine CV.seq ?_
  refine CV.cond h6 rfl (fun e h7 => ?_) (fun e h7 => ?_)
  ·
   clear h5 h6
   subst e
   refine CV.skip ?_
   refine PV.thenN ?_
   refine CV.seq ?_
   refine CV.block ?_
   refine sr ?_
   refine mv ?_
   refine as_ ?_
   refine dn ?_
   refine sr ?_
   refine mv ?_
   refine mv ?_
   refine vy (V.ix h7 rfl rfl Paf.st9) fun x15_4 h8 => ?_
   refine vy (V.bin0 h8 rfl rfl) fun x16_5 h9 => ?_
   refine LV.call hS h9 (g72_ok _ _ _ _ _ ) hP rfl rfl rfl rfl fun x17_6 T2 n2 h10 ρ its hS => ?_
   refine as_ ?_
   refine dn ?_
   refine CV.seq ?_
   refine sr ?_
   refine mv ?_
   refine vy (V.lt h10 rfl rfl) fun x19_7 h11 => ?_
   refine mv ?_
   refine ls7 X 0 2 3 4 6 10 25 [] (g79_k2 ro (lpf5 790011 (g79_b1 ro) f1)) 5 ?_ ?_
   ·
    rcases condK_inv h11 with ⟨e, h18⟩ | ⟨e, h18⟩
    ·
     clear h7 h8 h9 h10 h11
     subst e
     refine sk ?_
     refine sk ?_
     refine sk ?_
     refine sk ?_
     refine pu ?_
     exact la7 hS h18 ⟨rfl, rfl, rfl, rfl, rfl, rfl, rfl, trivial⟩
    ·
     clear h7 h8 h9 h10 h11
     subst e
     refine mv ?_
     refine mv ?_
     refine vy (V.ix h18 rfl rfl Paf.st9) fun x23_12 h19 => ?_
     refine vy (V.lt h19 rfl rfl) fun x24_13 h20 => ?_
     refine pu ?_
     exact la7 hS h20 ⟨rfl, rfl, rfl, rfl, rfl, rfl, rfl, trivial⟩
   ·
    intro y0 y2 y3 y4 y6 y10 y25 T3 n3 ρ its hS h12
    unfold g79_k2 at h12
    clear h7 h8 h9 h10 h11
    refine dn ?_
    refine CV.cond h12 rfl (fun e h13 => ?_) (fun e h13 => ?_)
    ·
     clear h12
     subst e
     refine sr ?_
     refine as_ ?_
     refine as_ ?_
     refine dn ?_
     refine CV.ret ?_
     refine PV.thenR ?_
     refine PV.blockR ?_
     refine PV.thenR ?_
     refine PV.thenR ?_
     refine PV.blockR ?_
     refine PV.thenR ?_
     cases h13
     exact PV.ret (by simp) Tryd.results79 hS (RS.tmp rfl (RS.tmp rfl RS.nil)) rfl
    ·
     clear h12
     subst e
     refine CV.skip ?_
     refine PV.thenN ?_
     refine CV.region ?_
     refine mv ?_
     refine vy (V.bin0 h13 rfl rfl) fun x27_8 h14 => ?_
     refine mv ?_
     refine vy (V.conv h14 rfl) fun x29_9 h15 => ?_
     refine vy (V.bin0 h15 rfl rfl) fun x30_10 h16 => ?_
     refine as_ ?_
     refine LV.done ?_
     refine PV.blockN ?_
     refine PV.thenN ?_
     refine CV.region ?_
     refine vy (V.add h16 rfl rfl) fun x31_11 h17 => ?_
     refine mv ?_
     refine LV.done ?_
     exact pb5 hS h17 ⟨rfl, rfl, rfl, rfl, rfl, trivial⟩
  ·
   clear h5 h6
   subst e
   refine CV.exit ?_
   refine PV.thenE ?_
   refine PV.thenE ?_
   refine PV.blockE ?_
   refine PV.thenN ?_
   refine sr ?_
   refine mv ?_
   refine as_ ?_
   refine as_ ?_
   refine dn ?_
   refine CV.ret ?_
   cases h7
   exact PV.ret (by simp) Tryd.results79 hS (RS.tmp rfl (RS.tmp rfl RS.nil)) rfl
noncomputable def g70_k2 (ro : List HT) (y0 y30 : AV) (T2 : HT) (n2 : Nat) : R :=
 condK 700029 y30
 (
  ixK 700031 y0 (.lit (.int .i64 (.ofNat 0))) fun x32_8 =>
  .ok (.val (.tup [x32_8, (.lit (.int .i64 (.ofNat 1)))])) T2 n2
 )
 (
  ixK 700035 y0 (.lit (.int .i64 (.ofNat 0))) fun x35_9 =>
  neK Tryd.prog 5 (.tmp 35) (.const (.int .u8 (.ofNat 120))) 700036 x35_9 (.lit (.int .u8 (.ofNat 120))) fun x36_10 =>
  condK 700038 x36_10
  (
   .ok (.val (.tup [(.lit (.int .u8 (.ofNat 0))), (.lit (.int .i64 (.ofNat 0)))])) T2 n2
  )
  (
   sliceK 700042 y0 (some (.lit (.int .i64 (.ofNat 1)))) none fun x39_11 =>
   callK (g79 ro x39_11 T2 n2) fun x40_12 T3 n3 =>
   exK 700045 x40_12 0 fun x41_13 =>
   exK 700046 x40_12 1 fun x42_14 =>
   notK 700050 x42_14 fun x44_15 =>
   condK 700051 x44_15
   (
    .ok (.val (.tup [(.lit (.int .u8 (.ofNat 0))), (.lit (.int .i64 (.ofNat 0)))])) T3 n3
   )
   (
    .ok (.val (.tup [x41_13, (.lit (.int .i64 (.ofNat 3)))])) T3 n3
   )
  )
 )
noncomputable def g70_k1 (ro : List HT) (y0 y25 : AV) (T1 : HT) (n1 : Nat) : R :=
 condK 700057 y25
 (
  g70_k2 ro y0 (.lit (.bool true)) T1 n1
 )
 (
  ixK 700060 y0 (.lit (.int .i64 (.ofNat 0))) fun x28_16 =>
  eqK Tryd.prog 5 (.tmp 28) (.const (.int .u8 (.ofNat 39))) 700061 x28_16 (.lit (.int .u8 (.ofNat 39))) fun x29_17 =>
  g70_k2 ro y0 x29_17 T1 n1
 )
noncomputable def g70 (ro : List HT) (a0 : AV) (T : HT) (nx : Nat) : R :=
 eqSK Tryd.prog 9 (.tmp 7) (.const (.string ⟨⟨[]⟩⟩)) 700004 a0 (.lit (.string ⟨⟨[]⟩⟩)) fun x8_1 =>
 condK 700006 x8_1
 (
  .ok (.val (.tup [(.lit (.int .u8 (.ofNat 0))), (.lit (.int .i64 (.ofNat 0)))])) T nx
 )
 (
  ixK 700010 a0 (.lit (.int .i64 (.ofNat 0))) fun x11_2 =>
  eqK Tryd.prog 5 (.tmp 11) (.const (.int .u8 (.ofNat 110))) 700011 x11_2 (.lit (.int .u8 (.ofNat 110))) fun x12_3 =>
  condK 700013 x12_3
  (
   .ok (.val (.tup [(.lit (.int .u8 (.ofNat 10))), (.lit (.int .i64 (.ofNat 1)))])) T nx
  )
  (
   ixK 700017 a0 (.lit (.int .i64 (.ofNat 0))) fun x15_4 =>
   eqK Tryd.prog 5 (.tmp 15) (.const (.int .u8 (.ofNat 116))) 700018 x15_4 (.lit (.int .u8 (.ofNat 116))) fun x16_5 =>
   condK 700020 x16_5
   (
    .ok (.val (.tup [(.lit (.int .u8 (.ofNat 9))), (.lit (.int .i64 (.ofNat 1)))])) T nx
   )
   (
    ixK 700024 a0 (.lit (.int .i64 (.ofNat 0))) fun x19_6 =>
    eqK Tryd.prog 5 (.tmp 19) (.const (.int .u8 (.ofNat 92))) 700025 x19_6 (.lit (.int .u8 (.ofNat 92))) fun x20_7 =>
    condK 700063 x20_7
    (
     g70_k1 ro a0 (.lit (.bool true)) T nx
    )
    (
     ixK 700066 a0 (.lit (.int .i64 (.ofNat 0))) fun x23_18 =>
     eqK Tryd.prog 5 (.tmp 23) (.const (.int .u8 (.ofNat 34))) 700067 x23_18 (.lit (.int .u8 (.ofNat 34))) fun x24_19 =>
     g70_k1 ro a0 x24_19 T nx
    )
   )
  )
 )
theorem g70_ok (ro : List HT) (a0 : AV) (T : HT) (nx : Nat) : GOk Tryd.prog envE 70 [a0] ro T nx (g70 ro a0 T nx) := by
 refine GOk.of_body Tryd.func70 rfl Tryd.ntmps70 (by kernel_rfl) rfl fun r T' n' h1 w0 base ρ0 its hS hP => ?_
 have X : CtxW envE ρ0 ro r T' n' := trivial
 unfold g70 at h1
 refine sr ?_
 refine as_ ?_
 refine as_ ?_
 refine dn ?_
 refine CV.seq ?_
 refine CV.block ?_
 refine sr ?_
 refine mv ?_
 refine vy (V.eqS h1 rfl rfl) fun x8_1 h2 => ?_
 refine as_ ?_
 refine dn ?_
 refine CV.cond h2 rfl (fun e h3 => ?_) (fun e h3 => ?_)
 ·
  clear h1 h2
  subst e
  refine sr ?_
  refine as_ ?_
  refine as_ ?_
  refine dn ?_
  refine CV.ret ?_
  refine PV.blockR ?_
  refine PV.thenR ?_
  cases h3
  exact PV.ret (by simp) Tryd.results70 hS (RS.tmp rfl (RS.tmp rfl RS.nil)) rfl
 ·
  clear h1 h2
  subst e
  refine sr ?_
  refine mv ?_
  refine vy (V.ix h3 rfl rfl Paf.st9) fun x11_2 h4 => ?_
  refine vy (V.eq h4 rfl rfl) fun x12_3 h5 => ?_
  refine as_ ?_
  refine dn ?_
  refine CV.cond h5 rfl (fun e h6 => ?_) (fun e h6 => ?_)
  ·
   clear h3 h4 h5
   subst e
   refine sr ?_
   refine as_ ?_
   refine as_ ?_
   refine dn ?_
   refine CV.ret ?_
   refine PV.blockR ?_
   refine PV.thenR ?_
   cases h6
   exact PV.ret (by simp) Tryd.results70 hS (RS.tmp rfl (RS.tmp rfl RS.nil)) rfl
  ·
   clear h3 h4 h5
   subst e
   refine sr ?_
   refine mv ?_
   refine vy (V.ix h6 rfl rfl Paf.st9) fun x15_4 h7 => ?_
   refine vy (V.eq h7 rfl rfl) fun x16_5 h8 => ?_
   refine as_ ?_
   refine dn ?_
   refine CV.cond h8 rfl (fun e h9 => ?_) (fun e h9 => ?_)
   ·
    clear h6 h7 h8
    subst e
    refine sr ?_
    refine as_ ?_
    refine as_ ?_
    refine dn ?_
    refine CV.ret ?_
    refine PV.blockR ?_
    refine PV.thenR ?_
    cases h9
    exact PV.ret (by simp) Tryd.results70 hS (RS.tmp rfl (RS.tmp rfl RS.nil)) rfl
   ·
    clear h6 h7 h8
    subst e
    refine sr ?_
    refine mv ?_
    refine vy (V.ix h9 rfl rfl Paf.st9) fun x19_6 h10 => ?_
    refine vy (V.eq h10 rfl rfl) fun x20_7 h11 => ?_
    refine mv ?_
    refine ls2 X 0 25 [(2, (.lit (.int .u8 (.ofNat 0)))), (3, (.lit (.int .i64 (.ofNat 0))))] (g70_k1 ro) 4 ?_ ?_
    ·
     rcases condK_inv h11 with ⟨e, h28⟩ | ⟨e, h28⟩
     ·
      clear h9 h10 h11
      subst e
      refine sk ?_
      refine sk ?_
      refine sk ?_
      refine pu ?_
      exact la2 hS h28 ⟨rfl, rfl, rfl, rfl, trivial⟩
     ·
      clear h9 h10 h11
      subst e
      refine mv ?_
      refine vy (V.ix h28 rfl rfl Paf.st9) fun x23_18 h29 => ?_
      refine vy (V.eq h29 rfl rfl) fun x24_19 h30 => ?_
      refine pu ?_
      exact la2 hS h30 ⟨rfl, rfl, rfl, rfl, trivial⟩
    ·
     intro y0 y25 T1 n1 ρ its hS h12
     unfold g70_k1 at h12
     clear h9 h10 h11
     refine mv ?_
     refine ls2 X 0 30 [(2, (.lit (.int .u8 (.ofNat 0)))), (3, (.lit (.int .i64 (.ofNat 0))))] (g70_k2 ro) 4 ?_ ?_
     ·
      rcases condK_inv h12 with ⟨e, h25⟩ | ⟨e, h25⟩
      ·
       clear h12
       subst e
       refine sk ?_
       refine sk ?_
       refine sk ?_
       refine pu ?_
       exact la2 hS h25 ⟨rfl, rfl, rfl, rfl, trivial⟩
      ·
       clear h12
       subst e
       refine mv ?_
       refine vy (V.ix h25 rfl rfl Paf.st9) fun x28_16 h26 => ?_
       refine vy (V.eq h26 rfl rfl) fun x29_17 h27 => ?_
       refine pu ?_
       exact la2 hS h27 ⟨rfl, rfl, rfl, rfl, trivial⟩
     ·
      intro y0 y30 T2 n2 ρ its hS h13
      unfold g70_k2 at h13
      clear h12
      refine as_ ?_
      refine dn ?_
      refine CV.cond h13 rfl (fun e h14 => ?_) (fun e h14 => ?_)
      ·
       clear h13
       subst e
       refine sr ?_
       refine mv ?_
       refine vy (V.ix h14 rfl rfl Paf.st9) fun x32_8 h15 => ?_
       refine as_ ?_
       refine as_ ?_
       refine dn ?_
       refine CV.ret ?_
       refine PV.blockR ?_
       refine PV.thenR ?_
       cases h15
       exact PV.ret (by simp) Tryd.results70 hS (RS.tmp rfl (RS.tmp rfl RS.nil)) rfl
      ·
       clear h13
       subst e
       refine sr ?_
       refine mv ?_
       refine vy (V.ix h14 rfl rfl Paf.st9) fun x35_9 h16 => ?_
       refine vy (V.ne h16 rfl rfl) fun x36_10 h17 => ?_
       refine as_ ?_
       refine dn ?_
       refine CV.cond h17 rfl (fun e h18 => ?_) (fun e h18 => ?_)
       ·
        clear h14 h16 h17
        subst e
        refine sr ?_
        refine as_ ?_
        refine as_ ?_
        refine dn ?_
        refine CV.ret ?_
        refine PV.blockR ?_
        refine PV.thenR ?_
        cases h18
        exact PV.ret (by simp) Tryd.results70 hS (RS.tmp rfl (RS.tmp rfl RS.nil)) rfl
       ·
        clear h14 h16 h17
        subst e
        refine CV.skip ?_
        refine PV.blockN ?_
        refine PV.thenN ?_
        refine sr ?_
        refine mv ?_
        refine vy (V.slLo h18 rfl rfl Paf.st9) fun x39_11 h19 => ?_
        refine LV.call hS h19 (g79_ok _ _ _ _ ) hP rfl rfl rfl rfl fun x40_12 T3 n3 h20 ρ its hS => ?_
        refine mv ?_
        refine vy (V.ex h20 rfl) fun x41_13 h21 => ?_
        refine vy (V.ex h21 rfl) fun x42_14 h22 => ?_
        refine as_ ?_
        refine as_ ?_
        refine dn ?_
        refine CV.seq ?_
        refine sr ?_
        refine mv ?_
        refine vy (V.not h22 rfl) fun x44_15 h23 => ?_
        refine dn ?_
        refine CV.cond h23 rfl (fun e h24 => ?_) (fun e h24 => ?_)
        ·
         clear h18 h19 h20 h21 h22 h23
         subst e
         refine sr ?_
         refine as_ ?_
         refine as_ ?_
         refine dn ?_
         refine CV.ret ?_
         refine PV.thenR ?_
         cases h24
         exact PV.ret (by simp) Tryd.results70 hS (RS.tmp rfl (RS.tmp rfl RS.nil)) rfl
        ·
         clear h18 h19 h20 h21 h22 h23
         subst e
         refine CV.skip ?_
         refine PV.thenN ?_
         refine sr ?_
         refine mv ?_
         refine as_ ?_
         refine as_ ?_
         refine dn ?_
         refine CV.ret ?_
         cases h24
         exact PV.ret (by simp) Tryd.results70 hS (RS.tmp rfl (RS.tmp rfl RS.nil)) rfl
noncomputable def g52_k2 (ro : List HT) (lp1 : AV → AV → AV → AV → AV → AV → HT → Nat → R) (y0 y4 y5 y6 y7 y8 : AV) (T4 : HT) (n4 : Nat) : R :=
 addK Tryd.prog 3 (.tmp 29) (.const (.int .i64 (.ofNat 1))) 520029 y8 (.lit (.int .i64 (.ofNat 1))) fun x30_10 =>
 lp1 y0 y4 y5 y6 y7 x30_10 T4 n4
noncomputable def g52_k3 (ro : List HT) (lp1 : AV → AV → AV → AV → AV → AV → HT → Nat → R) (y0 y4 y5 y6 y7 y8 y9 y44 : AV) (T5 : HT) (n5 : Nat) : R :=
 condK 520044 y44
 (
  callK (g32 ro y8 T5 n5) fun x46_17 T6 n6 =>
  .ok (.val x46_17) T6 n6
 )
 (
  bsK 520050 T5 n5 1 5 1 [(0, y9)] fun x49_18 T7 n7 =>
  appK 520051 T7 ro n7 5 1 1 y7 x49_18 fun x50_19 T8 n8 =>
  g52_k2 ro lp1 y0 y4 y5 y6 x50_19 y8 T8 n8
 )
noncomputable def g52_b1 (ro : List HT) (lp1 : AV → AV → AV → AV → AV → AV → HT → Nat → R) (y0 y4 y5 y6 y7 y8 : AV) (T3 : HT) (n3 : Nat) : R :=
 subK Tryd.prog 3 (.tmp 26) (.const (.int .i64 (.ofNat 1))) 520025 y6 (.lit (.int .i64 (.ofNat 1))) fun x27_8 =>
 ltK Tryd.prog 3 (.tmp 25) (.tmp 27) 520026 y8 x27_8 fun x28_9 =>
 condK 520027 x28_9
 (
  ncK 520032 y0 fun x32_11 =>
  faK 520033 x32_11 0 fun x33_12 =>
  ldK 520034 T3 ro x33_12 fun x34_13 =>
  ixK 520036 x34_13 y8 fun x36_14 =>
  neK Tryd.prog 5 (.tmp 37) (.const (.int .u8 (.ofNat 92))) 520039 x36_14 (.lit (.int .u8 (.ofNat 92))) fun x38_15 =>
  condK 520040 x38_15
  (
   ltK Tryd.prog 5 (.tmp 39) (.const (.int .u8 (.ofNat 32))) 520042 x36_14 (.lit (.int .u8 (.ofNat 32))) fun x40_16 =>
   condK 520053 x40_16
   (
    g52_k3 ro lp1 y0 y4 y5 y6 y7 y8 x36_14 (.lit (.bool true)) T3 n3
   )
   (
    eqK Tryd.prog 5 (.tmp 42) (.const (.int .u8 (.ofNat 127))) 520056 x36_14 (.lit (.int .u8 (.ofNat 127))) fun x43_20 =>
    g52_k3 ro lp1 y0 y4 y5 y6 y7 y8 x36_14 x43_20 T3 n3
   )
  )
  (
   ncK 520059 y0 fun x53_21 =>
   faK 520060 x53_21 0 fun x54_22 =>
   ldK 520061 T3 ro x54_22 fun x55_23 =>
   addK Tryd.prog 3 (.tmp 56) (.const (.int .i64 (.ofNat 1))) 520063 y8 (.lit (.int .i64 (.ofNat 1))) fun x57_24 =>
   subK Tryd.prog 3 (.tmp 58) (.const (.int .i64 (.ofNat 1))) 520065 y6 (.lit (.int .i64 (.ofNat 1))) fun x59_25 =>
   sliceK 520066 x55_23 (some x57_24) (some x59_25) fun x60_26 =>
   callK (g70 ro x60_26 T3 n3) fun x61_27 T9 n9 =>
   exK 520069 x61_27 0 fun x62_28 =>
   exK 520070 x61_27 1 fun x63_29 =>
   eqK Tryd.prog 3 (.tmp 64) (.const (.int .i64 (.ofNat 0))) 520074 x63_29 (.lit (.int .i64 (.ofNat 0))) fun x65_30 =>
   condK 520075 x65_30
   (
    callK (g32 ro y8 T9 n9) fun x67_31 T10 n10 =>
    .ok (.val x67_31) T10 n10
   )
   (
    bsK 520081 T9 n9 1 5 1 [(0, x62_28)] fun x70_32 T11 n11 =>
    appK 520082 T11 ro n11 5 1 1 y7 x70_32 fun x71_33 T12 n12 =>
    addK Tryd.prog 3 (.tmp 72) (.tmp 73) 520086 y8 x63_29 fun x74_34 =>
    g52_k2 ro lp1 y0 y4 y5 y6 x71_33 x74_34 T12 n12
   )
  )
 )
 (
  ncK 520090 y0 fun x77_35 =>
  faK 520091 x77_35 1 fun x78_36 =>
  stK 520092 T3 x78_36 y6 fun T13 =>
  strBK 520095 T13 5 y7 fun x81_37 =>
  callK (g34 ro y0 (.lit (.int .i64 (.ofNat 3))) x81_37 y5 T13 n3) fun x83_38 T14 n14 =>
  .ok (.val (.lit (.nilIface))) T14 n14
 )
noncomputable def g52 (ro : List HT) (a0 a1 : AV) (T : HT) (nx : Nat) : R :=
 ncK 520003 a0 fun x13_1 =>
 faK 520004 x13_1 1 fun x14_2 =>
 ldQK 520005 T ro [a0] x14_2 fun x15_3 =>
 callK (g69 ro a0 a1 T nx) fun x18_4 T1 n1 =>
 keepK 520009 T T1 [a0] <|
 ltK Tryd.prog 3 (.tmp 19) (.const (.int .i64 (.ofNat 0))) 520013 x18_4 (.lit (.int .i64 (.ofNat 0))) fun x20_5 =>
 condK 520014 x20_5
 (
  callK (g32 ro x15_3 T1 n1) fun x22_6 T2 n2 =>
  .ok (.val x22_6) T2 n2
 )
 (
  addK Tryd.prog 3 (.tmp 23) (.const (.int .i64 (.ofNat 1))) 520020 x15_3 (.lit (.int .i64 (.ofNat 1))) fun x24_7 =>
  lpf6 520022 (g52_b1 ro) 100000 a0 (.lit (.nilIface)) x15_3 x18_4 (.lit (.slice none 0 0)) x24_7 T1 n1
 )
theorem g52_ok (ro : List HT) (a0 a1 : AV) (T : HT) (nx : Nat) : GOk Tryd.prog envE 52 [a0, a1] ro T nx (g52 ro a0 a1 T nx) := by
 refine GOk.of_body Tryd.func52 rfl Tryd.ntmps52 (by kernel_rfl) rfl fun r T' n' h1 w0 base ρ0 its hS hP => ?_
 have X : CtxW envE ρ0 ro r T' n' := trivial
 unfold g52 at h1
 refine sr ?_
 refine as_ ?_
 refine dn ?_
 refine CV.seq ?_
 refine CV.regionMS hS [a0] [(0, .anywhere), (1, .anywhere), (2, .anywhere), (3, .held), (4, .anywhere), (5, .anywhere), (6, .alone), (7, .alone), (8, .alone)] rfl (fun c a a' w hd hq => PanicOk.root (P := Tryd.prog) (fn := Tryd.f52) (w0 := w0) (base := base) (E := envE) (ro := ro) (r := r) (T' := T') (n' := n') (ρ0 := ρ0) c a a' w hd hq) (by kernel_rfl) ?_
 have hK := KeepS.start [a0] hS
 have hR := hS
 have hP0 := hP
 replace hP := PK.up hR hP
 replace hS := hR.root
 refine MV.step0 (i := 0) rfl (VAL.move rfl) rfl rfl rfl ?_
 refine MV.lift0 (i := 1) rfl (V.nc h1 rfl) rfl rfl rfl fun x13_1 h2 => ?_
 refine MV.lift0 (i := 2) rfl (V.fa h2 rfl Paf.fo72_1) rfl rfl rfl fun x14_2 h3 => ?_
 refine MV.lift1 (i := 3) rfl hK (V.ldQ hS h3 rfl Paf.one3) rfl rfl rfl [] (by kernel_rfl) fun x15_3 h4 => ?_
 refine MV.step0 (i := 4) rfl (VAL.move rfl) rfl rfl rfl ?_
 refine MV.step0 (i := 5) rfl (VAL.move rfl) rfl rfl rfl ?_
 refine MV.force (i := 6) rfl ?_
 refine LV.call hS h4 (g69_ok _ _ _ _ _ ) hP rfl rfl rfl rfl fun x18_4 T1 n1 h5 ρ its hS => ?_
 obtain ⟨hK, h6⟩ := KeepS.step hR hS h5
 refine LV.nextM [3] (by kernel_rfl) (fun _ => hK) ?_
 refine MV.force (i := 7) rfl ?_
 refine as_ ?_
 refine LV.nextM [] (by kernel_rfl) (fun z => absurd rfl z) ?_
 refine MV.force (i := 8) rfl ?_
 refine as_ ?_
 refine LV.nextM [] (by kernel_rfl) (fun z => absurd rfl z) ?_
 replace hS := hR.up hS
 replace hP := hP0
 refine mdn ?_
 refine CV.seq ?_
 refine sr ?_
 refine mv ?_
 refine vy (V.lt h6 rfl rfl) fun x20_5 h7 => ?_
 refine dn ?_
 refine CV.cond h7 rfl (fun e h8 => ?_) (fun e h8 => ?_)
 ·
  clear h1 h2 h3 h4 h5 h6 h7
  subst e
  refine sr ?_
  refine mv ?_
  refine LV.call hS h8 (g32_ok _ _ _ _ ) hP rfl rfl rfl rfl fun x22_6 T2 n2 h9 ρ its hS => ?_
  refine as_ ?_
  refine dn ?_
  refine CV.ret ?_
  refine PV.thenR ?_
  cases h9
  exact PV.ret (by simp) Tryd.results52 hS (RS.tmp rfl RS.nil) rfl
 ·
  clear h1 h2 h3 h4 h5 h6 h7
  subst e
  refine CV.skip ?_
  refine PV.thenN ?_
  refine sr ?_
  refine as_ ?_
  refine dn ?_
  refine CV.seq ?_
  refine sr ?_
  refine mv ?_
  refine vy (V.add h8 rfl rfl) fun x24_7 h10 => ?_
  refine as_ ?_
  refine dn ?_
  refine CV.block ?_
  refine cl6 X 0 4 5 6 7 8 [] hS h10 ⟨rfl, rfl, rfl, rfl, rfl, rfl, trivial⟩ ?_
  intro f1 y0 y4 y5 y6 y7 y8 T3 n3 ρ its hS h11
  unfold g52_b1 at h11
  clear h8 h10
  refine CV.seq ?_
  refine sr ?_
  refine mv ?_
  refine mv ?_
  refine vy (V.sub h11 rfl rfl) fun x27_8 h12 => ?_
  refine vy (V.lt h12 rfl rfl) fun x28_9 h13 => ?_
  refine dn ?_
  refine CV.cond h13 rfl (fun e h14 => ?_) (fun e h14 => ?_)
  ·
   clear h11 h12 h13
   subst e
   refine CV.skip ?_
   refine PV.thenN ?_
   refine cs6 X 0 4 5 6 7 8 [] (g52_k2 ro (lpf6 520022 (g52_b1 ro) f1)) ?_ ?_
   ·
    refine CV.block ?_
    refine sr ?_
    refine mv ?_
    refine vy (V.nc h14 rfl) fun x32_11 h17 => ?_
    refine vy (V.fa h17 rfl Paf.fo72_0) fun x33_12 h18 => ?_
    refine vy (V.ld hS h18 rfl Paf.one9) fun x34_13 h19 => ?_
    refine mv ?_
    refine vy (V.ix h19 rfl rfl Paf.st9) fun x36_14 h20 => ?_
    refine as_ ?_
    refine dn ?_
    refine CV.seq ?_
    refine sr ?_
    refine mv ?_
    refine vy (V.ne h20 rfl rfl) fun x38_15 h21 => ?_
    refine dn ?_
    refine CV.cond h21 rfl (fun e h22 => ?_) (fun e h22 => ?_)
    ·
     clear h14 h17 h18 h19 h20 h21
     subst e
     refine CV.seq ?_
     refine sr ?_
     refine mv ?_
     refine vy (V.lt h22 rfl rfl) fun x40_16 h23 => ?_
     refine mv ?_
     refine ls8 X 0 4 5 6 7 8 9 44 [] (g52_k3 ro (lpf6 520022 (g52_b1 ro) f1)) 3 ?_ ?_
     ·
      rcases condK_inv h23 with ⟨e, h29⟩ | ⟨e, h29⟩
      ·
       clear h22 h23
       subst e
       refine sk ?_
       refine sk ?_
       refine pu ?_
       exact la8 hS h29 ⟨rfl, rfl, rfl, rfl, rfl, rfl, rfl, rfl, trivial⟩
      ·
       clear h22 h23
       subst e
       refine mv ?_
       refine vy (V.eq h29 rfl rfl) fun x43_20 h30 => ?_
       refine pu ?_
       exact la8 hS h30 ⟨rfl, rfl, rfl, rfl, rfl, rfl, rfl, rfl, trivial⟩
     ·
      intro y0 y4 y5 y6 y7 y8 y9 y44 T5 n5 ρ its hS h24
      unfold g52_k3 at h24
      clear h22 h23
      refine dn ?_
      refine CV.cond h24 rfl (fun e h25 => ?_) (fun e h25 => ?_)
      ·
       clear h24
       subst e
       refine sr ?_
       refine mv ?_
       refine LV.call hS h25 (g32_ok _ _ _ _ ) hP rfl rfl rfl rfl fun x46_17 T6 n6 h26 ρ its hS => ?_
       refine as_ ?_
       refine dn ?_
       refine CV.ret ?_
       refine PV.thenR ?_
       refine PV.thenR ?_
       refine PV.blockR ?_
       refine PV.thenR ?_
       refine PV.thenR ?_
       refine PV.blockR ?_
       refine PV.thenR ?_
       cases h26
       exact PV.ret (by simp) Tryd.results52 hS (RS.tmp rfl RS.nil) rfl
      ·
       clear h24
       subst e
       refine CV.skip ?_
       refine PV.thenN ?_
       refine sr ?_
       refine mv ?_
       refine mv ?_
       refine LV.bslice hS h25 rfl rfl Paf.el70 rfl rfl rfl rfl fun x49_18 T7 n7 h27 ρ its hS hdr => ?_
       refine LV.app hS h27 rfl rfl rfl rfl Paf.el70 rfl rfl rfl fun x50_19 T8 n8 h28 ρ its hS => ?_
       refine as_ ?_
       refine dn ?_
       refine CV.exit ?_
       refine PV.thenE ?_
       refine PV.blockE ?_
       exact pa6 hS h28 ⟨rfl, rfl, rfl, rfl, rfl, rfl, trivial⟩
    ·
     clear h14 h17 h18 h19 h20 h21
     subst e
     refine CV.skip ?_
     refine PV.thenN ?_
     refine sr ?_
     refine mv ?_
     refine vy (V.nc h22 rfl) fun x53_21 h31 => ?_
     refine vy (V.fa h31 rfl Paf.fo72_0) fun x54_22 h32 => ?_
     refine vy (V.ld hS h32 rfl Paf.one9) fun x55_23 h33 => ?_
     refine mv ?_
     refine vy (V.add h33 rfl rfl) fun x57_24 h34 => ?_
     refine mv ?_
     refine vy (V.sub h34 rfl rfl) fun x59_25 h35 => ?_
     refine vy (V.slBo h35 rfl rfl rfl Paf.st9) fun x60_26 h36 => ?_
     refine LV.call hS h36 (g70_ok _ _ _ _ ) hP rfl rfl rfl rfl fun x61_27 T9 n9 h37 ρ its hS => ?_
     refine mv ?_
     refine vy (V.ex h37 rfl) fun x62_28 h38 => ?_
     refine vy (V.ex h38 rfl) fun x63_29 h39 => ?_
     refine as_ ?_
     refine as_ ?_
     refine dn ?_
     refine CV.seq ?_
     refine sr ?_
     refine mv ?_
     refine vy (V.eq h39 rfl rfl) fun x65_30 h40 => ?_
     refine dn ?_
     refine CV.cond h40 rfl (fun e h41 => ?_) (fun e h41 => ?_)
     ·
      clear h22 h31 h32 h33 h34 h35 h36 h37 h38 h39 h40
      subst e
      refine sr ?_
      refine mv ?_
      refine LV.call hS h41 (g32_ok _ _ _ _ ) hP rfl rfl rfl rfl fun x67_31 T10 n10 h42 ρ its hS => ?_
      refine as_ ?_
      refine dn ?_
      refine CV.ret ?_
      refine PV.thenR ?_
      refine PV.blockR ?_
      refine PV.thenR ?_
      refine PV.thenR ?_
      refine PV.blockR ?_
      refine PV.thenR ?_
      cases h42
      exact PV.ret (by simp) Tryd.results52 hS (RS.tmp rfl RS.nil) rfl
     ·
      clear h22 h31 h32 h33 h34 h35 h36 h37 h38 h39 h40
      subst e
      refine CV.skip ?_
      refine PV.thenN ?_
      refine sr ?_
      refine mv ?_
      refine mv ?_
      refine LV.bslice hS h41 rfl rfl Paf.el70 rfl rfl rfl rfl fun x70_32 T11 n11 h43 ρ its hS hdr => ?_
      refine LV.app hS h43 rfl rfl rfl rfl Paf.el70 rfl rfl rfl fun x71_33 T12 n12 h44 ρ its hS => ?_
      refine as_ ?_
      refine dn ?_
      refine CV.region ?_
      refine mv ?_
      refine mv ?_
      refine vy (V.add h44 rfl rfl) fun x74_34 h45 => ?_
      refine as_ ?_
      refine LV.done ?_
      refine PV.blockN ?_
      exact pa6 hS h45 ⟨rfl, rfl, rfl, rfl, rfl, rfl, trivial⟩
   ·
    intro y0 y4 y5 y6 y7 y8 T4 n4 ρ its hS h15
    unfold g52_k2 at h15
    clear h14
    refine CV.region ?_
    refine mv ?_
    refine vy (V.add h15 rfl rfl) fun x30_10 h16 => ?_
    refine as_ ?_
    refine LV.done ?_
    exact pb6 hS h16 ⟨rfl, rfl, rfl, rfl, rfl, rfl, trivial⟩
  ·
   clear h11 h12 h13
   subst e
   refine CV.exit ?_
   refine PV.thenE ?_
   refine PV.thenE ?_
   refine PV.blockE ?_
   refine PV.thenN ?_
   refine sr ?_
   refine mv ?_
   refine mv ?_
   refine vy (V.nc h14 rfl) fun x77_35 h46 => ?_
   refine vy (V.fa h46 rfl Paf.fo72_1) fun x78_36 h47 => ?_
   refine LV.st hS h47 rfl rfl rfl Paf.siz3 rfl rfl fun T13 its h48 hS => ?_
   refine dn ?_
   refine sr ?_
   refine mv ?_
   refine mv ?_
   refine vy (V.strB hS h48 rfl Paf.slt70 Paf.u8t5 Paf.st9) fun x81_37 h49 => ?_
   refine mv ?_
   refine LV.call hS h49 (g34_ok _ _ _ _ _ _ _ ) hP rfl rfl rfl rfl fun x83_38 T14 n14 h50 ρ its hS => ?_
   refine dn ?_
   refine sr ?_
   refine as_ ?_
   refine dn ?_
   refine CV.ret ?_
   cases h50
   exact PV.ret (by simp) Tryd.results52 hS (RS.tmp rfl RS.nil) rfl
noncomputable def g53_k2 (ro : List HT) (y0 y2 y3 : AV) (T4 : HT) (n4 : Nat) : R :=
 ncK 530017 y0 fun x83_7 =>
 faK 530018 x83_7 1 fun x84_8 =>
 ldK 530019 T4 ro x84_8 fun x85_9 =>
 callK (g34 ro y0 (.lit (.int .i64 (.ofNat 4))) y3 x85_9 T4 n4) fun x86_10 T5 n5 =>
 ncK 530022 y0 fun x88_11 =>
 faK 530023 x88_11 1 fun x89_12 =>
 ldK 530024 T5 ro x89_12 fun x90_13 =>
 lenTK 530026 y3 fun x92_14 =>
 addK Tryd.prog 3 (.tmp 90) (.tmp 92) 530027 x90_13 x92_14 fun x93_15 =>
 ncK 530028 y0 fun x94_16 =>
 faK 530029 x94_16 1 fun x95_17 =>
 stK 530030 T5 x95_17 x93_15 fun T6 =>
 .ok (.val (.lit (.nilIface))) T6 n5
noncomputable def g53_k1 (ro : List HT) (y0 y2 y3 : AV) (T3 : HT) (n3 : Nat) : R :=
 ixK 530033 y3 (.lit (.int .i64 (.ofNat 0))) fun x43_18 =>
 callK (g72 ro (.lit (.string ⟨⟨[41, 93, 125]⟩⟩)) x43_18 T3 n3) fun x44_19 T7 n7 =>
 geK Tryd.prog 3 (.tmp 44) (.const (.int .i64 (.ofNat 0))) 530035 x44_19 (.lit (.int .i64 (.ofNat 0))) fun x45_20 =>
 condK 530036 x45_20
 (
  ncK 530038 y0 fun x47_21 =>
  faK 530039 x47_21 4 fun x48_22 =>
  ldK 530040 T7 ro x48_22 fun x49_23 =>
  lenSK 530041 x49_23 fun x50_24 =>
  subK Tryd.prog 3 (.tmp 50) (.const (.int .i64 (.ofNat 1))) 530042 x50_24 (.lit (.int .i64 (.ofNat 1))) fun x51_25 =>
  ltK Tryd.prog 3 (.tmp 52) (.const (.int .i64 (.ofNat 0))) 530045 x51_25 (.lit (.int .i64 (.ofNat 0))) fun x53_26 =>
  condK 530047 x53_26
  (
   condK 530049 (.lit (.bool true))
   (
    ncK 530051 y0 fun x67_27 =>
    faK 530052 x67_27 1 fun x68_28 =>
    ldK 530053 T7 ro x68_28 fun x69_29 =>
    callK (g32 ro x69_29 T7 n7) fun x70_30 T8 n8 =>
    .ok (.val x70_30) T8 n8
   )
   (
    .bad 0
   )
  )
  (
   ncK 530057 y0 fun x56_31 =>
   faK 530058 x56_31 4 fun x57_32 =>
   ldK 530059 T7 ro x57_32 fun x58_33 =>
   iaK 530061 x58_33 x51_25 1 fun x60_34 =>
   ldK 530062 T7 ro x60_34 fun x61_35 =>
   ixK 530064 y3 (.lit (.int .i64 (.ofNat 0))) fun x63_36 =>
   neK Tryd.prog 5 (.tmp 61) (.tmp 63) 530065 x61_35 x63_36 fun x64_37 =>
   condK 530067 x64_37
   (
    ncK 530069 y0 fun x67_38 =>
    faK 530070 x67_38 1 fun x68_39 =>
    ldK 530071 T7 ro x68_39 fun x69_40 =>
    callK (g32 ro x69_40 T7 n7) fun x70_41 T9 n9 =>
    .ok (.val x70_41) T9 n9
   )
   (
    ncK 530076 y0 fun x73_42 =>
    faK 530077 x73_42 4 fun x74_43 =>
    ldK 530078 T7 ro x74_43 fun x75_44 =>
    cutHiK 530080 T7 ro x75_44 x51_25 fun x77_45 =>
    ncK 530081 y0 fun x78_46 =>
    faK 530082 x78_46 4 fun x79_47 =>
    stK 530083 T7 x79_47 x77_45 fun T10 =>
    g53_k2 ro y0 y2 y3 T10 n7
   )
  )
 )
 (
  g53_k2 ro y0 y2 y3 T7 n7
 )
noncomputable def g53 (ro : List HT) (a0 : AV) (T : HT) (nx : Nat) : R :=
 callK (g71 ro a0 T nx) fun x7_1 T1 n1 =>
 eqSK Tryd.prog 9 (.tmp 8) (.const (.string ⟨⟨[]⟩⟩)) 530006 x7_1 (.lit (.string ⟨⟨[]⟩⟩)) fun x9_2 =>
 condK 530007 x9_2
 (
  ncK 530009 a0 fun x11_3 =>
  faK 530010 x11_3 1 fun x12_4 =>
  ldK 530011 T1 ro x12_4 fun x13_5 =>
  callK (g32 ro x13_5 T1 n1) fun x14_6 T2 n2 =>
  .ok (.val x14_6) T2 n2
 )
 (
  ixK 530085 x7_1 (.lit (.int .i64 (.ofNat 0))) fun x16_48 =>
  callK (g72 ro (.lit (.string ⟨⟨[40, 91, 123]⟩⟩)) x16_48 T1 n1) fun x17_49 T11 n11 =>
  geK Tryd.prog 3 (.tmp 18) (.const (.int .i64 (.ofNat 0))) 530089 x17_49 (.lit (.int .i64 (.ofNat 0))) fun x19_50 =>
  condK 530090 x19_50
  (
   ncK 530092 a0 fun x21_51 =>
   faK 530093 x21_51 4 fun x22_52 =>
   ldK 530094 T11 ro x22_52 fun x23_53 =>
   lenSK 530095 x23_53 fun x24_54 =>
   geK Tryd.prog 3 (.tmp 24) (.const (.int .i64 (.ofNat 60))) 530096 x24_54 (.lit (.int .i64 (.ofNat 60))) fun x25_55 =>
   condK 530097 x25_55
   (
    ncK 530099 a0 fun x27_56 =>
    faK 530100 x27_56 1 fun x28_57 =>
    ldK 530101 T11 ro x28_57 fun x29_58 =>
    callK (g32 ro x29_58 T11 n11) fun x30_59 T12 n12 =>
    .ok (.val x30_59) T12 n12
   )
   (
    ncK 530106 a0 fun x33_60 =>
    faK 530107 x33_60 4 fun x34_61 =>
    ldK 530108 T11 ro x34_61 fun x35_62 =>
    ixK 530110 (.lit (.string ⟨⟨[41, 93, 125]⟩⟩)) x17_49 fun x37_63 =>
    bsK 530111 T11 n11 1 5 1 [(0, x37_63)] fun x38_64 T13 n13 =>
    appK 530112 T13 ro n13 5 1 1 x35_62 x38_64 fun x39_65 T14 n14 =>
    ncK 530113 a0 fun x40_66 =>
    faK 530114 x40_66 4 fun x41_67 =>
    stK 530115 T14 x41_67 x39_65 fun T15 =>
    g53_k1 ro a0 (.lit (.nilIface)) x7_1 T15 n14
   )
  )
  (
   g53_k1 ro a0 (.lit (.nilIface)) x7_1 T11 n11
  )
 )
theorem g53_ok (ro : List HT) (a0 : AV) (T : HT) (nx : Nat) : GOk Tryd.prog envE 53 [a0] ro T nx (g53 ro a0 T nx) := by
 refine GOk.of_body Tryd.func53 rfl Tryd.ntmps53 (by kernel_rfl) rfl fun r T' n' h1 w0 base ρ0 its hS hP => ?_
 have X : CtxW envE ρ0 ro r T' n' := trivial
 unfold g53 at h1
 refine sr ?_
 refine as_ ?_
 refine dn ?_
 refine sr ?_
 refine mv ?_
 refine LV.call hS h1 (g71_ok _ _ _ _ ) hP rfl rfl rfl rfl fun x7_1 T1 n1 h2 ρ its hS => ?_
 refine as_ ?_
 refine dn ?_
 refine CV.seq ?_
 refine sr ?_
 refine mv ?_
 refine vy (V.eqS h2 rfl rfl) fun x9_2 h3 => ?_
 refine dn ?_
 refine CV.cond h3 rfl (fun e h4 => ?_) (fun e h4 => ?_)
 ·
  clear h1 h2 h3
  subst e
  refine sr ?_
  refine mv ?_
  refine vy (V.nc h4 rfl) fun x11_3 h5 => ?_
  refine vy (V.fa h5 rfl Paf.fo72_1) fun x12_4 h6 => ?_
  refine vy (V.ld hS h6 rfl Paf.one3) fun x13_5 h7 => ?_
  refine LV.call hS h7 (g32_ok _ _ _ _ ) hP rfl rfl rfl rfl fun x14_6 T2 n2 h8 ρ its hS => ?_
  refine as_ ?_
  refine dn ?_
  refine CV.ret ?_
  refine PV.thenR ?_
  cases h8
  exact PV.ret (by simp) Tryd.results53 hS (RS.tmp rfl RS.nil) rfl
 ·
  clear h1 h2 h3
  subst e
  refine CV.skip ?_
  refine PV.thenN ?_
  refine cs3 X 0 2 3 [] (g53_k1 ro) ?_ ?_
  ·
   refine sr ?_
   refine mv ?_
   refine vy (V.ix h4 rfl rfl Paf.st9) fun x16_48 h58 => ?_
   refine LV.call hS h58 (g72_ok _ _ _ _ _ ) hP rfl rfl rfl rfl fun x17_49 T11 n11 h59 ρ its hS => ?_
   refine as_ ?_
   refine dn ?_
   refine sr ?_
   refine mv ?_
   refine vy (V.ge h59 rfl rfl) fun x19_50 h60 => ?_
   refine dn ?_
   refine CV.cond h60 rfl (fun e h61 => ?_) (fun e h61 => ?_)
   ·
    clear h4 h58 h59 h60
    subst e
    refine CV.seq ?_
    refine sr ?_
    refine mv ?_
    refine vy (V.nc h61 rfl) fun x21_51 h62 => ?_
    refine vy (V.fa h62 rfl Paf.fo72_4) fun x22_52 h63 => ?_
    refine vy (V.ld hS h63 rfl Paf.one70) fun x23_53 h64 => ?_
    refine vy (V.lenS h64 rfl Paf.ls70) fun x24_54 h65 => ?_
    refine vy (V.ge h65 rfl rfl) fun x25_55 h66 => ?_
    refine dn ?_
    refine CV.cond h66 rfl (fun e h67 => ?_) (fun e h67 => ?_)
    ·
     clear h61 h62 h63 h64 h65 h66
     subst e
     refine sr ?_
     refine mv ?_
     refine vy (V.nc h67 rfl) fun x27_56 h68 => ?_
     refine vy (V.fa h68 rfl Paf.fo72_1) fun x28_57 h69 => ?_
     refine vy (V.ld hS h69 rfl Paf.one3) fun x29_58 h70 => ?_
     refine LV.call hS h70 (g32_ok _ _ _ _ ) hP rfl rfl rfl rfl fun x30_59 T12 n12 h71 ρ its hS => ?_
     refine as_ ?_
     refine dn ?_
     refine CV.ret ?_
     refine PV.thenR ?_
     refine PV.thenR ?_
     cases h71
     exact PV.ret (by simp) Tryd.results53 hS (RS.tmp rfl RS.nil) rfl
    ·
     clear h61 h62 h63 h64 h65 h66
     subst e
     refine CV.skip ?_
     refine PV.thenN ?_
     refine CV.regionM [(0, .anywhere), (1, .anywhere), (2, .anywhere), (3, .anywhere), (4, .held), (5, .anywhere), (6, .anywhere), (7, .alone), (8, .alone), (9, .alone), (10, .alone), (11, .alone)] rfl (fun c a a' w hd hq => PanicOk.root (P := Tryd.prog) (fn := Tryd.f53) (w0 := w0) (base := base) (E := envE) (ro := ro) (r := r) (T' := T') (n' := n') (ρ0 := ρ0) c a a' w hd hq) (by kernel_rfl) ?_
     refine MV.step0 (i := 0) rfl (VAL.move rfl) rfl rfl rfl ?_
     refine MV.step0 (i := 1) rfl (VAL.move rfl) rfl rfl rfl ?_
     refine MV.lift0 (i := 2) rfl (V.nc h67 rfl) rfl rfl rfl fun x33_60 h72 => ?_
     refine MV.lift0 (i := 3) rfl (V.fa h72 rfl Paf.fo72_4) rfl rfl rfl fun x34_61 h73 => ?_
     refine MV.lift1 (i := 4) rfl (fun _ z => z) (V.ld hS h73 rfl Paf.one70) rfl rfl rfl [] (by kernel_rfl) fun x35_62 h74 => ?_
     refine MV.step0 (i := 5) rfl (VAL.move rfl) rfl rfl rfl ?_
     refine MV.lift0 (i := 6) rfl (V.ix h74 rfl rfl Paf.st9) rfl rfl rfl fun x37_63 h75 => ?_
     refine MV.force (i := 7) rfl ?_
     refine LV.bslice hS h75 rfl rfl Paf.el70 rfl rfl rfl rfl fun x38_64 T13 n13 h76 ρ its hS hdr => ?_
     refine LV.nextM [4] (by kernel_rfl) (fun _ => hdr) ?_
     refine MV.force (i := 8) rfl ?_
     refine LV.app hS h76 rfl rfl rfl rfl Paf.el70 rfl rfl rfl fun x39_65 T14 n14 h77 ρ its hS => ?_
     refine LV.nextM [] (by kernel_rfl) (fun z => absurd rfl z) ?_
     refine MV.force (i := 9) rfl ?_
     refine vy (V.nc h77 rfl) fun x40_66 h78 => ?_
     refine LV.nextM [] (by kernel_rfl) (fun z => absurd rfl z) ?_
     refine MV.force (i := 10) rfl ?_
     refine vy (V.fa h78 rfl Paf.fo72_4) fun x41_67 h79 => ?_
     refine LV.nextM [] (by kernel_rfl) (fun z => absurd rfl z) ?_
     refine MV.force (i := 11) rfl ?_
     refine LV.st hS h79 rfl rfl rfl Paf.siz70 rfl rfl fun T15 its h80 hS => ?_
     refine LV.nextM [] (by kernel_rfl) (fun z => absurd rfl z) ?_
     refine MV.done ?_
     exact pa3 hS h80 ⟨rfl, rfl, rfl, trivial⟩
   ·
    clear h4 h58 h59 h60
    subst e
    refine CV.skip ?_
    exact pa3 hS h61 ⟨rfl, rfl, rfl, trivial⟩
  ·
   intro y0 y2 y3 T3 n3 ρ its hS h9
   unfold g53_k1 at h9
   clear h4
   refine cs3 X 0 2 3 [] (g53_k2 ro) ?_ ?_
   ·
    refine sr ?_
    refine mv ?_
    refine vy (V.ix h9 rfl rfl Paf.st9) fun x43_18 h23 => ?_
    refine LV.call hS h23 (g72_ok _ _ _ _ _ ) hP rfl rfl rfl rfl fun x44_19 T7 n7 h24 ρ its hS => ?_
    refine vy (V.ge h24 rfl rfl) fun x45_20 h25 => ?_
    refine dn ?_
    refine CV.cond h25 rfl (fun e h26 => ?_) (fun e h26 => ?_)
    ·
     clear h9 h23 h24 h25
     subst e
     refine sr ?_
     refine mv ?_
     refine vy (V.nc h26 rfl) fun x47_21 h27 => ?_
     refine vy (V.fa h27 rfl Paf.fo72_4) fun x48_22 h28 => ?_
     refine vy (V.ld hS h28 rfl Paf.one70) fun x49_23 h29 => ?_
     refine vy (V.lenS h29 rfl Paf.ls70) fun x50_24 h30 => ?_
     refine vy (V.sub h30 rfl rfl) fun x51_25 h31 => ?_
     refine as_ ?_
     refine dn ?_
     refine CV.seq ?_
     refine CV.seq ?_
     refine CV.regionM [(0, .anywhere), (1, .anywhere), (2, .anywhere), (3, .anywhere), (4, .anywhere), (5, .anywhere), (6, .held), (7, .anywhere), (8, .held), (9, .held), (10, .anywhere), (11, .anywhere), (12, .held), (13, .held)] rfl (fun c a a' w hd hq => PanicOk.root (P := Tryd.prog) (fn := Tryd.f53) (w0 := w0) (base := base) (E := envE) (ro := ro) (r := r) (T' := T') (n' := n') (ρ0 := ρ0) c a a' w hd hq) (by kernel_rfl) ?_
     refine MV.step0 (i := 0) rfl (VAL.move rfl) rfl rfl rfl ?_
     refine MV.lift0 (i := 1) rfl (V.lt h31 rfl rfl) rfl rfl rfl fun x53_26 h32 => ?_
     refine MV.step0 (i := 2) rfl (VAL.move rfl) rfl rfl rfl ?_
     rcases condK_inv h32 with ⟨e, h33⟩ | ⟨e, h33⟩
     ·
      clear h26 h27 h28 h29 h30 h31 h32
      subst e
      refine MV.skip0 (i := 3) rfl rfl rfl rfl ?_
      refine MV.skip0 (i := 4) rfl rfl rfl rfl ?_
      refine MV.skip0 (i := 5) rfl rfl rfl rfl ?_
      refine MV.skip1 (i := 6) rfl (fun _ z => z) rfl rfl rfl [] (by kernel_rfl) ?_
      refine MV.skip0 (i := 7) rfl rfl rfl rfl ?_
      refine MV.skip1 (i := 8) rfl (fun _ z => z) rfl rfl rfl [] (by kernel_rfl) ?_
      refine MV.skip1 (i := 9) rfl (fun _ z => z) rfl rfl rfl [] (by kernel_rfl) ?_
      refine MV.skip0 (i := 10) rfl rfl rfl rfl ?_
      refine MV.skip0 (i := 11) rfl rfl rfl rfl ?_
      refine MV.skip1 (i := 12) rfl (fun _ z => z) rfl rfl rfl [] (by kernel_rfl) ?_
      refine MV.step1 (i := 13) rfl (fun _ z => z) (VAL.pure rfl) rfl rfl rfl [] (by kernel_rfl) ?_
      refine mdn ?_
      refine CV.cond h33 rfl (fun e h34 => ?_) (fun e h34 => ?_)
      ·
       clear h33
       refine sr ?_
       refine mv ?_
       refine vy (V.nc h34 rfl) fun x67_27 h35 => ?_
       refine vy (V.fa h35 rfl Paf.fo72_1) fun x68_28 h36 => ?_
       refine vy (V.ld hS h36 rfl Paf.one3) fun x69_29 h37 => ?_
       refine LV.call hS h37 (g32_ok _ _ _ _ ) hP rfl rfl rfl rfl fun x70_30 T8 n8 h38 ρ its hS => ?_
       refine as_ ?_
       refine dn ?_
       refine CV.ret ?_
       refine PV.thenR ?_
       refine PV.thenR ?_
       cases h38
       exact PV.ret (by simp) Tryd.results53 hS (RS.tmp rfl RS.nil) rfl
      ·
       clear h33
       cases e
     ·
      clear h26 h27 h28 h29 h30 h31 h32
      subst e
      refine MV.step0 (i := 3) rfl (VAL.move rfl) rfl rfl rfl ?_
      refine MV.lift0 (i := 4) rfl (V.nc h33 rfl) rfl rfl rfl fun x56_31 h39 => ?_
      refine MV.lift0 (i := 5) rfl (V.fa h39 rfl Paf.fo72_4) rfl rfl rfl fun x57_32 h40 => ?_
      refine MV.lift1 (i := 6) rfl (fun _ z => z) (V.ld hS h40 rfl Paf.one70) rfl rfl rfl [] (by kernel_rfl) fun x58_33 h41 => ?_
      refine MV.step0 (i := 7) rfl (VAL.move rfl) rfl rfl rfl ?_
      refine MV.lift1 (i := 8) rfl (fun _ z => z) (V.ia h41 rfl rfl Paf.el70) rfl rfl rfl [] (by kernel_rfl) fun x60_34 h42 => ?_
      refine MV.lift1 (i := 9) rfl (fun _ z => z) (V.ld hS h42 rfl Paf.one5) rfl rfl rfl [] (by kernel_rfl) fun x61_35 h43 => ?_
      refine MV.step0 (i := 10) rfl (VAL.move rfl) rfl rfl rfl ?_
      refine MV.lift0 (i := 11) rfl (V.ix h43 rfl rfl Paf.st9) rfl rfl rfl fun x63_36 h44 => ?_
      refine MV.lift1 (i := 12) rfl (fun _ z => z) (V.ne h44 rfl rfl) rfl rfl rfl [] (by kernel_rfl) fun x64_37 h45 => ?_
      refine MV.step1 (i := 13) rfl (fun _ z => z) (VAL.pure rfl) rfl rfl rfl [] (by kernel_rfl) ?_
      refine mdn ?_
      refine CV.cond h45 rfl (fun e h46 => ?_) (fun e h46 => ?_)
      ·
       clear h33 h39 h40 h41 h42 h43 h44 h45
       subst e
       refine sr ?_
       refine mv ?_
       refine vy (V.nc h46 rfl) fun x67_38 h47 => ?_
       refine vy (V.fa h47 rfl Paf.fo72_1) fun x68_39 h48 => ?_
       refine vy (V.ld hS h48 rfl Paf.one3) fun x69_40 h49 => ?_
       refine LV.call hS h49 (g32_ok _ _ _ _ ) hP rfl rfl rfl rfl fun x70_41 T9 n9 h50 ρ its hS => ?_
       refine as_ ?_
       refine dn ?_
       refine CV.ret ?_
       refine PV.thenR ?_
       refine PV.thenR ?_
       cases h50
       exact PV.ret (by simp) Tryd.results53 hS (RS.tmp rfl RS.nil) rfl
      ·
       clear h33 h39 h40 h41 h42 h43 h44 h45
       subst e
       refine CV.skip ?_
       refine PV.thenN ?_
       refine CV.region ?_
       refine mv ?_
       refine mv ?_
       refine vy (V.nc h46 rfl) fun x73_42 h51 => ?_
       refine vy (V.fa h51 rfl Paf.fo72_4) fun x74_43 h52 => ?_
       refine vy (V.ld hS h52 rfl Paf.one70) fun x75_44 h53 => ?_
       refine mv ?_
       refine vy (V.cutHi hS h53 rfl rfl Paf.el70) fun x77_45 h54 => ?_
       refine vy (V.nc h54 rfl) fun x78_46 h55 => ?_
       refine vy (V.fa h55 rfl Paf.fo72_4) fun x79_47 h56 => ?_
       refine LV.st hS h56 rfl rfl rfl Paf.siz70 rfl rfl fun T10 its h57 hS => ?_
       refine LV.done ?_
       exact pa3 hS h57 ⟨rfl, rfl, rfl, trivial⟩
    ·
     clear h9 h23 h24 h25
     subst e
     refine CV.skip ?_
     exact pa3 hS h26 ⟨rfl, rfl, rfl, trivial⟩
   ·
    intro y0 y2 y3 T4 n4 ρ its hS h10
    unfold g53_k2 at h10
    clear h9
    refine sr ?_
    refine mv ?_
    refine mv ?_
    refine mv ?_
    refine vy (V.nc h10 rfl) fun x83_7 h11 => ?_
    refine vy (V.fa h11 rfl Paf.fo72_1) fun x84_8 h12 => ?_
    refine vy (V.ld hS h12 rfl Paf.one3) fun x85_9 h13 => ?_
    refine LV.call hS h13 (g34_ok _ _ _ _ _ _ _ ) hP rfl rfl rfl rfl fun x86_10 T5 n5 h14 ρ its hS => ?_
    refine dn ?_
    refine sr ?_
    refine mv ?_
    refine vy (V.nc h14 rfl) fun x88_11 h15 => ?_
    refine vy (V.fa h15 rfl Paf.fo72_1) fun x89_12 h16 => ?_
    refine vy (V.ld hS h16 rfl Paf.one3) fun x90_13 h17 => ?_
    refine mv ?_
    refine vy (V.lenT h17 rfl Paf.ls9) fun x92_14 h18 => ?_
    refine vy (V.add h18 rfl rfl) fun x93_15 h19 => ?_
    refine vy (V.nc h19 rfl) fun x94_16 h20 => ?_
    refine vy (V.fa h20 rfl Paf.fo72_1) fun x95_17 h21 => ?_
    refine LV.st hS h21 rfl rfl rfl Paf.siz3 rfl rfl fun T6 its h22 hS => ?_
    refine dn ?_
    refine sr ?_
    refine as_ ?_
    refine dn ?_
    refine CV.ret ?_
    cases h22
    exact PV.ret (by simp) Tryd.results53 hS (RS.tmp rfl RS.nil) rfl
noncomputable def g31_k1 (ro : List HT) (y0 y2 y3 : AV) (T1 : HT) (n1 : Nat) : R :=
 ncK 310017 y0 fun x26_9 =>
 faK 310018 x26_9 1 fun x27_10 =>
 ldK 310019 T1 ro x27_10 fun x28_11 =>
 addK Tryd.prog 3 (.tmp 28) (.const (.int .i64 (.ofNat 1))) 310020 x28_11 (.lit (.int .i64 (.ofNat 1))) fun x29_12 =>
 ncK 310021 y0 fun x30_13 =>
 faK 310022 x30_13 1 fun x31_14 =>
 stK 310023 T1 x31_14 x29_12 fun T2 =>
 .ok (.val (.lit (.nilIface))) T2 n1
noncomputable def g31_k3 (ro : List HT) (y0 y2 y3 y73 : AV) (T11 : HT) (n11 : Nat) : R :=
 condK 310072 y73
 (
  callK (g52 ro y0 y3 T11 n11) fun x76_35 T12 n12 =>
  .ok (.val x76_35) T12 n12
 )
 (
  callK (g53 ro y0 T11 n11) fun x78_36 T13 n13 =>
  .ok (.val x78_36) T13 n13
 )
noncomputable def g31_k2 (ro : List HT) (y0 y2 y3 : AV) (T6 : HT) (n6 : Nat) : R :=
 callK (g48 ro y3 T6 n6) fun x59_30 T7 n7 =>
 condK 310057 x59_30
 (
  callK (g49 ro y0 T7 n7) fun x61_31 T8 n8 =>
  .ok (.val (.lit (.nilIface))) T8 n8
 )
 (
  callK (g50 ro y3 T7 n7) fun x64_32 T9 n9 =>
  condK 310064 x64_32
  (
   callK (g51 ro y0 T9 n9) fun x66_33 T10 n10 =>
   .ok (.val x66_33) T10 n10
  )
  (
   eqK Tryd.prog 5 (.tmp 68) (.const (.int .u8 (.ofNat 34))) 310069 y3 (.lit (.int .u8 (.ofNat 34))) fun x69_34 =>
   condK 310080 x69_34
   (
    g31_k3 ro y0 y2 y3 (.lit (.bool true)) T9 n9
   )
   (
    eqK Tryd.prog 5 (.tmp 71) (.const (.int .u8 (.ofNat 39))) 310083 y3 (.lit (.int .u8 (.ofNat 39))) fun x72_37 =>
    g31_k3 ro y0 y2 y3 x72_37 T9 n9
   )
  )
 )
noncomputable def g31 (ro : List HT) (a0 : AV) (T : HT) (nx : Nat) : R :=
 ncK 310003 a0 fun x6_1 =>
 faK 310004 x6_1 0 fun x7_2 =>
 ldK 310005 T ro x7_2 fun x8_3 =>
 ncK 310007 a0 fun x10_4 =>
 faK 310008 x10_4 1 fun x11_5 =>
 ldK 310009 T ro x11_5 fun x12_6 =>
 ixK 310010 x8_3 x12_6 fun x13_7 =>
 eqK Tryd.prog 5 (.tmp 15) (.const (.int .u8 (.ofNat 10))) 310013 x13_7 (.lit (.int .u8 (.ofNat 10))) fun x16_8 =>
 condK 310015 x16_8
 (
  ncK 310026 a0 fun x18_15 =>
  faK 310027 x18_15 4 fun x19_16 =>
  ldK 310028 T ro x19_16 fun x20_17 =>
  lenSK 310029 x20_17 fun x21_18 =>
  eqK Tryd.prog 3 (.tmp 21) (.const (.int .i64 (.ofNat 0))) 310030 x21_18 (.lit (.int .i64 (.ofNat 0))) fun x22_19 =>
  condK 310031 x22_19
  (
   callK (g33 ro a0 T nx) fun x24_20 T3 n3 =>
   g31_k1 ro a0 (.lit (.nilIface)) x13_7 T3 n3
  )
  (
   g31_k1 ro a0 (.lit (.nilIface)) x13_7 T nx
  )
 )
 (
  eqK Tryd.prog 5 (.tmp 33) (.const (.int .u8 (.ofNat 32))) 310035 x13_7 (.lit (.int .u8 (.ofNat 32))) fun x34_21 =>
  condK 310037 x34_21
  (
   ncK 310039 a0 fun x36_22 =>
   faK 310040 x36_22 1 fun x37_23 =>
   ldK 310041 T ro x37_23 fun x38_24 =>
   addK Tryd.prog 3 (.tmp 38) (.const (.int .i64 (.ofNat 1))) 310042 x38_24 (.lit (.int .i64 (.ofNat 1))) fun x39_25 =>
   ncK 310043 a0 fun x40_26 =>
   faK 310044 x40_26 1 fun x41_27 =>
   stK 310045 T x41_27 x39_25 fun T4 =>
   .ok (.val (.lit (.nilIface))) T4 nx
  )
  (
   eqK Tryd.prog 5 (.tmp 43) (.const (.int .u8 (.ofNat 35))) 310048 x13_7 (.lit (.int .u8 (.ofNat 35))) fun x44_28 =>
   condK 310050 x44_28
   (
    callK (g46 ro a0 T nx) fun x46_29 T5 n5 =>
    .ok (.val x46_29) T5 n5
   )
   (
    ncK 310086 a0 fun x48_38 =>
    faK 310087 x48_38 5 fun x49_39 =>
    ldK 310088 T ro x49_39 fun x50_40 =>
    notK 310089 x50_40 fun x51_41 =>
    condK 310090 x51_41
    (
     callK (g47 ro a0 T nx) fun x53_42 T14 n14 =>
     bin0 Tryd.prog .neq 25 (.tmp 54) (.const (.nilIface)) 310095 x53_42 (.lit (.nilIface)) fun x55_43 =>
     condK 310096 x55_43
     (
      .ok (.val x53_42) T14 n14
     )
     (
      g31_k2 ro a0 (.lit (.nilIface)) x13_7 T14 n14
     )
    )
    (
     g31_k2 ro a0 (.lit (.nilIface)) x13_7 T nx
    )
   )
  )
 )
theorem g31_ok (ro : List HT) (a0 : AV) (T : HT) (nx : Nat) : GOk Tryd.prog envE 31 [a0] ro T nx (g31 ro a0 T nx) := by
 refine GOk.of_body Tryd.func31 rfl Tryd.ntmps31 (by kernel_rfl) rfl fun r T' n' h1 w0 base ρ0 its hS hP => ?_
 have X : CtxW envE ρ0 ro r T' n' := trivial
 unfold g31 at h1
 refine sr ?_
 refine as_ ?_
 refine dn ?_
 refine CV.seq ?_
 refine CV.regionM [(0, .anywhere), (1, .anywhere), (2, .anywhere), (3, .held), (4, .anywhere), (5, .anywhere), (6, .anywhere), (7, .held), (8, .held), (9, .held)] rfl (fun c a a' w hd hq => PanicOk.root (P := Tryd.prog) (fn := Tryd.f31) (w0 := w0) (base := base) (E := envE) (ro := ro) (r := r) (T' := T') (n' := n') (ρ0 := ρ0) c a a' w hd hq) (by kernel_rfl) ?_
 refine MV.step0 (i := 0) rfl (VAL.move rfl) rfl rfl rfl ?_
 refine MV.lift0 (i := 1) rfl (V.nc h1 rfl) rfl rfl rfl fun x6_1 h2 => ?_
 refine MV.lift0 (i := 2) rfl (V.fa h2 rfl Paf.fo72_0) rfl rfl rfl fun x7_2 h3 => ?_
 refine MV.lift1 (i := 3) rfl (fun _ z => z) (V.ld hS h3 rfl Paf.one9) rfl rfl rfl [] (by kernel_rfl) fun x8_3 h4 => ?_
 refine MV.step0 (i := 4) rfl (VAL.move rfl) rfl rfl rfl ?_
 refine MV.lift0 (i := 5) rfl (V.nc h4 rfl) rfl rfl rfl fun x10_4 h5 => ?_
 refine MV.lift0 (i := 6) rfl (V.fa h5 rfl Paf.fo72_1) rfl rfl rfl fun x11_5 h6 => ?_
 refine MV.lift1 (i := 7) rfl (fun _ z => z) (V.ld hS h6 rfl Paf.one3) rfl rfl rfl [3] (by kernel_rfl) fun x12_6 h7 => ?_
 refine MV.lift1 (i := 8) rfl (fun _ z => z) (V.ix h7 rfl rfl Paf.st9) rfl rfl rfl [] (by kernel_rfl) fun x13_7 h8 => ?_
 refine MV.step1 (i := 9) rfl (fun _ z => z) (VAL.assign rfl) rfl rfl rfl [] (by kernel_rfl) ?_
 refine mdn ?_
 refine CV.seq ?_
 refine CV.block ?_
 refine sr ?_
 refine mv ?_
 refine vy (V.eq h8 rfl rfl) fun x16_8 h9 => ?_
 refine as_ ?_
 refine dn ?_
 refine CV.cond h9 rfl (fun e h10 => ?_) (fun e h10 => ?_)
 ·
  clear h1 h2 h3 h4 h5 h6 h7 h8 h9
  subst e
  refine cs3 X 0 2 3 [] (g31_k1 ro) ?_ ?_
  ·
   refine sr ?_
   refine mv ?_
   refine vy (V.nc h10 rfl) fun x18_15 h19 => ?_
   refine vy (V.fa h19 rfl Paf.fo72_4) fun x19_16 h20 => ?_
   refine vy (V.ld hS h20 rfl Paf.one70) fun x20_17 h21 => ?_
   refine vy (V.lenS h21 rfl Paf.ls70) fun x21_18 h22 => ?_
   refine vy (V.eq h22 rfl rfl) fun x22_19 h23 => ?_
   refine dn ?_
   refine CV.cond h23 rfl (fun e h24 => ?_) (fun e h24 => ?_)
   ·
    clear h10 h19 h20 h21 h22 h23
    subst e
    refine CV.region ?_
    refine mv ?_
    refine LV.call hS h24 (g33_ok _ _ _ _ ) hP rfl rfl rfl rfl fun x24_20 T3 n3 h25 ρ its hS => ?_
    refine LV.done ?_
    exact pa3 hS h25 ⟨rfl, rfl, rfl, trivial⟩
   ·
    clear h10 h19 h20 h21 h22 h23
    subst e
    refine CV.skip ?_
    exact pa3 hS h24 ⟨rfl, rfl, rfl, trivial⟩
  ·
   intro y0 y2 y3 T1 n1 ρ its hS h11
   unfold g31_k1 at h11
   clear h10
   refine sr ?_
   refine mv ?_
   refine vy (V.nc h11 rfl) fun x26_9 h12 => ?_
   refine vy (V.fa h12 rfl Paf.fo72_1) fun x27_10 h13 => ?_
   refine vy (V.ld hS h13 rfl Paf.one3) fun x28_11 h14 => ?_
   refine vy (V.add h14 rfl rfl) fun x29_12 h15 => ?_
   refine vy (V.nc h15 rfl) fun x30_13 h16 => ?_
   refine vy (V.fa h16 rfl Paf.fo72_1) fun x31_14 h17 => ?_
   refine LV.st hS h17 rfl rfl rfl Paf.siz3 rfl rfl fun T2 its h18 hS => ?_
   refine dn ?_
   refine sr ?_
   refine as_ ?_
   refine dn ?_
   refine CV.ret ?_
   refine PV.blockR ?_
   refine PV.thenR ?_
   cases h18
   exact PV.ret (by simp) Tryd.results31 hS (RS.tmp rfl RS.nil) rfl
 ·
  clear h1 h2 h3 h4 h5 h6 h7 h8 h9
  subst e
  refine sr ?_
  refine mv ?_
  refine vy (V.eq h10 rfl rfl) fun x34_21 h26 => ?_
  refine as_ ?_
  refine dn ?_
  refine CV.cond h26 rfl (fun e h27 => ?_) (fun e h27 => ?_)
  ·
   clear h10 h26
   subst e
   refine sr ?_
   refine mv ?_
   refine vy (V.nc h27 rfl) fun x36_22 h28 => ?_
   refine vy (V.fa h28 rfl Paf.fo72_1) fun x37_23 h29 => ?_
   refine vy (V.ld hS h29 rfl Paf.one3) fun x38_24 h30 => ?_
   refine vy (V.add h30 rfl rfl) fun x39_25 h31 => ?_
   refine vy (V.nc h31 rfl) fun x40_26 h32 => ?_
   refine vy (V.fa h32 rfl Paf.fo72_1) fun x41_27 h33 => ?_
   refine LV.st hS h33 rfl rfl rfl Paf.siz3 rfl rfl fun T4 its h34 hS => ?_
   refine dn ?_
   refine sr ?_
   refine as_ ?_
   refine dn ?_
   refine CV.ret ?_
   refine PV.blockR ?_
   refine PV.thenR ?_
   cases h34
   exact PV.ret (by simp) Tryd.results31 hS (RS.tmp rfl RS.nil) rfl
  ·
   clear h10 h26
   subst e
   refine sr ?_
   refine mv ?_
   refine vy (V.eq h27 rfl rfl) fun x44_28 h35 => ?_
   refine as_ ?_
   refine dn ?_
   refine CV.cond h35 rfl (fun e h36 => ?_) (fun e h36 => ?_)
   ·
    clear h27 h35
    subst e
    refine sr ?_
    refine mv ?_
    refine LV.call hS h36 (g46_ok _ _ _ _ ) hP rfl rfl rfl rfl fun x46_29 T5 n5 h37 ρ its hS => ?_
    refine as_ ?_
    refine dn ?_
    refine CV.ret ?_
    refine PV.blockR ?_
    refine PV.thenR ?_
    cases h37
    exact PV.ret (by simp) Tryd.results31 hS (RS.tmp rfl RS.nil) rfl
   ·
    clear h27 h35
    subst e
    refine CV.skip ?_
    refine PV.blockN ?_
    refine PV.thenN ?_
    refine cs3 X 0 2 3 [] (g31_k2 ro) ?_ ?_
    ·
     refine sr ?_
     refine mv ?_
     refine vy (V.nc h36 rfl) fun x48_38 h52 => ?_
     refine vy (V.fa h52 rfl Paf.fo72_5) fun x49_39 h53 => ?_
     refine vy (V.ld hS h53 rfl Paf.one4) fun x50_40 h54 => ?_
     refine vy (V.not h54 rfl) fun x51_41 h55 => ?_
     refine dn ?_
     refine CV.cond h55 rfl (fun e h56 => ?_) (fun e h56 => ?_)
     ·
      clear h36 h52 h53 h54 h55
      subst e
      refine sr ?_
      refine mv ?_
      refine LV.call hS h56 (g47_ok _ _ _ _ ) hP rfl rfl rfl rfl fun x53_42 T14 n14 h57 ρ its hS => ?_
      refine as_ ?_
      refine dn ?_
      refine sr ?_
      refine mv ?_
      refine vy (V.bin0 h57 rfl rfl) fun x55_43 h58 => ?_
      refine dn ?_
      refine CV.cond h58 rfl (fun e h59 => ?_) (fun e h59 => ?_)
      ·
       clear h56 h57 h58
       subst e
       refine sr ?_
       refine mv ?_
       refine as_ ?_
       refine dn ?_
       refine CV.ret ?_
       refine PV.thenR ?_
       cases h59
       exact PV.ret (by simp) Tryd.results31 hS (RS.tmp rfl RS.nil) rfl
      ·
       clear h56 h57 h58
       subst e
       refine CV.skip ?_
       exact pa3 hS h59 ⟨rfl, rfl, rfl, trivial⟩
     ·
      clear h36 h52 h53 h54 h55
      subst e
      refine CV.skip ?_
      exact pa3 hS h56 ⟨rfl, rfl, rfl, trivial⟩
    ·
     intro y0 y2 y3 T6 n6 ρ its hS h38
     unfold g31_k2 at h38
     clear h36
     refine CV.seq ?_
     refine CV.block ?_
     refine sr ?_
     refine mv ?_
     refine LV.call hS h38 (g48_ok _ _ _ _ ) hP rfl rfl rfl rfl fun x59_30 T7 n7 h39 ρ its hS => ?_
     refine as_ ?_
     refine dn ?_
     refine CV.cond h39 rfl (fun e h40 => ?_) (fun e h40 => ?_)
     ·
      clear h38 h39
      subst e
      refine sr ?_
      refine mv ?_
      refine LV.call hS h40 (g49_ok _ _ _ _ ) hP rfl rfl rfl rfl fun x61_31 T8 n8 h41 ρ its hS => ?_
      refine dn ?_
      refine sr ?_
      refine as_ ?_
      refine dn ?_
      refine CV.ret ?_
      refine PV.blockR ?_
      refine PV.thenR ?_
      cases h41
      exact PV.ret (by simp) Tryd.results31 hS (RS.tmp rfl RS.nil) rfl
     ·
      clear h38 h39
      subst e
      refine sr ?_
      refine mv ?_
      refine LV.call hS h40 (g50_ok _ _ _ _ ) hP rfl rfl rfl rfl fun x64_32 T9 n9 h42 ρ its hS => ?_
      refine as_ ?_
      refine dn ?_
      refine CV.cond h42 rfl (fun e h43 => ?_) (fun e h43 => ?_)
      ·
       clear h40 h42
       subst e
       refine sr ?_
       refine mv ?_
       refine LV.call hS h43 (g51_ok _ _ _ _ ) hP rfl rfl rfl rfl fun x66_33 T10 n10 h44 ρ its hS => ?_
       refine as_ ?_
       refine dn ?_
       refine CV.ret ?_
       refine PV.blockR ?_
       refine PV.thenR ?_
       cases h44
       exact PV.ret (by simp) Tryd.results31 hS (RS.tmp rfl RS.nil) rfl
      ·
       clear h40 h42
       subst e
       refine sr ?_
       refine mv ?_
       refine vy (V.eq h43 rfl rfl) fun x69_34 h45 => ?_
       refine mv ?_
       refine ls4 X 0 2 3 73 [] (g31_k3 ro) 3 ?_ ?_
       ·
        rcases condK_inv h45 with ⟨e, h50⟩ | ⟨e, h50⟩
        ·
         clear h43 h45
         subst e
         refine sk ?_
         refine sk ?_
         refine pu ?_
         exact la4 hS h50 ⟨rfl, rfl, rfl, rfl, trivial⟩
        ·
         clear h43 h45
         subst e
         refine mv ?_
         refine vy (V.eq h50 rfl rfl) fun x72_37 h51 => ?_
         refine pu ?_
         exact la4 hS h51 ⟨rfl, rfl, rfl, rfl, trivial⟩
       ·
        intro y0 y2 y3 y73 T11 n11 ρ its hS h46
        unfold g31_k3 at h46
        clear h43 h45
        refine as_ ?_
        refine dn ?_
        refine CV.cond h46 rfl (fun e h47 => ?_) (fun e h47 => ?_)
        ·
         clear h46
         subst e
         refine sr ?_
         refine mv ?_
         refine mv ?_
         refine LV.call hS h47 (g52_ok _ _ _ _ _ ) hP rfl rfl rfl rfl fun x76_35 T12 n12 h48 ρ its hS => ?_
         refine as_ ?_
         refine dn ?_
         refine CV.ret ?_
         refine PV.blockR ?_
         refine PV.thenR ?_
         cases h48
         exact PV.ret (by simp) Tryd.results31 hS (RS.tmp rfl RS.nil) rfl
        ·
         clear h46
         subst e
         refine CV.skip ?_
         refine PV.blockN ?_
         refine PV.thenN ?_
         refine sr ?_
         refine mv ?_
         refine LV.call hS h47 (g53_ok _ _ _ _ ) hP rfl rfl rfl rfl fun x78_36 T13 n13 h49 ρ its hS => ?_
         refine as_ ?_
         refine dn ?_
         refine CV.ret ?_
         cases h49
         exact PV.ret (by simp) Tryd.results31 hS (RS.tmp rfl RS.nil) rfl
noncomputable def g23_b2 (ro : List HT) (lp2 : AV → AV → AV → AV → AV → HT → Nat → R) (y2 y3 y4 y48 y49 : AV) (T7 : HT) (n7 : Nat) : R :=
 ltK Tryd.prog 3 (.tmp 49) (.tmp 48) 230060 y49 y48 fun x50_31 =>
 condK 230061 x50_31
 (
  ncK 230064 y4 fun x53_32 =>
  faK 230065 x53_32 0 fun x54_33 =>
  ldK 230066 T7 ro x54_33 fun x55_34 =>
  lenTK 230067 x55_34 fun x56_35 =>
  callK (g34 ro y4 (.lit (.int .i64 (.ofNat 7))) (.lit (.string ⟨⟨[]⟩⟩)) x56_35 T7 n7) fun x57_36 T8 n8 =>
  addK Tryd.prog 3 (.tmp 49) (.const (.int .i64 (.ofNat 1))) 230069 y49 (.lit (.int .i64 (.ofNat 1))) fun x58_37 =>
  lp2 y2 y3 y4 y48 x58_37 T8 n8
 )
 (
  ncK 230073 y4 fun x61_38 =>
  faK 230074 x61_38 0 fun x62_39 =>
  ldK 230075 T7 ro x62_39 fun x63_40 =>
  lenTK 230076 x63_40 fun x64_41 =>
  callK (g34 ro y4 (.lit (.int .i64 (.ofNat 8))) (.lit (.string ⟨⟨[]⟩⟩)) x64_41 T7 n7) fun x65_42 T9 n9 =>
  ncK 230079 y4 fun x67_43 =>
  faK 230080 x67_43 2 fun x68_44 =>
  ldK 230081 T9 ro x68_44 fun x69_45 =>
  .ok (.val (.tup [x69_45, (.lit (.nilIface))])) T9 n9
 )
noncomputable def g23_b1 (ro : List HT) (lp1 : AV → AV → AV → HT → Nat → R) (y2 y3 y4 : AV) (T3 : HT) (n3 : Nat) : R :=
 ncK 230017 y4 fun x15_6 =>
 faK 230018 x15_6 1 fun x16_7 =>
 ldK 230019 T3 ro x16_7 fun x17_8 =>
 ncK 230021 y4 fun x19_9 =>
 faK 230022 x19_9 0 fun x20_10 =>
 ldK 230023 T3 ro x20_10 fun x21_11 =>
 lenTK 230024 x21_11 fun x22_12 =>
 ltK Tryd.prog 3 (.tmp 17) (.tmp 22) 230025 x17_8 x22_12 fun x23_13 =>
 condK 230026 x23_13
 (
  callK (g31 ro y4 T3 n3) fun x25_14 T4 n4 =>
  bin0 Tryd.prog .neq 25 (.tmp 26) (.const (.nilIface)) 230031 x25_14 (.lit (.nilIface)) fun x27_15 =>
  condK 230032 x27_15
  (
   .ok (.val (.tup [(.lit (.slice none 0 0)), x25_14])) T4 n4
  )
  (
   lp1 y2 y3 y4 T4 n4
  )
 )
 (
  ncK 230037 y4 fun x30_16 =>
  faK 230038 x30_16 4 fun x31_17 =>
  ldK 230039 T3 ro x31_17 fun x32_18 =>
  lenSK 230040 x32_18 fun x33_19 =>
  gtK Tryd.prog 3 (.tmp 33) (.const (.int .i64 (.ofNat 0))) 230041 x33_19 (.lit (.int .i64 (.ofNat 0))) fun x34_20 =>
  condK 230042 x34_20
  (
   ncK 230044 y4 fun x36_21 =>
   faK 230045 x36_21 0 fun x37_22 =>
   ldK 230046 T3 ro x37_22 fun x38_23 =>
   lenTK 230047 x38_23 fun x39_24 =>
   callK (g32 ro x39_24 T3 n3) fun x40_25 T5 n5 =>
   .ok (.val (.tup [(.lit (.slice none 0 0)), x40_25])) T5 n5
  )
  (
   callK (g33 ro y4 T3 n3) fun x42_26 T6 n6 =>
   ncK 230054 y4 fun x44_27 =>
   faK 230055 x44_27 3 fun x45_28 =>
   ldK 230056 T6 ro x45_28 fun x46_29 =>
   cutLenK 230057 T6 ro x46_29 (.lit (.int .i64 (.ofNat 1))) fun x48_30 =>
   lpf5 230059 (g23_b2 ro) 100000 y2 y3 y4 x48_30 (.lit (.int .i64 (.ofNat 0))) T6 n6
  )
 )
noncomputable def g23 (ro : List HT) (a0 : AV) (T : HT) (nx : Nat) : R :=
 lenTK 230004 a0 fun x7_1 =>
 gtK Tryd.prog 3 (.tmp 7) (.const (.int .i64 (.ofNat 65536))) 230005 x7_1 (.lit (.int .i64 (.ofNat 65536))) fun x8_2 =>
 condK 230006 x8_2
 (
  .ok (.val (.tup [(.lit (.slice none 0 0)), (.iface 108 (.opq 7))])) T nx
 )
 (
  bsK 230011 T nx 1 3 1 [(0, (.lit (.int .i64 (.ofNat 0))))] fun x11_3 T1 n1 =>
  optK 230012 (bld72 [(0, a0), (3, x11_3)]) fun x12_4 =>
  boxK 230013 T1 n1 x12_4 72 fun x13_5 T2 n2 =>
  lpf3 230015 (g23_b1 ro) 100000 (.lit (.slice none 0 0)) (.lit (.nilIface)) x13_5 T2 n2
 )
theorem g23_ok (ro : List HT) (a0 : AV) (T : HT) (nx : Nat) : GOk Tryd.prog envE 23 [a0] ro T nx (g23 ro a0 T nx) := by
 refine GOk.of_body Tryd.func23 rfl Tryd.ntmps23 (by kernel_rfl) rfl fun r T' n' h1 w0 base ρ0 its hS hP => ?_
 have X : CtxW envE ρ0 ro r T' n' := trivial
 unfold g23 at h1
 refine sr ?_
 refine as_ ?_
 refine as_ ?_
 refine dn ?_
 refine CV.seq ?_
 refine sr ?_
 refine mv ?_
 refine vy (V.lenT h1 rfl Paf.ls9) fun x7_1 h2 => ?_
 refine vy (V.gt h2 rfl rfl) fun x8_2 h3 => ?_
 refine dn ?_
 refine CV.cond h3 rfl (fun e h4 => ?_) (fun e h4 => ?_)
 ·
  clear h1 h2 h3
  subst e
  refine CV.seq ?_
  refine CV.regionM [(0, .held), (1, .anywhere), (2, .held)] rfl (fun c a a' w hd hq => PanicOk.root (P := Tryd.prog) (fn := Tryd.f23) (w0 := w0) (base := base) (E := envE) (ro := ro) (r := r) (T' := T') (n' := n') (ρ0 := ρ0) c a a' w hd hq) (by kernel_rfl) ?_
  refine MV.step1 (i := 0) rfl (fun _ z => z) (VAL.ldG hS (by rfl) Paf.one25) rfl rfl rfl [] (by kernel_rfl) ?_
  refine MV.step0 (i := 1) rfl (VAL.assign rfl) rfl rfl rfl ?_
  refine MV.step1 (i := 2) rfl (fun _ z => z) (VAL.assign rfl) rfl rfl rfl [] (by kernel_rfl) ?_
  refine mdn ?_
  refine CV.ret ?_
  refine PV.thenR ?_
  cases h4
  exact PV.ret (by simp) Tryd.results23 hS (RS.tmp rfl (RS.tmp rfl RS.nil)) rfl
 ·
  clear h1 h2 h3
  subst e
  refine CV.skip ?_
  refine PV.thenN ?_
  refine sr ?_
  refine mv ?_
  refine LV.bslice hS h4 rfl rfl Paf.el29 rfl rfl rfl rfl fun x11_3 T1 n1 h5 ρ its hS hdr => ?_
  refine vy (V.bld h5 rfl) fun x12_4 h6 => ?_
  refine LV.box hS h6 rfl rfl rfl rfl rfl fun x13_5 T2 n2 h7 ρ its hS hdr => ?_
  refine as_ ?_
  refine dn ?_
  refine CV.seq ?_
  refine CV.block ?_
  refine cl3 X 2 3 4 [] hS h7 ⟨rfl, rfl, rfl, trivial⟩ ?_
  intro f1 y2 y3 y4 T3 n3 ρ its hS h8
  unfold g23_b1 at h8
  clear h4 h5 h6 h7
  refine CV.seq ?_
  refine CV.seq ?_
  refine CV.regionM [(0, .anywhere), (1, .anywhere), (2, .anywhere), (3, .held), (4, .anywhere), (5, .anywhere), (6, .anywhere), (7, .held), (8, .held), (9, .held)] rfl (fun c a a' w hd hq => PanicOk.root (P := Tryd.prog) (fn := Tryd.f23) (w0 := w0) (base := base) (E := envE) (ro := ro) (r := r) (T' := T') (n' := n') (ρ0 := ρ0) c a a' w hd hq) (by kernel_rfl) ?_
  refine MV.step0 (i := 0) rfl (VAL.move rfl) rfl rfl rfl ?_
  refine MV.lift0 (i := 1) rfl (V.nc h8 rfl) rfl rfl rfl fun x15_6 h9 => ?_
  refine MV.lift0 (i := 2) rfl (V.fa h9 rfl Paf.fo72_1) rfl rfl rfl fun x16_7 h10 => ?_
  refine MV.lift1 (i := 3) rfl (fun _ z => z) (V.ld hS h10 rfl Paf.one3) rfl rfl rfl [] (by kernel_rfl) fun x17_8 h11 => ?_
  refine MV.step0 (i := 4) rfl (VAL.move rfl) rfl rfl rfl ?_
  refine MV.lift0 (i := 5) rfl (V.nc h11 rfl) rfl rfl rfl fun x19_9 h12 => ?_
  refine MV.lift0 (i := 6) rfl (V.fa h12 rfl Paf.fo72_0) rfl rfl rfl fun x20_10 h13 => ?_
  refine MV.lift1 (i := 7) rfl (fun _ z => z) (V.ld hS h13 rfl Paf.one9) rfl rfl rfl [3] (by kernel_rfl) fun x21_11 h14 => ?_
  refine MV.lift1 (i := 8) rfl (fun _ z => z) (V.lenT h14 rfl Paf.ls9) rfl rfl rfl [3] (by kernel_rfl) fun x22_12 h15 => ?_
  refine MV.lift1 (i := 9) rfl (fun _ z => z) (V.lt h15 rfl rfl) rfl rfl rfl [] (by kernel_rfl) fun x23_13 h16 => ?_
  refine mdn ?_
  refine CV.cond h16 rfl (fun e h17 => ?_) (fun e h17 => ?_)
  ·
   clear h8 h9 h10 h11 h12 h13 h14 h15 h16
   subst e
   refine CV.skip ?_
   refine PV.thenN ?_
   refine CV.block ?_
   refine sr ?_
   refine mv ?_
   refine LV.call hS h17 (g31_ok _ _ _ _ ) hP rfl rfl rfl rfl fun x25_14 T4 n4 h18 ρ its hS => ?_
   refine as_ ?_
   refine dn ?_
   refine sr ?_
   refine mv ?_
   refine vy (V.bin0 h18 rfl rfl) fun x27_15 h19 => ?_
   refine dn ?_
   refine CV.cond h19 rfl (fun e h20 => ?_) (fun e h20 => ?_)
   ·
    clear h17 h18 h19
    subst e
    refine sr ?_
    refine mv ?_
    refine as_ ?_
    refine as_ ?_
    refine dn ?_
    refine CV.ret ?_
    refine PV.blockR ?_
    refine PV.thenR ?_
    refine PV.blockR ?_
    refine PV.thenR ?_
    cases h20
    exact PV.ret (by simp) Tryd.results23 hS (RS.tmp rfl (RS.tmp rfl RS.nil)) rfl
   ·
    clear h17 h18 h19
    subst e
    refine CV.skip ?_
    refine PV.blockN ?_
    exact pb3 hS h20 ⟨rfl, rfl, rfl, trivial⟩
  ·
   clear h8 h9 h10 h11 h12 h13 h14 h15 h16
   subst e
   refine CV.exit ?_
   refine PV.thenE ?_
   refine PV.thenE ?_
   refine PV.blockE ?_
   refine PV.thenN ?_
   refine CV.seq ?_
   refine sr ?_
   refine mv ?_
   refine vy (V.nc h17 rfl) fun x30_16 h21 => ?_
   refine vy (V.fa h21 rfl Paf.fo72_4) fun x31_17 h22 => ?_
   refine vy (V.ld hS h22 rfl Paf.one70) fun x32_18 h23 => ?_
   refine vy (V.lenS h23 rfl Paf.ls70) fun x33_19 h24 => ?_
   refine vy (V.gt h24 rfl rfl) fun x34_20 h25 => ?_
   refine dn ?_
   refine CV.cond h25 rfl (fun e h26 => ?_) (fun e h26 => ?_)
   ·
    clear h17 h21 h22 h23 h24 h25
    subst e
    refine sr ?_
    refine mv ?_
    refine vy (V.nc h26 rfl) fun x36_21 h27 => ?_
    refine vy (V.fa h27 rfl Paf.fo72_0) fun x37_22 h28 => ?_
    refine vy (V.ld hS h28 rfl Paf.one9) fun x38_23 h29 => ?_
    refine vy (V.lenT h29 rfl Paf.ls9) fun x39_24 h30 => ?_
    refine LV.call hS h30 (g32_ok _ _ _ _ ) hP rfl rfl rfl rfl fun x40_25 T5 n5 h31 ρ its hS => ?_
    refine as_ ?_
    refine as_ ?_
    refine dn ?_
    refine CV.ret ?_
    refine PV.thenR ?_
    cases h31
    exact PV.ret (by simp) Tryd.results23 hS (RS.tmp rfl (RS.tmp rfl RS.nil)) rfl
   ·
    clear h17 h21 h22 h23 h24 h25
    subst e
    refine CV.skip ?_
    refine PV.thenN ?_
    refine sr ?_
    refine mv ?_
    refine LV.call hS h26 (g33_ok _ _ _ _ ) hP rfl rfl rfl rfl fun x42_26 T6 n6 h32 ρ its hS => ?_
    refine dn ?_
    refine CV.seq ?_
    refine sr ?_
    refine mv ?_
    refine vy (V.nc h32 rfl) fun x44_27 h33 => ?_
    refine vy (V.fa h33 rfl Paf.fo72_3) fun x45_28 h34 => ?_
    refine vy (V.ld hS h34 rfl Paf.one29) fun x46_29 h35 => ?_
    refine LV.cutLen hS h35 rfl rfl rfl Paf.el29 rfl rfl rfl rfl rfl Paf.ls29 rfl rfl rfl fun x48_30 h36 => ?_
    refine mv ?_
    refine dn ?_
    refine CV.block ?_
    refine cl5 X 2 3 4 48 49 [] hS h36 ⟨rfl, rfl, rfl, rfl, rfl, trivial⟩ ?_
    intro f2 y2 y3 y4 y48 y49 T7 n7 ρ its hS h37
    unfold g23_b2 at h37
    clear h26 h32 h33 h34 h35 h36
    refine sr ?_
    refine vy (V.lt h37 rfl rfl) fun x50_31 h38 => ?_
    refine dn ?_
    refine CV.seq ?_
    refine CV.cond h38 rfl (fun e h39 => ?_) (fun e h39 => ?_)
    ·
     clear h37 h38
     subst e
     refine CV.skip ?_
     refine PV.thenN ?_
     refine CV.seq ?_
     refine CV.block ?_
     refine CV.region ?_
     refine mv ?_
     refine mv ?_
     refine vy (V.nc h39 rfl) fun x53_32 h40 => ?_
     refine vy (V.fa h40 rfl Paf.fo72_0) fun x54_33 h41 => ?_
     refine vy (V.ld hS h41 rfl Paf.one9) fun x55_34 h42 => ?_
     refine vy (V.lenT h42 rfl Paf.ls9) fun x56_35 h43 => ?_
     refine LV.call hS h43 (g34_ok _ _ _ _ _ _ _ ) hP rfl rfl rfl rfl fun x57_36 T8 n8 h44 ρ its hS => ?_
     refine LV.done ?_
     refine PV.blockN ?_
     refine PV.thenN ?_
     refine CV.region ?_
     refine vy (V.add h44 rfl rfl) fun x58_37 h45 => ?_
     refine mv ?_
     refine LV.done ?_
     exact pb5 hS h45 ⟨rfl, rfl, rfl, rfl, rfl, trivial⟩
    ·
     clear h37 h38
     subst e
     refine CV.exit ?_
     refine PV.thenE ?_
     refine PV.thenE ?_
     refine PV.blockE ?_
     refine PV.thenN ?_
     refine sr ?_
     refine mv ?_
     refine mv ?_
     refine vy (V.nc h39 rfl) fun x61_38 h46 => ?_
     refine vy (V.fa h46 rfl Paf.fo72_0) fun x62_39 h47 => ?_
     refine vy (V.ld hS h47 rfl Paf.one9) fun x63_40 h48 => ?_
     refine vy (V.lenT h48 rfl Paf.ls9) fun x64_41 h49 => ?_
     refine LV.call hS h49 (g34_ok _ _ _ _ _ _ _ ) hP rfl rfl rfl rfl fun x65_42 T9 n9 h50 ρ its hS => ?_
     refine dn ?_
     refine sr ?_
     refine mv ?_
     refine vy (V.nc h50 rfl) fun x67_43 h51 => ?_
     refine vy (V.fa h51 rfl Paf.fo72_2) fun x68_44 h52 => ?_
     refine vy (V.ld hS h52 rfl Paf.one47) fun x69_45 h53 => ?_
     refine as_ ?_
     refine as_ ?_
     refine dn ?_
     refine CV.ret ?_
     cases h53
     exact PV.ret (by simp) Tryd.results23 hS (RS.tmp rfl (RS.tmp rfl RS.nil)) rfl
noncomputable def g24_k1 (ro : List HT) (y0 y1 y2 y3 y4 y16 : AV) (T3 : HT) (n3 : Nat) : R :=
 condK 240012 y16
 (
  panK 240014 y2 T3 n3
 )
 (
  condK 240016 y4
  (
   faK 240017 y3 0 fun x19_6 =>
   ldQK 240018 T3 ro [y3] x19_6 fun x20_7 =>
   stK 240020 T3 y0 (.lit (.slice none 0 0)) fun T4 =>
   keepK 240021 T3 T4 [y3] <|
   stK 240022 T4 y1 (.iface 54 x20_7) fun T5 =>
   .ok (.val (.lit undef)) T5 n3
  )
  (
   .ok (.val (.lit undef)) T3 n3
  )
 )
noncomputable def gd24 (ro : List HT) (pv : AV) (a0 a1 : AV) (T : HT) (nx : Nat) : R :=
 asK 240002 pv 56 (.tup [.lit (.agg #[.pointer none]), .lit (.bool false)]) fun x8_1 =>
 exK 240004 x8_1 0 fun x9_2 =>
 exK 240005 x8_1 1 fun x10_3 =>
 newK T nx (.obj [.lit (.pointer none)] 56) fun x3_4 T1 n1 =>
 stAK 240007 T1 x3_4 x9_2 1 fun T2 =>
 bin0 Tryd.prog .neq 20 (.tmp 11) (.const (.nilIface)) 240010 pv (.lit (.nilIface)) fun x12_5 =>
 condK 240023 x12_5
 (
  notK 240025 x10_3 fun x15_8 =>
  g24_k1 ro a0 a1 pv x3_4 x10_3 x15_8 T2 n1
 )
 (
  g24_k1 ro a0 a1 pv x3_4 x10_3 (.lit (.bool false)) T2 n1
 )
theorem gd24_ok (ro : List HT) (pv : AV) (a0 a1 : AV) (T : HT) (nx : Nat) : GDk Tryd.prog envE 24 [a0, a1] ro T nx pv (gd24 ro pv a0 a1 T nx) := by
 refine GDk.of_body Tryd.func24 rfl Tryd.ntmps24 Tryd.results24 rfl rfl rfl rfl fun r T' n' h1 w0 base ρ0 its hS hP => ?_
 have X : CtxW envE ρ0 ro (.val r) T' n' := trivial
 unfold gd24 at h1
 refine sr ?_
 refine mv ?_
 refine vy (V.as h1 rfl Paf.ni56 Paf.za56) fun x8_1 h2 => ?_
 refine mv ?_
 refine vy (V.ex h2 rfl) fun x9_2 h3 => ?_
 refine vy (V.ex h3 rfl) fun x10_3 h4 => ?_
 refine LV.alloc hS h4 rfl Paf.zr56 rfl rfl rfl fun x3_4 T1 n1 h5 ρ its hS hdr => ?_
 refine LV.stA hS h5 rfl rfl rfl Paf.agg56 rfl rfl rfl fun T2 its h6 hS => ?_
 refine as_ ?_
 refine dn ?_
 refine CV.seq ?_
 refine sr ?_
 refine mv ?_
 refine vy (V.bin0 h6 rfl rfl) fun x12_5 h7 => ?_
 refine mv ?_
 refine ls6 X 0 1 2 3 4 16 [] (g24_k1 ro) 3 ?_ ?_
 ·
  rcases condK_inv h7 with ⟨e, h16⟩ | ⟨e, h16⟩
  ·
   clear h1 h2 h3 h4 h5 h6 h7
   subst e
   refine mv ?_
   refine vy (V.not h16 rfl) fun x15_8 h17 => ?_
   refine pu ?_
   exact la6 hS h17 ⟨rfl, rfl, rfl, rfl, rfl, rfl, trivial⟩
  ·
   clear h1 h2 h3 h4 h5 h6 h7
   subst e
   refine sk ?_
   refine sk ?_
   refine pu ?_
   exact la6 hS h16 ⟨rfl, rfl, rfl, rfl, rfl, rfl, trivial⟩
 ·
  intro y0 y1 y2 y3 y4 y16 T3 n3 ρ its hS h8
  unfold g24_k1 at h8
  clear h1 h2 h3 h4 h5 h6 h7
  refine dn ?_
  refine CV.cond h8 rfl (fun e h9 => ?_) (fun e h9 => ?_)
  ·
   clear h8
   subst e
   refine CV.region ?_
   refine mv ?_
   exact LV.panNo h9
  ·
   clear h8
   subst e
   refine CV.skip ?_
   refine PV.thenN ?_
   refine sr ?_
   refine mv ?_
   refine dn ?_
   refine CV.cond h9 rfl (fun e h10 => ?_) (fun e h10 => ?_)
   ·
    clear h9
    subst e
    refine CV.nopan ?_
    refine CV.regionMS hS [y3] [(0, .anywhere), (1, .held), (2, .held), (3, .alone), (4, .alone)] rfl NoPan.ok (by kernel_rfl) ?_
    have hK := KeepS.start [y3] hS
    have hR := hS
    have hP0 := hP
    replace hP := PK.up hR hP
    replace hS := hR.root
    refine MV.lift0 (i := 0) rfl (V.fa h10 rfl Paf.fo56_0) rfl rfl rfl fun x19_6 h11 => ?_
    refine MV.lift1 (i := 1) rfl hK (V.ldQ hS h11 rfl Paf.one54) rfl rfl rfl [] (by kernel_rfl) fun x20_7 h12 => ?_
    refine MV.step1 (i := 2) rfl hK (VAL.mkI rfl Paf.ni54) rfl rfl rfl [] (by kernel_rfl) ?_
    refine MV.force (i := 3) rfl ?_
    refine LV.st hS h12 rfl rfl rfl Paf.siz23 rfl rfl fun T4 its h13 hS => ?_
    obtain ⟨hK, h14⟩ := KeepS.step hR hS h13
    refine LV.nextM [2] (by kernel_rfl) (fun _ => hK) ?_
    refine MV.force (i := 4) rfl ?_
    refine LV.st hS h14 rfl rfl rfl Paf.siz25 rfl rfl fun T5 its h15 hS => ?_
    refine LV.nextM [] (by kernel_rfl) (fun z => absurd rfl z) ?_
    replace hS := hR.up hS
    replace hP := hP0
    refine MV.doneN ?_
    cases h15
    exact PV.dend hS
   ·
    clear h9
    subst e
    refine CV.skip ?_
    cases h10
    exact PV.dend hS
noncomputable def g12 (ro : List HT) (a0 a1 : AV) (T : HT) (nx : Nat) : R :=
 newK T nx (.obj [.lit (.slice none 0 0)] 23) fun x4_1 T1 n1 =>
 newK T1 n1 (.obj [.lit (.nilIface)] 25) fun x5_2 T2 n2 =>
 callK (g23 ro a0 T2 n2) fun x10_3 T3 n3 =>
 exK 120006 x10_3 0 fun x11_4 =>
 exK 120007 x10_3 1 fun x12_5 =>
 stK 120009 T3 x5_2 x12_5 fun T4 =>
 ldK 120010 T4 ro x5_2 fun x13_6 =>
 bin0 Tryd.prog .neq 25 (.tmp 13) (.const (.nilIface)) 120011 x13_6 (.lit (.nilIface)) fun x14_7 =>
 condK 120012 x14_7
 (
  ldQK 120013 T4 ro [x5_2] x5_2 fun x15_8 =>
  stK 120014 T4 x4_1 (.lit (.slice none 0 0)) fun T5 =>
  keepK 120015 T4 T5 [x5_2] <|
  stK 120016 T5 x5_2 x15_8 fun T6 =>
  ldK 120017 T6 ro x4_1 fun x4_9 =>
  ldK 120018 T6 ro x5_2 fun x5_10 =>
  .ok (.val (.tup [x4_9, x5_10])) T6 n3
 )
 (
  optK 120020 (bld49 [(0, x11_4)]) fun x17_11 =>
  boxK 120021 T4 n3 x17_11 49 fun x18_12 T7 n7 =>
  dynK 120027 a1 fun f p q => callPK 120027 (scc2 4000 f ro (p ++ ([x18_12] ++ q)) T7 n7) (fun pv t m => leaveK 120027 (gd24 ro pv x4_1 x5_2 t m) fun T8 n8 =>
   ldK 120028 T8 ro x4_1 fun x4_13 =>
   ldK 120029 T8 ro x5_2 fun x5_14 =>
   .ok (.val (.tup [x4_13, x5_14])) T8 n8
  ) fun x22_15 T9 n9 =>
  ncK 120031 x18_12 fun x24_16 =>
  faK 120032 x24_16 2 fun x25_17 =>
  ldK 120033 T9 ro x25_17 fun x26_18 =>
  stK 120034 T9 x4_1 x26_18 fun T10 =>
  stK 120035 T10 x5_2 (.lit (.nilIface)) fun T11 =>
  leaveK 120036 (gd24 ro (.lit .nilIface) x4_1 x5_2 T11 n9) fun T12 n12 =>
  ldK 120037 T12 ro x4_1 fun x4_19 =>
  ldK 120038 T12 ro x5_2 fun x5_20 =>
  .ok (.val (.tup [x4_19, x5_20])) T12 n12
 )
theorem g12_ok (ro : List HT) (a0 a1 : AV) (T : HT) (nx : Nat) : GOk Tryd.prog envE 12 [a0, a1] ro T nx (g12 ro a0 a1 T nx) := by
 refine GOk.of_bodyD Tryd.func12 rfl Tryd.ntmps12 (by kernel_rfl) rfl fun r T' n' h1 w0 base ρ0 its hS hP => ?_
 have X : CtxW envE ρ0 ro r T' n' := trivial
 unfold g12 at h1
 refine sr ?_
 refine LV.alloc hS h1 rfl Paf.zr23 rfl rfl rfl fun x4_1 T1 n1 h2 ρ its hS hdr => ?_
 refine LV.alloc hS h2 rfl Paf.zr25 rfl rfl rfl fun x5_2 T2 n2 h3 ρ its hS hdr => ?_
 refine dn ?_
 refine sr ?_
 refine mv ?_
 refine LV.call hS h3 (g23_ok _ _ _ _ ) hP rfl rfl rfl rfl fun x10_3 T3 n3 h4 ρ its hS => ?_
 refine mv ?_
 refine vy (V.ex h4 rfl) fun x11_4 h5 => ?_
 refine vy (V.ex h5 rfl) fun x12_5 h6 => ?_
 refine as_ ?_
 refine LV.st hS h6 rfl rfl rfl Paf.siz25 rfl rfl fun T4 its h7 hS => ?_
 refine dn ?_
 refine CV.seq ?_
 refine sr ?_
 refine vy (V.ld hS h7 rfl Paf.one25) fun x13_6 h8 => ?_
 refine vy (V.bin0 h8 rfl rfl) fun x14_7 h9 => ?_
 refine dn ?_
 refine CV.cond h9 rfl (fun e h10 => ?_) (fun e h10 => ?_)
 ·
  clear h1 h2 h3 h4 h5 h6 h7 h8 h9
  subst e
  refine CV.seq ?_
  refine CV.nopan ?_
  refine CV.regionMS hS [x5_2] [(0, .held), (1, .alone), (2, .alone)] rfl NoPan.ok (by kernel_rfl) ?_
  have hK := KeepS.start [x5_2] hS
  have hR := hS
  have hP0 := hP
  replace hP := PK.up hR hP
  replace hS := hR.root
  refine MV.lift1 (i := 0) rfl hK (V.ldQ hS h10 rfl Paf.one25) rfl rfl rfl [] (by kernel_rfl) fun x15_8 h11 => ?_
  refine MV.force (i := 1) rfl ?_
  refine LV.st hS h11 rfl rfl rfl Paf.siz23 rfl rfl fun T5 its h12 hS => ?_
  obtain ⟨hK, h13⟩ := KeepS.step hR hS h12
  refine LV.nextM [0] (by kernel_rfl) (fun _ => hK) ?_
  refine MV.force (i := 2) rfl ?_
  refine LV.st hS h13 rfl rfl rfl Paf.siz25 rfl rfl fun T6 its h14 hS => ?_
  refine LV.nextM [] (by kernel_rfl) (fun z => absurd rfl z) ?_
  replace hS := hR.up hS
  replace hP := hP0
  refine mdnN ?_
  refine CV.ret ?_
  refine PV.thenR ?_
  refine PV.retD (by simp) ?_
  refine PV.ld (x := .tmp 4) (t := 23) hS h14 rfl Paf.one23 fun x4_9 h15 hVx4_9 => ?_
  refine PV.ld (x := .tmp 5) (t := 25) hS h15 rfl Paf.one25 fun x5_10 h16 hVx5_10 => ?_
  cases h16
  exact PV.ret (by simp) Tryd.results12 hS (RS.cell hVx4_9 (RS.cell hVx5_10 RS.nil)) rfl
 ·
  clear h1 h2 h3 h4 h5 h6 h7 h8 h9
  subst e
  refine CV.skip ?_
  refine PV.thenN ?_
  refine sr ?_
  refine mv ?_
  refine vy (V.bld h10 rfl) fun x17_11 h17 => ?_
  refine LV.box hS h17 rfl rfl rfl rfl rfl fun x18_12 T7 n7 h18 ρ its hS hdr => ?_
  refine as_ ?_
  refine dn ?_
  refine sr ?_
  refine pu ?_
  refine LV.defer rfl rfl rfl rfl rfl rfl fun us hys => ?_
  refine dn ?_
  refine sr ?_
  refine mv ?_
  refine mv ?_
  refine LV.callDP (fn := Tryd.f12) (kf := 24) (Xp := fun pv t m => gd24 ro pv x4_1 x5_2 t m) (G := fun f gs => scc2 4000 f ro gs T7 n7) (qs := [x18_12]) hS h18 (fun f gs => scc2_ok _ _ _ _ _ _) (fun pv t m => gd24_ok _ _ _ _ _ _ ) Paf.en24 hys (fun ch a w z => z) rfl rfl rfl rfl rfl rfl rfl (fun T8 n8 h19 ρ its hS => ?_) (fun x22_15 T9 n9 h22 ρ its hE hS => ?_)
  ·
   refine PV.ld (x := .tmp 4) (t := 23) hS h19 rfl Paf.one23 fun x4_13 h20 hVx4_13 => ?_
   refine PV.ld (x := .tmp 5) (t := 25) hS h20 rfl Paf.one25 fun x5_14 h21 hVx5_14 => ?_
   cases h21
   exact PV.ret (by simp) Tryd.results12 hS (RS.cell hVx4_13 (RS.cell hVx5_14 RS.nil)) rfl
  have hys := instL_ext hE _ _ hys
  refine dn ?_
  refine sr ?_
  refine mv ?_
  refine vy (V.nc h22 rfl) fun x24_16 h23 => ?_
  refine vy (V.fa h23 rfl Paf.fo49_2) fun x25_17 h24 => ?_
  refine vy (V.ld hS h24 rfl Paf.one23) fun x26_18 h25 => ?_
  refine LV.st hS h25 rfl rfl rfl Paf.siz23 rfl rfl fun T10 its h26 hS => ?_
  refine LV.st hS h26 rfl rfl rfl Paf.siz25 rfl rfl fun T11 its h27 hS => ?_
  refine dn ?_
  refine CV.ret ?_
  refine PV.leaveR (by simp) hS hys h27 (gd24_ok _ _ _ _ _ _ ) Paf.en24 fun T12 n12 h28 ρ its hS => ?_
  refine PV.ld (x := .tmp 4) (t := 23) hS h28 rfl Paf.one23 fun x4_19 h29 hVx4_19 => ?_
  refine PV.ld (x := .tmp 5) (t := 25) hS h29 rfl Paf.one25 fun x5_20 h30 hVx5_20 => ?_
  cases h30
  exact PV.ret (by simp) Tryd.results12 hS (RS.cell hVx4_19 (RS.cell hVx5_20 RS.nil)) rfl
noncomputable def g7 (ro : List HT) (a0 : AV) (T : HT) (nx : Nat) : R :=
 callK (g12 ro a0 (.lit (.func (.func 13) #[] #[])) T nx) fun x5_1 T1 n1 =>
 exK 70005 x5_1 0 fun x6_2 =>
 exK 70006 x5_1 1 fun x7_3 =>
 .ok (.val (.tup [x6_2, x7_3])) T1 n1
theorem g7_ok (ro : List HT) (a0 : AV) (T : HT) (nx : Nat) : GOk Tryd.prog envE 7 [a0] ro T nx (g7 ro a0 T nx) := by
 refine GOk.of_body Tryd.func7 rfl Tryd.ntmps7 (by kernel_rfl) rfl fun r T' n' h1 w0 base ρ0 its hS hP => ?_
 have X : CtxW envE ρ0 ro r T' n' := trivial
 unfold g7 at h1
 refine sr ?_
 refine as_ ?_
 refine as_ ?_
 refine dn ?_
 refine sr ?_
 refine mv ?_
 refine LV.call hS h1 (g12_ok _ _ _ _ _ ) hP rfl rfl rfl rfl fun x5_1 T1 n1 h2 ρ its hS => ?_
 refine vy (V.ex h2 rfl) fun x6_2 h3 => ?_
 refine vy (V.ex h3 rfl) fun x7_3 h4 => ?_
 refine as_ ?_
 refine as_ ?_
 refine dn ?_
 refine CV.ret ?_
 cases h4
 exact PV.ret (by simp) Tryd.results7 hS (RS.tmp rfl (RS.tmp rfl RS.nil)) rfl
noncomputable def g6_k3 (ro : List HT) (y0 y42 : AV) (T5 : HT) (n5 : Nat) : R :=
 .ok (.val y42) T5 n5
noncomputable def g6_b2 (ro : List HT) (lp2 : AV → AV → AV → AV → HT → Nat → R) (y0 y1 y3 y4 : AV) (T4 : HT) (n4 : Nat) : R :=
 ltK Tryd.prog 3 (.tmp 17) (.const (.int .i64 (.ofNat 6))) 60018 y4 (.lit (.int .i64 (.ofNat 6))) fun x18_6 =>
 condK 60019 x18_6
 (
  iaK 60022 y1 y4 5 fun x23_7 =>
  faK 60023 x23_7 0 fun x24_8 =>
  ldK 60024 T4 ro x24_8 fun x25_9 =>
  iaK 60027 y3 y4 1 fun x28_10 =>
  ldK 60028 T4 ro x28_10 fun x29_11 =>
  neK Tryd.prog 3 (.tmp 25) (.tmp 29) 60029 x25_9 x29_11 fun x30_12 =>
  condK 60030 x30_12
  (
   .ok (.val (.lit (.bool false))) T4 n4
  )
  (
   addK Tryd.prog 3 (.tmp 19) (.const (.int .i64 (.ofNat 1))) 60033 y4 (.lit (.int .i64 (.ofNat 1))) fun x20_13 =>
   lp2 y0 y1 y3 x20_13 T4 n4
  )
 )
 (
  iaK 60036 y1 (.lit (.int .i64 (.ofNat 4))) 5 fun x32_14 =>
  faK 60037 x32_14 2 fun x33_15 =>
  ldK 60038 T4 ro x33_15 fun x34_16 =>
  eqK Tryd.prog 3 (.tmp 34) (.const (.int .i64 (.ofNat 2))) 60039 x34_16 (.lit (.int .i64 (.ofNat 2))) fun x35_17 =>
  condK 60042 x35_17
  (
   iaK 60044 y1 (.lit (.int .i64 (.ofNat 3))) 5 fun x38_18 =>
   faK 60045 x38_18 2 fun x39_19 =>
   ldK 60046 T4 ro x39_19 fun x40_20 =>
   eqK Tryd.prog 3 (.tmp 40) (.const (.int .i64 (.ofNat 6))) 60047 x40_20 (.lit (.int .i64 (.ofNat 6))) fun x41_21 =>
   g6_k3 ro y0 x41_21 T4 n4
  )
  (
   g6_k3 ro y0 (.lit (.bool false)) T4 n4
  )
 )
noncomputable def g6_k1 (ro : List HT) (y1 y15 : AV) (T2 : HT) (n2 : Nat) : R :=
 condK 60011 y15
 (
  .ok (.val (.lit (.bool false))) T2 n2
 )
 (
  bsK 60013 T2 n2 6 3 1 [(0, (.lit (.int .i64 (.ofNat 6)))), (1, (.lit (.int .i64 (.ofNat 4)))), (2, (.lit (.int .i64 (.ofNat 4)))), (3, (.lit (.int .i64 (.ofNat 21)))), (4, (.lit (.int .i64 (.ofNat 36)))), (5, (.lit (.int .i64 (.ofNat 47))))] fun x16_5 T3 n3 =>
  lpf4 60016 (g6_b2 ro) 100000 (.lit (.bool false)) y1 x16_5 (.lit (.int .i64 (.ofNat 0))) T3 n3
 )
noncomputable def g6 (ro : List HT) (T : HT) (nx : Nat) : R :=
 callK (g7 ro (.lit (.string ⟨⟨[120, 32, 61, 32, 49, 32, 43, 32, 50]⟩⟩)) T nx) fun x6_1 T1 n1 =>
 exK 60004 x6_1 0 fun x7_2 =>
 exK 60005 x6_1 1 fun x8_3 =>
 bin0 Tryd.prog .neq 25 (.tmp 9) (.const (.nilIface)) 60009 x8_3 (.lit (.nilIface)) fun x10_4 =>
 condK 60050 x10_4
 (
  g6_k1 ro x7_2 (.lit (.bool true)) T1 n1
 )
 (
  lenSK 60053 x7_2 fun x13_22 =>
  neK Tryd.prog 3 (.tmp 13) (.const (.int .i64 (.ofNat 6))) 60054 x13_22 (.lit (.int .i64 (.ofNat 6))) fun x14_23 =>
  g6_k1 ro x7_2 x14_23 T1 n1
 )
theorem g6_ok (ro : List HT) (T : HT) (nx : Nat) : GOk Tryd.prog envE 6 [] ro T nx (g6 ro T nx) := by
 refine GOk.of_body Tryd.func6 rfl Tryd.ntmps6 (by kernel_rfl) rfl fun r T' n' h1 w0 base ρ0 its hS hP => ?_
 have X : CtxW envE ρ0 ro r T' n' := trivial
 unfold g6 at h1
 refine sr ?_
 refine as_ ?_
 refine dn ?_
 refine sr ?_
 refine LV.call hS h1 (g7_ok _ _ _ _ ) hP rfl rfl rfl rfl fun x6_1 T1 n1 h2 ρ its hS => ?_
 refine mv ?_
 refine vy (V.ex h2 rfl) fun x7_2 h3 => ?_
 refine vy (V.ex h3 rfl) fun x8_3 h4 => ?_
 refine as_ ?_
 refine as_ ?_
 refine dn ?_
 refine CV.seq ?_
 refine sr ?_
 refine mv ?_
 refine vy (V.bin0 h4 rfl rfl) fun x10_4 h5 => ?_
 refine mv ?_
 refine ls2 X 1 15 [(0, (.lit (.bool false)))] (g6_k1 ro) 4 ?_ ?_
 ·
  rcases condK_inv h5 with ⟨e, h30⟩ | ⟨e, h30⟩
  ·
   clear h1 h2 h3 h4 h5
   subst e
   refine sk ?_
   refine sk ?_
   refine sk ?_
   refine pu ?_
   exact la2 hS h30 ⟨rfl, rfl, rfl, trivial⟩
  ·
   clear h1 h2 h3 h4 h5
   subst e
   refine mv ?_
   refine vy (V.lenS h30 rfl Paf.ls23) fun x13_22 h31 => ?_
   refine vy (V.ne h31 rfl rfl) fun x14_23 h32 => ?_
   refine pu ?_
   exact la2 hS h32 ⟨rfl, rfl, rfl, trivial⟩
 ·
  intro y1 y15 T2 n2 ρ its hS h6
  unfold g6_k1 at h6
  clear h1 h2 h3 h4 h5
  refine dn ?_
  refine CV.cond h6 rfl (fun e h7 => ?_) (fun e h7 => ?_)
  ·
   clear h6
   subst e
   refine sr ?_
   refine as_ ?_
   refine dn ?_
   refine CV.ret ?_
   refine PV.thenR ?_
   cases h7
   exact PV.ret (by simp) Tryd.results6 hS (RS.tmp rfl RS.nil) rfl
  ·
   clear h6
   subst e
   refine CV.skip ?_
   refine PV.thenN ?_
   refine sr ?_
   refine LV.bslice hS h7 rfl rfl Paf.el29 rfl rfl rfl rfl fun x16_5 T3 n3 h8 ρ its hS hdr => ?_
   refine as_ ?_
   refine dn ?_
   refine CV.seq ?_
   refine sr ?_
   refine as_ ?_
   refine dn ?_
   refine CV.block ?_
   refine cl4 X 0 1 3 4 [] hS h8 ⟨rfl, rfl, rfl, rfl, trivial⟩ ?_
   intro f2 y0 y1 y3 y4 T4 n4 ρ its hS h9
   unfold g6_b2 at h9
   clear h7 h8
   refine CV.seq ?_
   refine sr ?_
   refine mv ?_
   refine vy (V.lt h9 rfl rfl) fun x18_6 h10 => ?_
   refine dn ?_
   refine CV.cond h10 rfl (fun e h11 => ?_) (fun e h11 => ?_)
   ·
    clear h9 h10
    subst e
    refine CV.skip ?_
    refine PV.thenN ?_
    refine CV.seq ?_
    refine CV.block ?_
    refine CV.seq ?_
    refine CV.regionM [(0, .anywhere), (1, .anywhere), (2, .anywhere), (3, .anywhere), (4, .held), (5, .anywhere), (6, .anywhere), (7, .anywhere), (8, .held), (9, .held)] rfl (fun c a a' w hd hq => PanicOk.root (P := Tryd.prog) (fn := Tryd.f6) (w0 := w0) (base := base) (E := envE) (ro := ro) (r := r) (T' := T') (n' := n') (ρ0 := ρ0) c a a' w hd hq) (by kernel_rfl) ?_
    refine MV.step0 (i := 0) rfl (VAL.move rfl) rfl rfl rfl ?_
    refine MV.step0 (i := 1) rfl (VAL.move rfl) rfl rfl rfl ?_
    refine MV.lift0 (i := 2) rfl (V.ia h11 rfl rfl Paf.el23) rfl rfl rfl fun x23_7 h12 => ?_
    refine MV.lift0 (i := 3) rfl (V.fa h12 rfl Paf.fo31_0) rfl rfl rfl fun x24_8 h13 => ?_
    refine MV.lift1 (i := 4) rfl (fun _ z => z) (V.ld hS h13 rfl Paf.one3) rfl rfl rfl [] (by kernel_rfl) fun x25_9 h14 => ?_
    refine MV.step0 (i := 5) rfl (VAL.move rfl) rfl rfl rfl ?_
    refine MV.step0 (i := 6) rfl (VAL.move rfl) rfl rfl rfl ?_
    refine MV.lift0 (i := 7) rfl (V.ia h14 rfl rfl Paf.el29) rfl rfl rfl fun x28_10 h15 => ?_
    refine MV.lift1 (i := 8) rfl (fun _ z => z) (V.ld hS h15 rfl Paf.one3) rfl rfl rfl [4] (by kernel_rfl) fun x29_11 h16 => ?_
    refine MV.lift1 (i := 9) rfl (fun _ z => z) (V.ne h16 rfl rfl) rfl rfl rfl [] (by kernel_rfl) fun x30_12 h17 => ?_
    refine mdn ?_
    refine CV.cond h17 rfl (fun e h18 => ?_) (fun e h18 => ?_)
    ·
     clear h11 h12 h13 h14 h15 h16 h17
     subst e
     refine sr ?_
     refine as_ ?_
     refine dn ?_
     refine CV.ret ?_
     refine PV.blockR ?_
     refine PV.thenR ?_
     refine PV.thenR ?_
     refine PV.blockR ?_
     refine PV.thenR ?_
     cases h18
     exact PV.ret (by simp) Tryd.results6 hS (RS.tmp rfl RS.nil) rfl
    ·
     clear h11 h12 h13 h14 h15 h16 h17
     subst e
     refine CV.skip ?_
     refine PV.blockN ?_
     refine PV.thenN ?_
     refine CV.region ?_
     refine mv ?_
     refine vy (V.add h18 rfl rfl) fun x20_13 h19 => ?_
     refine as_ ?_
     refine LV.done ?_
     exact pb4 hS h19 ⟨rfl, rfl, rfl, rfl, trivial⟩
   ·
    clear h9 h10
    subst e
    refine CV.exit ?_
    refine PV.thenE ?_
    refine PV.thenE ?_
    refine PV.blockE ?_
    refine PV.thenN ?_
    refine sr ?_
    refine mv ?_
    refine vy (V.ia h11 rfl rfl Paf.el23) fun x32_14 h20 => ?_
    refine vy (V.fa h20 rfl Paf.fo31_2) fun x33_15 h21 => ?_
    refine vy (V.ld hS h21 rfl Paf.one3) fun x34_16 h22 => ?_
    refine vy (V.eq h22 rfl rfl) fun x35_17 h23 => ?_
    refine mv ?_
    refine ls2 X 0 42 [] (g6_k3 ro) 6 ?_ ?_
    ·
     rcases condK_inv h23 with ⟨e, h25⟩ | ⟨e, h25⟩
     ·
      clear h11 h20 h21 h22 h23
      subst e
      refine mv ?_
      refine vy (V.ia h25 rfl rfl Paf.el23) fun x38_18 h26 => ?_
      refine vy (V.fa h26 rfl Paf.fo31_2) fun x39_19 h27 => ?_
      refine vy (V.ld hS h27 rfl Paf.one3) fun x40_20 h28 => ?_
      refine vy (V.eq h28 rfl rfl) fun x41_21 h29 => ?_
      refine pu ?_
      exact la2 hS h29 ⟨rfl, rfl, trivial⟩
     ·
      clear h11 h20 h21 h22 h23
      subst e
      refine sk ?_
      refine sk ?_
      refine sk ?_
      refine sk ?_
      refine sk ?_
      refine pu ?_
      exact la2 hS h25 ⟨rfl, rfl, trivial⟩
    ·
     intro y0 y42 T5 n5 ρ its hS h24
     unfold g6_k3 at h24
     clear h11 h20 h21 h22 h23
     refine as_ ?_
     refine dn ?_
     refine CV.ret ?_
     cases h24
     exact PV.ret (by simp) Tryd.results6 hS (RS.tmp rfl RS.nil) rfl
noncomputable def g16_k4 (ro : List HT) (y37 : AV) (T6 : HT) (n6 : Nat) : R :=
 .ok (.val y37) T6 n6
noncomputable def g16_k3 (ro : List HT) (y2 y3 y30 : AV) (T5 : HT) (n5 : Nat) : R :=
 condK 160014 y30
 (
  faK 160015 y2 4 fun x32_8 =>
  ldK 160016 T5 ro x32_8 fun x33_9 =>
  faK 160017 y3 4 fun x34_10 =>
  ldK 160018 T5 ro x34_10 fun x35_11 =>
  eqSK Tryd.prog 9 (.tmp 33) (.tmp 35) 160019 x33_9 x35_11 fun x36_12 =>
  g16_k4 ro x36_12 T5 n5
 )
 (
  g16_k4 ro (.lit (.bool false)) T5 n5
 )
noncomputable def g16_k2 (ro : List HT) (y2 y3 y23 : AV) (T4 : HT) (n4 : Nat) : R :=
 condK 160022 y23
 (
  faK 160023 y2 3 fun x25_13 =>
  ldK 160024 T4 ro x25_13 fun x26_14 =>
  faK 160025 y3 3 fun x27_15 =>
  ldK 160026 T4 ro x27_15 fun x28_16 =>
  bin0 Tryd.prog .eql 4 (.tmp 26) (.tmp 28) 160027 x26_14 x28_16 fun x29_17 =>
  g16_k3 ro y2 y3 x29_17 T4 n4
 )
 (
  g16_k3 ro y2 y3 (.lit (.bool false)) T4 n4
 )
noncomputable def g16_k1 (ro : List HT) (y2 y3 y16 : AV) (T3 : HT) (n3 : Nat) : R :=
 condK 160030 y16
 (
  faK 160031 y2 2 fun x18_18 =>
  ldK 160032 T3 ro x18_18 fun x19_19 =>
  faK 160033 y3 2 fun x20_20 =>
  ldK 160034 T3 ro x20_20 fun x21_21 =>
  eqK Tryd.prog 3 (.tmp 19) (.tmp 21) 160035 x19_19 x21_21 fun x22_22 =>
  g16_k2 ro y2 y3 x22_22 T3 n3
 )
 (
  g16_k2 ro y2 y3 (.lit (.bool false)) T3 n3
 )
noncomputable def g16 (ro : List HT) (a0 a1 : AV) (T : HT) (nx : Nat) : R :=
 boxK 160001 T nx a0 36 fun x2_1 T1 n1 =>
 boxK 160002 T1 n1 a1 36 fun x3_2 T2 n2 =>
 faK 160004 x2_1 0 fun x5_3 =>
 ldK 160005 T2 ro x5_3 fun x6_4 =>
 faK 160006 x3_2 0 fun x7_5 =>
 ldK 160007 T2 ro x7_5 fun x8_6 =>
 eqK Tryd.prog 3 (.tmp 6) (.tmp 8) 160008 x6_4 x8_6 fun x9_7 =>
 condK 160038 x9_7
 (
  faK 160039 x2_1 1 fun x11_23 =>
  ldK 160040 T2 ro x11_23 fun x12_24 =>
  faK 160041 x3_2 1 fun x13_25 =>
  ldK 160042 T2 ro x13_25 fun x14_26 =>
  bin0 Tryd.prog .eql 4 (.tmp 12) (.tmp 14) 160043 x12_24 x14_26 fun x15_27 =>
  g16_k1 ro x2_1 x3_2 x15_27 T2 n2
 )
 (
  g16_k1 ro x2_1 x3_2 (.lit (.bool false)) T2 n2
 )
theorem g16_ok (ro : List HT) (a0 a1 : AV) (T : HT) (nx : Nat) : GOk Tryd.prog envE 16 [a0, a1] ro T nx (g16 ro a0 a1 T nx) := by
 refine GOk.of_body Tryd.func16 rfl Tryd.ntmps16 (by kernel_rfl) rfl fun r T' n' h1 w0 base ρ0 its hS hP => ?_
 have X : CtxW envE ρ0 ro r T' n' := trivial
 unfold g16 at h1
 refine sr ?_
 refine LV.box hS h1 rfl rfl rfl rfl rfl fun x2_1 T1 n1 h2 ρ its hS hdr => ?_
 refine LV.box hS h2 rfl rfl rfl rfl rfl fun x3_2 T2 n2 h3 ρ its hS hdr => ?_
 refine as_ ?_
 refine dn ?_
 refine sr ?_
 refine vy (V.fa h3 rfl Paf.fo36_0) fun x5_3 h4 => ?_
 refine vy (V.ld hS h4 rfl Paf.one3) fun x6_4 h5 => ?_
 refine vy (V.fa h5 rfl Paf.fo36_0) fun x7_5 h6 => ?_
 refine vy (V.ld hS h6 rfl Paf.one3) fun x8_6 h7 => ?_
 refine vy (V.eq h7 rfl rfl) fun x9_7 h8 => ?_
 refine mv ?_
 refine ls3 X 2 3 16 [(4, (.lit (.bool false)))] (g16_k1 ro) 6 ?_ ?_
 ·
  rcases condK_inv h8 with ⟨e, h31⟩ | ⟨e, h31⟩
  ·
   clear h1 h2 h3 h4 h5 h6 h7 h8
   subst e
   refine vy (V.fa h31 rfl Paf.fo36_1) fun x11_23 h32 => ?_
   refine vy (V.ld hS h32 rfl Paf.one4) fun x12_24 h33 => ?_
   refine vy (V.fa h33 rfl Paf.fo36_1) fun x13_25 h34 => ?_
   refine vy (V.ld hS h34 rfl Paf.one4) fun x14_26 h35 => ?_
   refine vy (V.bin0 h35 rfl rfl) fun x15_27 h36 => ?_
   refine pu ?_
   exact la3 hS h36 ⟨rfl, rfl, rfl, rfl, trivial⟩
  ·
   clear h1 h2 h3 h4 h5 h6 h7 h8
   subst e
   refine sk ?_
   refine sk ?_
   refine sk ?_
   refine sk ?_
   refine sk ?_
   refine pu ?_
   exact la3 hS h31 ⟨rfl, rfl, rfl, rfl, trivial⟩
 ·
  intro y2 y3 y16 T3 n3 ρ its hS h9
  unfold g16_k1 at h9
  clear h1 h2 h3 h4 h5 h6 h7 h8
  refine mv ?_
  refine ls3 X 2 3 23 [(4, (.lit (.bool false)))] (g16_k2 ro) 6 ?_ ?_
  ·
   rcases condK_inv h9 with ⟨e, h25⟩ | ⟨e, h25⟩
   ·
    clear h9
    subst e
    refine vy (V.fa h25 rfl Paf.fo36_2) fun x18_18 h26 => ?_
    refine vy (V.ld hS h26 rfl Paf.one3) fun x19_19 h27 => ?_
    refine vy (V.fa h27 rfl Paf.fo36_2) fun x20_20 h28 => ?_
    refine vy (V.ld hS h28 rfl Paf.one3) fun x21_21 h29 => ?_
    refine vy (V.eq h29 rfl rfl) fun x22_22 h30 => ?_
    refine pu ?_
    exact la3 hS h30 ⟨rfl, rfl, rfl, rfl, trivial⟩
   ·
    clear h9
    subst e
    refine sk ?_
    refine sk ?_
    refine sk ?_
    refine sk ?_
    refine sk ?_
    refine pu ?_
    exact la3 hS h25 ⟨rfl, rfl, rfl, rfl, trivial⟩
  ·
   intro y2 y3 y23 T4 n4 ρ its hS h10
   unfold g16_k2 at h10
   clear h9
   refine mv ?_
   refine ls3 X 2 3 30 [(4, (.lit (.bool false)))] (g16_k3 ro) 6 ?_ ?_
   ·
    rcases condK_inv h10 with ⟨e, h19⟩ | ⟨e, h19⟩
    ·
     clear h10
     subst e
     refine vy (V.fa h19 rfl Paf.fo36_3) fun x25_13 h20 => ?_
     refine vy (V.ld hS h20 rfl Paf.one4) fun x26_14 h21 => ?_
     refine vy (V.fa h21 rfl Paf.fo36_3) fun x27_15 h22 => ?_
     refine vy (V.ld hS h22 rfl Paf.one4) fun x28_16 h23 => ?_
     refine vy (V.bin0 h23 rfl rfl) fun x29_17 h24 => ?_
     refine pu ?_
     exact la3 hS h24 ⟨rfl, rfl, rfl, rfl, trivial⟩
    ·
     clear h10
     subst e
     refine sk ?_
     refine sk ?_
     refine sk ?_
     refine sk ?_
     refine sk ?_
     refine pu ?_
     exact la3 hS h19 ⟨rfl, rfl, rfl, rfl, trivial⟩
   ·
    intro y2 y3 y30 T5 n5 ρ its hS h11
    unfold g16_k3 at h11
    clear h10
    refine mv ?_
    refine ls1 X 37 [(4, (.lit (.bool false)))] (g16_k4 ro) 6 ?_ ?_
    ·
     rcases condK_inv h11 with ⟨e, h13⟩ | ⟨e, h13⟩
     ·
      clear h11
      subst e
      refine vy (V.fa h13 rfl Paf.fo36_4) fun x32_8 h14 => ?_
      refine vy (V.ld hS h14 rfl Paf.one9) fun x33_9 h15 => ?_
      refine vy (V.fa h15 rfl Paf.fo36_4) fun x34_10 h16 => ?_
      refine vy (V.ld hS h16 rfl Paf.one9) fun x35_11 h17 => ?_
      refine vy (V.eqS h17 rfl rfl) fun x36_12 h18 => ?_
      refine pu ?_
      exact la1 hS h18 ⟨rfl, rfl, trivial⟩
     ·
      clear h11
      subst e
      refine sk ?_
      refine sk ?_
      refine sk ?_
      refine sk ?_
      refine sk ?_
      refine pu ?_
      exact la1 hS h13 ⟨rfl, rfl, trivial⟩
    ·
     intro y37 T6 n6 ρ its hS h12
     unfold g16_k4 at h12
     clear h11
     refine as_ ?_
     refine dn ?_
     refine CV.ret ?_
     cases h12
     exact PV.ret (by simp) Tryd.results16 hS (RS.tmp rfl RS.nil) rfl
noncomputable def g18 (ro : List HT) (T : HT) (nx : Nat) : R :=
 newK T nx (.obj [.lit (.int .i64 0), .lit (.bool false), .lit (.int .i64 0), .lit (.bool false), .lit (.string ⟨#[]⟩)] 36) fun x0_1 T1 n1 =>
 optK 180002 (bld36 []) fun x1_2 =>
 stAK 180003 T1 x0_1 x1_2 5 fun T2 =>
 ldAK 180004 T2 ro x0_1 5 fun x0_3 =>
 .ok (.val x0_3) T2 n1
theorem g18_ok (ro : List HT) (T : HT) (nx : Nat) : GOk Tryd.prog envE 18 [] ro T nx (g18 ro T nx) := by
 refine GOk.of_body Tryd.func18 rfl Tryd.ntmps18 (by kernel_rfl) rfl fun r T' n' h1 w0 base ρ0 its hS hP => ?_
 have X : CtxW envE ρ0 ro r T' n' := trivial
 unfold g18 at h1
 refine sr ?_
 refine LV.alloc hS h1 rfl Paf.zr36 rfl rfl rfl fun x0_1 T1 n1 h2 ρ its hS hdr => ?_
 refine dn ?_
 refine sr ?_
 refine vy (V.bld h2 rfl) fun x1_2 h3 => ?_
 refine LV.stA hS h3 rfl rfl rfl Paf.agg36 rfl rfl rfl fun T2 its h4 hS => ?_
 refine dn ?_
 refine CV.ret ?_
 refine PV.ldA (x := .tmp 0) (t := 36) hS h4 rfl Paf.agg36 fun x0_3 h5 hVx0_3 => ?_
 cases h5
 exact PV.ret (by simp) Tryd.results18 hS (RS.cell hVx0_3 RS.nil) rfl
noncomputable def g10 (ro : List HT) (a0 a1 : AV) (T : HT) (nx : Nat) : R :=
 newK T nx (.obj [.lit (.int .i64 0), .lit (.bool false), .lit (.int .i64 0), .lit (.bool false), .lit (.string ⟨#[]⟩)] 36) fun x4_1 T1 n1 =>
 eqK Tryd.prog 3 (.tmp 5) (.const (.int .i64 (.ofNat 0))) 100003 a0 (.lit (.int .i64 (.ofNat 0))) fun x6_2 =>
 condK 100004 x6_2
 (
  callK (g18 ro T1 n1) fun x7_3 T2 n2 =>
  stAK 100006 T2 x4_1 x7_3 5 fun T3 =>
  ldAK 100007 T3 ro x4_1 5 fun x4_4 =>
  .ok (.val x4_4) T3 n2
 )
 (
  optK 100010 (bld36 [(0, a0), (1, (.lit (.bool true))), (2, a1)]) fun x10_5 =>
  stAK 100011 T1 x4_1 x10_5 5 fun T4 =>
  ldAK 100012 T4 ro x4_1 5 fun x4_6 =>
  .ok (.val x4_6) T4 n1
 )
theorem g10_ok (ro : List HT) (a0 a1 : AV) (T : HT) (nx : Nat) : GOk Tryd.prog envE 10 [a0, a1] ro T nx (g10 ro a0 a1 T nx) := by
 refine GOk.of_body Tryd.func10 rfl Tryd.ntmps10 (by kernel_rfl) rfl fun r T' n' h1 w0 base ρ0 its hS hP => ?_
 have X : CtxW envE ρ0 ro r T' n' := trivial
 unfold g10 at h1
 refine sr ?_
 refine LV.alloc hS h1 rfl Paf.zr36 rfl rfl rfl fun x4_1 T1 n1 h2 ρ its hS hdr => ?_
 refine dn ?_
 refine CV.seq ?_
 refine sr ?_
 refine mv ?_
 refine vy (V.eq h2 rfl rfl) fun x6_2 h3 => ?_
 refine dn ?_
 refine CV.cond h3 rfl (fun e h4 => ?_) (fun e h4 => ?_)
 ·
  clear h1 h2 h3
  subst e
  refine sr ?_
  refine LV.call hS h4 (g18_ok _ _ _ ) hP rfl rfl rfl rfl fun x7_3 T2 n2 h5 ρ its hS => ?_
  refine LV.stA hS h5 rfl rfl rfl Paf.agg36 rfl rfl rfl fun T3 its h6 hS => ?_
  refine dn ?_
  refine CV.ret ?_
  refine PV.thenR ?_
  refine PV.ldA (x := .tmp 4) (t := 36) hS h6 rfl Paf.agg36 fun x4_4 h7 hVx4_4 => ?_
  cases h7
  exact PV.ret (by simp) Tryd.results10 hS (RS.cell hVx4_4 RS.nil) rfl
 ·
  clear h1 h2 h3
  subst e
  refine CV.skip ?_
  refine PV.thenN ?_
  refine sr ?_
  refine mv ?_
  refine mv ?_
  refine vy (V.bld h4 rfl) fun x10_5 h8 => ?_
  refine LV.stA hS h8 rfl rfl rfl Paf.agg36 rfl rfl rfl fun T4 its h9 hS => ?_
  refine dn ?_
  refine CV.ret ?_
  refine PV.ldA (x := .tmp 4) (t := 36) hS h9 rfl Paf.agg36 fun x4_6 h10 hVx4_6 => ?_
  cases h10
  exact PV.ret (by simp) Tryd.results10 hS (RS.cell hVx4_6 RS.nil) rfl
noncomputable def g28 (ro : List HT) (a0 : AV) (T : HT) (nx : Nat) : R :=
 newK T nx (.obj [.lit (.int .i64 0), .lit (.bool false), .lit (.int .i64 0), .lit (.bool false), .lit (.string ⟨#[]⟩)] 36) fun x2_1 T1 n1 =>
 optK 280003 (bld36 [(0, a0)]) fun x4_2 =>
 stAK 280004 T1 x2_1 x4_2 5 fun T2 =>
 ldAK 280005 T2 ro x2_1 5 fun x2_3 =>
 .ok (.val x2_3) T2 n1
theorem g28_ok (ro : List HT) (a0 : AV) (T : HT) (nx : Nat) : GOk Tryd.prog envE 28 [a0] ro T nx (g28 ro a0 T nx) := by
 refine GOk.of_body Tryd.func28 rfl Tryd.ntmps28 (by kernel_rfl) rfl fun r T' n' h1 w0 base ρ0 its hS hP => ?_
 have X : CtxW envE ρ0 ro r T' n' := trivial
 unfold g28 at h1
 refine sr ?_
 refine LV.alloc hS h1 rfl Paf.zr36 rfl rfl rfl fun x2_1 T1 n1 h2 ρ its hS hdr => ?_
 refine dn ?_
 refine sr ?_
 refine mv ?_
 refine vy (V.bld h2 rfl) fun x4_2 h3 => ?_
 refine LV.stA hS h3 rfl rfl rfl Paf.agg36 rfl rfl rfl fun T2 its h4 hS => ?_
 refine dn ?_
 refine CV.ret ?_
 refine PV.ldA (x := .tmp 2) (t := 36) hS h4 rfl Paf.agg36 fun x2_3 h5 hVx2_3 => ?_
 cases h5
 exact PV.ret (by simp) Tryd.results28 hS (RS.cell hVx2_3 RS.nil) rfl
noncomputable def g63 (ro : List HT) (T : HT) (nx : Nat) : R :=
 bsK 630019 T nx 17 25 1 [(0, (.iface 108 (.opq 0))), (1, (.iface 108 (.opq 1))), (2, (.iface 108 (.opq 2))), (3, (.iface 108 (.opq 3))), (4, (.iface 108 (.opq 4))), (5, (.iface 108 (.opq 5))), (6, (.iface 108 (.opq 6))), (7, (.iface 108 (.opq 7))), (8, (.iface 108 (.opq 8))), (9, (.iface 108 (.opq 9))), (10, (.iface 108 (.opq 10))), (11, (.iface 108 (.opq 11))), (12, (.iface 108 (.opq 12))), (13, (.iface 108 (.opq 13))), (14, (.iface 108 (.opq 14))), (15, (.iface 108 (.opq 15))), (16, (.iface 108 (.opq 16)))] fun x18_1 T1 n1 =>
 .ok (.val x18_1) T1 n1
theorem g63_ok (ro : List HT) (T : HT) (nx : Nat) : GOk Tryd.prog envE 63 [] ro T nx (g63 ro T nx) := by
 refine GOk.of_body Tryd.func63 rfl Tryd.ntmps63 (by kernel_rfl) rfl fun r T' n' h1 w0 base ρ0 its hS hP => ?_
 have X : CtxW envE ρ0 ro r T' n' := trivial
 unfold g63 at h1
 refine sr ?_
 refine as_ ?_
 refine dn ?_
 refine sr ?_
 refine sv (VAL.ldG hS (by rfl) Paf.one25) ?_
 refine sv (VAL.ldG hS (by rfl) Paf.one25) ?_
 refine sv (VAL.ldG hS (by rfl) Paf.one25) ?_
 refine sv (VAL.ldG hS (by rfl) Paf.one25) ?_
 refine sv (VAL.ldG hS (by rfl) Paf.one25) ?_
 refine sv (VAL.ldG hS (by rfl) Paf.one25) ?_
 refine sv (VAL.ldG hS (by rfl) Paf.one25) ?_
 refine sv (VAL.ldG hS (by rfl) Paf.one25) ?_
 refine sv (VAL.ldG hS (by rfl) Paf.one25) ?_
 refine sv (VAL.ldG hS (by rfl) Paf.one25) ?_
 refine sv (VAL.ldG hS (by rfl) Paf.one25) ?_
 refine sv (VAL.ldG hS (by rfl) Paf.one25) ?_
 refine sv (VAL.ldG hS (by rfl) Paf.one25) ?_
 refine sv (VAL.ldG hS (by rfl) Paf.one25) ?_
 refine sv (VAL.ldG hS (by rfl) Paf.one25) ?_
 refine sv (VAL.ldG hS (by rfl) Paf.one25) ?_
 refine sv (VAL.ldG hS (by rfl) Paf.one25) ?_
 refine LV.bslice hS h1 rfl rfl Paf.el88 rfl rfl rfl rfl fun x18_1 T1 n1 h2 ρ its hS hdr => ?_
 refine as_ ?_
 refine dn ?_
 refine CV.ret ?_
 cases h2
 exact PV.ret (by simp) Tryd.results63 hS (RS.tmp rfl RS.nil) rfl
noncomputable def g64_k2 (ro : List HT) (y0 y1 y16 : AV) (T2 : HT) (n2 : Nat) : R :=
 .ok (.val y16) T2 n2
noncomputable def g64_k1 (ro : List HT) (y0 y1 y10 : AV) (T1 : HT) (n1 : Nat) : R :=
 condK 640005 y10
 (
  bin0 Tryd.prog .eql 25 (.tmp 11) (.const (.nilIface)) 640007 y0 (.lit (.nilIface)) fun x12_2 =>
  condK 640010 x12_2
  (
   bin0 Tryd.prog .eql 25 (.tmp 14) (.const (.nilIface)) 640012 y1 (.lit (.nilIface)) fun x15_3 =>
   g64_k2 ro y0 y1 x15_3 T1 n1
  )
  (
   g64_k2 ro y0 y1 (.lit (.bool false)) T1 n1
  )
 )
 (
  eeK Tryd.prog 108 25 (.tmp 17) (.tmp 18) 640017 y0 y1 fun x19_4 =>
  .ok (.val x19_4) T1 n1
 )
noncomputable def g64 (ro : List HT) (a0 a1 : AV) (T : HT) (nx : Nat) : R :=
 bin0 Tryd.prog .eql 25 (.tmp 5) (.const (.nilIface)) 640003 a0 (.lit (.nilIface)) fun x6_1 =>
 condK 640019 x6_1
 (
  g64_k1 ro a0 a1 (.lit (.bool true)) T nx
 )
 (
  bin0 Tryd.prog .eql 25 (.tmp 8) (.const (.nilIface)) 640022 a1 (.lit (.nilIface)) fun x9_5 =>
  g64_k1 ro a0 a1 x9_5 T nx
 )
theorem g64_ok (ro : List HT) (a0 a1 : AV) (T : HT) (nx : Nat) : GOk Tryd.prog envE 64 [a0, a1] ro T nx (g64 ro a0 a1 T nx) := by
 refine GOk.of_body Tryd.func64 rfl Tryd.ntmps64 (by kernel_rfl) rfl fun r T' n' h1 w0 base ρ0 its hS hP => ?_
 have X : CtxW envE ρ0 ro r T' n' := trivial
 unfold g64 at h1
 refine sr ?_
 refine as_ ?_
 refine dn ?_
 refine CV.seq ?_
 refine sr ?_
 refine mv ?_
 refine vy (V.bin0 h1 rfl rfl) fun x6_1 h2 => ?_
 refine mv ?_
 refine ls3 X 0 1 10 [(4, (.lit (.bool false)))] (g64_k1 ro) 3 ?_ ?_
 ·
  rcases condK_inv h2 with ⟨e, h10⟩ | ⟨e, h10⟩
  ·
   clear h1 h2
   subst e
   refine sk ?_
   refine sk ?_
   refine pu ?_
   exact la3 hS h10 ⟨rfl, rfl, rfl, rfl, trivial⟩
  ·
   clear h1 h2
   subst e
   refine mv ?_
   refine vy (V.bin0 h10 rfl rfl) fun x9_5 h11 => ?_
   refine pu ?_
   exact la3 hS h11 ⟨rfl, rfl, rfl, rfl, trivial⟩
 ·
  intro y0 y1 y10 T1 n1 ρ its hS h3
  unfold g64_k1 at h3
  clear h1 h2
  refine dn ?_
  refine CV.cond h3 rfl (fun e h4 => ?_) (fun e h4 => ?_)
  ·
   clear h3
   subst e
   refine sr ?_
   refine mv ?_
   refine vy (V.bin0 h4 rfl rfl) fun x12_2 h5 => ?_
   refine mv ?_
   refine ls3 X 0 1 16 [(4, (.lit (.bool false)))] (g64_k2 ro) 3 ?_ ?_
   ·
    rcases condK_inv h5 with ⟨e, h7⟩ | ⟨e, h7⟩
    ·
     clear h4 h5
     subst e
     refine mv ?_
     refine vy (V.bin0 h7 rfl rfl) fun x15_3 h8 => ?_
     refine pu ?_
     exact la3 hS h8 ⟨rfl, rfl, rfl, rfl, trivial⟩
    ·
     clear h4 h5
     subst e
     refine sk ?_
     refine sk ?_
     refine pu ?_
     exact la3 hS h7 ⟨rfl, rfl, rfl, rfl, trivial⟩
   ·
    intro y0 y1 y16 T2 n2 ρ its hS h6
    unfold g64_k2 at h6
    clear h4 h5
    refine as_ ?_
    refine dn ?_
    refine CV.ret ?_
    refine PV.thenR ?_
    cases h6
    exact PV.ret (by simp) Tryd.results64 hS (RS.tmp rfl RS.nil) rfl
  ·
   clear h3
   subst e
   refine CV.skip ?_
   refine PV.thenN ?_
   refine sr ?_
   refine mv ?_
   refine mv ?_
   refine vy (V.ee hS h4 rfl rfl Paf.ii25 Paf.cp108) fun x19_4 h9 => ?_
   refine as_ ?_
   refine dn ?_
   refine CV.ret ?_
   cases h9
   exact PV.ret (by simp) Tryd.results64 hS (RS.tmp rfl RS.nil) rfl
noncomputable def g40_b1 (ro : List HT) (lp1 : AV → AV → AV → AV → HT → Nat → R) (y0 y2 y3 y4 : AV) (T2 : HT) (n2 : Nat) : R :=
 lenSK 400008 y3 fun x8_2 =>
 ltK Tryd.prog 3 (.tmp 6) (.tmp 8) 400009 y4 x8_2 fun x9_3 =>
 condK 400010 x9_3
 (
  iaK 400014 y3 y4 1 fun x15_4 =>
  ldK 400015 T2 ro x15_4 fun x16_5 =>
  callK (g64 ro y0 x16_5 T2 n2) fun x17_6 T3 n3 =>
  condK 400017 x17_6
  (
   addK Tryd.prog 3 (.const (.int .i64 (.ofNat 101))) (.tmp 18) 400019 (.lit (.int .i64 (.ofNat 101))) y4 fun x19_7 =>
   .ok (.val x19_7) T3 n3
  )
  (
   addK Tryd.prog 3 (.tmp 10) (.const (.int .i64 (.ofNat 1))) 400022 y4 (.lit (.int .i64 (.ofNat 1))) fun x11_8 =>
   lp1 y0 y2 y3 x11_8 T3 n3
  )
 )
 (
  .ok (.val (.lit (.int .i64 (.negSucc 0)))) T2 n2
 )
noncomputable def g40 (ro : List HT) (a0 : AV) (T : HT) (nx : Nat) : R :=
 callK (g63 ro T nx) fun x5_1 T1 n1 =>
 lpf4 400005 (g40_b1 ro) 100000 a0 (.lit (.int .i64 (.ofNat 0))) x5_1 (.lit (.int .i64 (.ofNat 0))) T1 n1
theorem g40_ok (ro : List HT) (a0 : AV) (T : HT) (nx : Nat) : GOk Tryd.prog envE 40 [a0] ro T nx (g40 ro a0 T nx) := by
 refine GOk.of_body Tryd.func40 rfl Tryd.ntmps40 (by kernel_rfl) rfl fun r T' n' h1 w0 base ρ0 its hS hP => ?_
 have X : CtxW envE ρ0 ro r T' n' := trivial
 unfold g40 at h1
 refine sr ?_
 refine as_ ?_
 refine dn ?_
 refine sr ?_
 refine LV.call hS h1 (g63_ok _ _ _ ) hP rfl rfl rfl rfl fun x5_1 T1 n1 h2 ρ its hS => ?_
 refine as_ ?_
 refine dn ?_
 refine CV.seq ?_
 refine sr ?_
 refine as_ ?_
 refine dn ?_
 refine CV.block ?_
 refine cl4 X 0 2 3 4 [] hS h2 ⟨rfl, rfl, rfl, rfl, trivial⟩ ?_
 intro f1 y0 y2 y3 y4 T2 n2 ρ its hS h3
 unfold g40_b1 at h3
 clear h1 h2
 refine CV.seq ?_
 refine sr ?_
 refine mv ?_
 refine mv ?_
 refine vy (V.lenS h3 rfl Paf.ls88) fun x8_2 h4 => ?_
 refine vy (V.lt h4 rfl rfl) fun x9_3 h5 => ?_
 refine dn ?_
 refine CV.cond h5 rfl (fun e h6 => ?_) (fun e h6 => ?_)
 ·
  clear h3 h4 h5
  subst e
  refine CV.skip ?_
  refine PV.thenN ?_
  refine CV.seq ?_
  refine CV.block ?_
  refine sr ?_
  refine mv ?_
  refine mv ?_
  refine mv ?_
  refine vy (V.ia h6 rfl rfl Paf.el88) fun x15_4 h7 => ?_
  refine vy (V.ld hS h7 rfl Paf.one25) fun x16_5 h8 => ?_
  refine LV.call hS h8 (g64_ok _ _ _ _ _ ) hP rfl rfl rfl rfl fun x17_6 T3 n3 h9 ρ its hS => ?_
  refine dn ?_
  refine CV.cond h9 rfl (fun e h10 => ?_) (fun e h10 => ?_)
  ·
   clear h6 h7 h8 h9
   subst e
   refine sr ?_
   refine mv ?_
   refine vy (V.add h10 rfl rfl) fun x19_7 h11 => ?_
   refine as_ ?_
   refine dn ?_
   refine CV.ret ?_
   refine PV.blockR ?_
   refine PV.thenR ?_
   refine PV.thenR ?_
   refine PV.blockR ?_
   refine PV.thenR ?_
   cases h11
   exact PV.ret (by simp) Tryd.results40 hS (RS.tmp rfl RS.nil) rfl
  ·
   clear h6 h7 h8 h9
   subst e
   refine CV.skip ?_
   refine PV.blockN ?_
   refine PV.thenN ?_
   refine CV.region ?_
   refine mv ?_
   refine vy (V.add h10 rfl rfl) fun x11_8 h12 => ?_
   refine as_ ?_
   refine LV.done ?_
   exact pb4 hS h12 ⟨rfl, rfl, rfl, rfl, trivial⟩
 ·
  clear h3 h4 h5
  subst e
  refine CV.exit ?_
  refine PV.thenE ?_
  refine PV.thenE ?_
  refine PV.blockE ?_
  refine PV.thenN ?_
  refine sr ?_
  refine as_ ?_
  refine dn ?_
  refine CV.ret ?_
  cases h6
  exact PV.ret (by simp) Tryd.results40 hS (RS.tmp rfl RS.nil) rfl

end Go.Proofs.YtdepmlcnllofiaaDoor.Pa
