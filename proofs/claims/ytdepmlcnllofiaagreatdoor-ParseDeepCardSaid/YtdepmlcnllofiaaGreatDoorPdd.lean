/-
  Proved here: plain functions that do what the program's functions do, each with its proof.
-/
import Derived.Test.YtdepmlcnllofiaaGreatDoorPdc
namespace Go.Proofs.YtdepmlcnllofiaaGreatDoor.Pd
open Go.EY Go.EX Go.SX Go.RowKit
noncomputable def g118_k2 (ro : List HT) (y0 y1 y2 y26 : AV) (T2 : HT) (n2 : Nat) : R :=
 .ok (.val y26) T2 n2
noncomputable def g118_k1 (ro : List HT) (y0 y1 y2 y20 : AV) (T1 : HT) (n1 : Nat) : R :=
 condK 1180012 y20
 (
  cutLoFK 1180015 T1 ro y2 (.lit (.int .i64 (.ofNat 1))) 1 fun x24_4 =>
  callK (g107 ro y0 x24_4 (.lit (.int .i64 (.ofNat 1))) (.lit (.int .i64 (.ofNat 1))) T1 n1) fun x25_5 T3 n3 =>
  g118_k2 ro y0 y1 y2 x25_5 T3 n3
 )
 (
  g118_k2 ro y0 y1 y2 (.lit (.bool false)) T1 n1
 )
noncomputable def g118_k6 (ro : List HT) (y122 : AV) (T8 : HT) (n8 : Nat) : R :=
 .ok (.val y122) T8 n8
noncomputable def g118_k5 (ro : List HT) (y0 y2 y116 : AV) (T7 : HT) (n7 : Nat) : R :=
 condK 1180048 y116
 (
  callK (g107 ro y0 y2 (.lit (.int .i64 (.ofNat 2))) (.lit (.int .i64 (.ofNat 2))) T7 n7) fun x121_13 T9 n9 =>
  g118_k6 ro x121_13 T9 n9
 )
 (
  g118_k6 ro (.lit (.bool false)) T7 n7
 )
noncomputable def g118_k7 (ro : List HT) (y0 y2 y115 : AV) (T10 : HT) (n10 : Nat) : R :=
 g118_k5 ro y0 y2 y115 T10 n10
noncomputable def g118_k4 (ro : List HT) (y0 y1 y2 y108 : AV) (T6 : HT) (n6 : Nat) : R :=
 condK 1180054 y108
 (
  g118_k5 ro y0 y2 (.lit (.bool true)) T6 n6
 )
 (
  geK Tryz.prog 3 (.tmp 110) (.const (.int .i64 (.ofNat 21))) 1180057 y1 (.lit (.int .i64 (.ofNat 21))) fun x111_14 =>
  condK 1180060 x111_14
  (
   leK Tryz.prog 3 (.tmp 113) (.const (.int .i64 (.ofNat 33))) 1180062 y1 (.lit (.int .i64 (.ofNat 33))) fun x114_15 =>
   g118_k7 ro y0 y2 x114_15 T6 n6
  )
  (
   g118_k7 ro y0 y2 (.lit (.bool false)) T6 n6
  )
 )
noncomputable def g118_k3 (ro : List HT) (y0 y1 y2 y104 : AV) (T5 : HT) (n5 : Nat) : R :=
 condK 1180065 y104
 (
  g118_k4 ro y0 y1 y2 (.lit (.bool true)) T5 n5
 )
 (
  eqK Tryz.prog 3 (.tmp 106) (.const (.int .i64 (.ofNat 19))) 1180068 y1 (.lit (.int .i64 (.ofNat 19))) fun x107_16 =>
  g118_k4 ro y0 y1 y2 x107_16 T5 n5
 )
noncomputable def g118 (ro : List HT) (a0 a1 a2 : AV) (T : HT) (nx : Nat) : R :=
 eqK Tryz.prog 3 (.tmp 8) (.const (.int .i64 (.ofNat 36))) 1180003 a1 (.lit (.int .i64 (.ofNat 36))) fun x10_1 =>
 condK 1180005 x10_1
 (
  lenSK 1180007 a2 fun x12_2 =>
  eqK Tryz.prog 3 (.tmp 12) (.const (.int .i64 (.ofNat 2))) 1180008 x12_2 (.lit (.int .i64 (.ofNat 2))) fun x13_3 =>
  condK 1180019 x13_3
  (
   iaK 1180022 a2 (.lit (.int .i64 (.ofNat 0))) 1 fun x17_6 =>
   ldK 1180023 T ro x17_6 fun x18_7 =>
   callK (scc3 4000 112 ro [a0, x18_7] T nx) fun x19_8 T4 n4 =>
   g118_k1 ro a0 a1 a2 x19_8 T4 n4
  )
  (
   g118_k1 ro a0 a1 a2 (.lit (.bool false)) T nx
  )
 )
 (
  eqK Tryz.prog 3 (.tmp 8) (.const (.int .i64 (.ofNat 37))) 1180027 a1 (.lit (.int .i64 (.ofNat 37))) fun x28_9 =>
  condK 1180029 x28_9
  (
   .bad 1180030
  )
  (
   eqK Tryz.prog 3 (.tmp 8) (.const (.int .i64 (.ofNat 43))) 1180031 a1 (.lit (.int .i64 (.ofNat 43))) fun x53_10 =>
   condK 1180033 x53_10
   (
    .bad 1180034
   )
   (
    eqK Tryz.prog 3 (.tmp 8) (.const (.int .i64 (.ofNat 44))) 1180035 a1 (.lit (.int .i64 (.ofNat 44))) fun x75_11 =>
    condK 1180037 x75_11
    (
     .bad 1180038
    )
    (
     eqK Tryz.prog 3 (.tmp 99) (.const (.int .i64 (.ofNat 13))) 1180040 a1 (.lit (.int .i64 (.ofNat 13))) fun x100_12 =>
     condK 1180070 x100_12
     (
      g118_k3 ro a0 a1 a2 (.lit (.bool true)) T nx
     )
     (
      eqK Tryz.prog 3 (.tmp 102) (.const (.int .i64 (.ofNat 18))) 1180073 a1 (.lit (.int .i64 (.ofNat 18))) fun x103_17 =>
      g118_k3 ro a0 a1 a2 x103_17 T nx
     )
    )
   )
  )
 )
theorem g118_ok (ro : List HT) (a0 a1 a2 : AV) (T : HT) (nx : Nat) : GOk Tryz.prog envE 118 [a0, a1, a2] ro T nx (g118 ro a0 a1 a2 T nx) := by
 refine GOk.of_body Tryz.func118 rfl Tryz.ntmps118 (by kernel_rfl) rfl fun r T' n' h1 w0 base ρ0 its hS hP => ?_
 have X : CtxW envE ρ0 ro r T' n' := trivial
 unfold g118 at h1
 refine sr ?_
 refine as_ ?_
 refine dn ?_
 refine CV.seq ?_
 refine sr ?_
 refine mv ?_
 refine dn ?_
 refine CV.block ?_
 refine sr ?_
 refine vy (V.eq h1 rfl rfl) fun x10_1 h2 => ?_
 refine as_ ?_
 refine dn ?_
 refine CV.cond h2 rfl (fun e h3 => ?_) (fun e h3 => ?_)
 ·
  clear h1 h2
  subst e
  refine sr ?_
  refine mv ?_
  refine vy (V.lenS h3 rfl Pdf.ls30) fun x12_2 h4 => ?_
  refine vy (V.eq h4 rfl rfl) fun x13_3 h5 => ?_
  refine mv ?_
  refine ls4 X 0 1 2 20 [(6, (.lit (.bool false)))] (g118_k1 ro) 6 ?_ ?_
  ·
   rcases condK_inv h5 with ⟨e, h11⟩ | ⟨e, h11⟩
   ·
    clear h3 h4 h5
    subst e
    refine mv ?_
    refine mv ?_
    refine vy (V.ia h11 rfl rfl Pdf.el30) fun x17_6 h12 => ?_
    refine vy (V.ld hS h12 rfl Pdf.one3) fun x18_7 h13 => ?_
    refine LV.call hS h13 (scc3_ok _ _ _ _ _ _) hP rfl rfl rfl rfl fun x19_8 T4 n4 h14 ρ its hS => ?_
    refine pu ?_
    exact la4 hS h14 ⟨rfl, rfl, rfl, rfl, rfl, trivial⟩
   ·
    clear h3 h4 h5
    subst e
    refine sk ?_
    refine sk ?_
    refine sk ?_
    refine sk ?_
    refine sk ?_
    refine pu ?_
    exact la4 hS h11 ⟨rfl, rfl, rfl, rfl, rfl, trivial⟩
  ·
   intro y0 y1 y2 y20 T1 n1 ρ its hS h6
   unfold g118_k1 at h6
   clear h3 h4 h5
   refine mv ?_
   refine ls4 X 0 1 2 26 [(6, (.lit (.bool false)))] (g118_k2 ro) 5 ?_ ?_
   ·
    rcases condK_inv h6 with ⟨e, h8⟩ | ⟨e, h8⟩
    ·
     clear h6
     subst e
     refine mv ?_
     refine mv ?_
     refine LV.cutLoF hS h8 rfl rfl rfl Pdf.el30 rfl rfl rfl fun x24_4 h9 => ?_
     refine LV.call hS h9 (g107_ok _ _ _ _ _ _ _ ) hP rfl rfl rfl rfl fun x25_5 T3 n3 h10 ρ its hS => ?_
     refine pu ?_
     exact la4 hS h10 ⟨rfl, rfl, rfl, rfl, rfl, trivial⟩
    ·
     clear h6
     subst e
     refine sk ?_
     refine sk ?_
     refine sk ?_
     refine sk ?_
     refine pu ?_
     exact la4 hS h8 ⟨rfl, rfl, rfl, rfl, rfl, trivial⟩
   ·
    intro y0 y1 y2 y26 T2 n2 ρ its hS h7
    unfold g118_k2 at h7
    clear h6
    refine as_ ?_
    refine dn ?_
    refine CV.ret ?_
    refine PV.blockR ?_
    refine PV.thenR ?_
    cases h7
    exact PV.ret (by simp) Tryz.results118 hS (RS.tmp rfl RS.nil) rfl
 ·
  clear h1 h2
  subst e
  refine sr ?_
  refine vy (V.eq h3 rfl rfl) fun x28_9 h15 => ?_
  refine as_ ?_
  refine dn ?_
  refine CV.cond h15 rfl (fun e h16 => ?_) (fun e h16 => ?_)
  ·
   clear h3 h15
   subst e
   cases h16
  ·
   clear h3 h15
   subst e
   refine sr ?_
   refine vy (V.eq h16 rfl rfl) fun x53_10 h17 => ?_
   refine as_ ?_
   refine dn ?_
   refine CV.cond h17 rfl (fun e h18 => ?_) (fun e h18 => ?_)
   ·
    clear h16 h17
    subst e
    cases h18
   ·
    clear h16 h17
    subst e
    refine sr ?_
    refine vy (V.eq h18 rfl rfl) fun x75_11 h19 => ?_
    refine as_ ?_
    refine dn ?_
    refine CV.cond h19 rfl (fun e h20 => ?_) (fun e h20 => ?_)
    ·
     clear h18 h19
     subst e
     cases h20
    ·
     clear h18 h19
     subst e
     refine CV.skip ?_
     refine PV.blockN ?_
     refine PV.thenN ?_
     refine sr ?_
     refine mv ?_
     refine vy (V.eq h20 rfl rfl) fun x100_12 h21 => ?_
     refine mv ?_
     refine ls4 X 0 1 2 104 [(6, (.lit (.bool false)))] (g118_k3 ro) 3 ?_ ?_
     ·
      rcases condK_inv h21 with ⟨e, h35⟩ | ⟨e, h35⟩
      ·
       clear h20 h21
       subst e
       refine sk ?_
       refine sk ?_
       refine pu ?_
       exact la4 hS h35 ⟨rfl, rfl, rfl, rfl, rfl, trivial⟩
      ·
       clear h20 h21
       subst e
       refine mv ?_
       refine vy (V.eq h35 rfl rfl) fun x103_17 h36 => ?_
       refine pu ?_
       exact la4 hS h36 ⟨rfl, rfl, rfl, rfl, rfl, trivial⟩
     ·
      intro y0 y1 y2 y104 T5 n5 ρ its hS h22
      unfold g118_k3 at h22
      clear h20 h21
      refine mv ?_
      refine ls4 X 0 1 2 108 [(6, (.lit (.bool false)))] (g118_k4 ro) 3 ?_ ?_
      ·
       rcases condK_inv h22 with ⟨e, h33⟩ | ⟨e, h33⟩
       ·
        clear h22
        subst e
        refine sk ?_
        refine sk ?_
        refine pu ?_
        exact la4 hS h33 ⟨rfl, rfl, rfl, rfl, rfl, trivial⟩
       ·
        clear h22
        subst e
        refine mv ?_
        refine vy (V.eq h33 rfl rfl) fun x107_16 h34 => ?_
        refine pu ?_
        exact la4 hS h34 ⟨rfl, rfl, rfl, rfl, rfl, trivial⟩
      ·
       intro y0 y1 y2 y108 T6 n6 ρ its hS h23
       unfold g118_k4 at h23
       clear h22
       refine mv ?_
       refine ls3 X 0 2 116 [(6, (.lit (.bool false)))] (g118_k5 ro) 7 ?_ ?_
       ·
        rcases condK_inv h23 with ⟨e, h28⟩ | ⟨e, h28⟩
        ·
         clear h23
         subst e
         refine sk ?_
         refine sk ?_
         refine sk ?_
         refine sk ?_
         refine sk ?_
         refine sk ?_
         refine pu ?_
         exact la3 hS h28 ⟨rfl, rfl, rfl, rfl, trivial⟩
        ·
         clear h23
         subst e
         refine mv ?_
         refine vy (V.ge h28 rfl rfl) fun x111_14 h29 => ?_
         refine mv ?_
         refine ls3 X 0 2 115 [(6, (.lit (.bool false))), (109, (.lit (.bool false)))] (g118_k7 ro) 3 ?_ ?_
         ·
          rcases condK_inv h29 with ⟨e, h31⟩ | ⟨e, h31⟩
          ·
           clear h28 h29
           subst e
           refine mv ?_
           refine vy (V.le h31 rfl rfl) fun x114_15 h32 => ?_
           refine pu ?_
           exact la3 hS h32 ⟨rfl, rfl, rfl, rfl, rfl, trivial⟩
          ·
           clear h28 h29
           subst e
           refine sk ?_
           refine sk ?_
           refine pu ?_
           exact la3 hS h31 ⟨rfl, rfl, rfl, rfl, rfl, trivial⟩
         ·
          intro y0 y2 y115 T10 n10 ρ its hS h30
          unfold g118_k7 at h30
          clear h28 h29
          refine pu ?_
          exact la3 hS h30 ⟨rfl, rfl, rfl, rfl, trivial⟩
       ·
        intro y0 y2 y116 T7 n7 ρ its hS h24
        unfold g118_k5 at h24
        clear h23
        refine as_ ?_
        refine dn ?_
        refine sr ?_
        refine mv ?_
        refine mv ?_
        refine ls1 X 122 [(6, (.lit (.bool false)))] (g118_k6 ro) 4 ?_ ?_
        ·
         rcases condK_inv h24 with ⟨e, h26⟩ | ⟨e, h26⟩
         ·
          clear h24
          subst e
          refine mv ?_
          refine mv ?_
          refine LV.call hS h26 (g107_ok _ _ _ _ _ _ _ ) hP rfl rfl rfl rfl fun x121_13 T9 n9 h27 ρ its hS => ?_
          refine pu ?_
          exact la1 hS h27 ⟨rfl, rfl, trivial⟩
         ·
          clear h24
          subst e
          refine sk ?_
          refine sk ?_
          refine sk ?_
          refine pu ?_
          exact la1 hS h26 ⟨rfl, rfl, trivial⟩
        ·
         intro y122 T8 n8 ρ its hS h25
         unfold g118_k6 at h25
         clear h24
         refine as_ ?_
         refine dn ?_
         refine CV.ret ?_
         cases h25
         exact PV.ret (by simp) Tryz.results118 hS (RS.tmp rfl RS.nil) rfl
noncomputable def g67_k5 (ro : List HT) (y0 y3 y4 y5 y155 : AV) (T8 : HT) (n8 : Nat) : R :=
 .ok (.val y155) T8 n8
noncomputable def g67_k4 (ro : List HT) (y0 y3 y4 y5 y9 y55 : AV) (T7 : HT) (n7 : Nat) : R :=
 condK 670031 y55
 (
  .bad 670032
 )
 (
  eqK Tryz.prog 3 (.tmp 9) (.const (.int .i64 (.ofNat 10))) 670033 y9 (.lit (.int .i64 (.ofNat 10))) fun x62_12 =>
  condK 670035 x62_12
  (
   .bad 670036
  )
  (
   eqK Tryz.prog 3 (.tmp 9) (.const (.int .i64 (.ofNat 14))) 670037 y9 (.lit (.int .i64 (.ofNat 14))) fun x72_13 =>
   condK 670039 x72_13
   (
    .bad 670040
   )
   (
    eqK Tryz.prog 3 (.tmp 9) (.const (.int .i64 (.ofNat 34))) 670041 y9 (.lit (.int .i64 (.ofNat 34))) fun x89_14 =>
    condK 670043 x89_14
    (
     .bad 670044
    )
    (
     eqK Tryz.prog 3 (.tmp 9) (.const (.int .i64 (.ofNat 42))) 670045 y9 (.lit (.int .i64 (.ofNat 42))) fun x111_15 =>
     condK 670047 x111_15
     (
      .bad 670048
     )
     (
      eqK Tryz.prog 3 (.tmp 9) (.const (.int .i64 (.ofNat 45))) 670049 y9 (.lit (.int .i64 (.ofNat 45))) fun x123_16 =>
      condK 670051 x123_16
      (
       .bad 670052
      )
      (
       eqK Tryz.prog 3 (.tmp 9) (.const (.int .i64 (.ofNat 47))) 670053 y9 (.lit (.int .i64 (.ofNat 47))) fun x147_17 =>
       condK 670055 x147_17
       (
        lenSK 670057 y5 fun x149_18 =>
        gtK Tryz.prog 3 (.tmp 149) (.const (.int .i64 (.ofNat 0))) 670058 x149_18 (.lit (.int .i64 (.ofNat 0))) fun x150_19 =>
        condK 670061 x150_19
        (
         callK (g109 ro y0 y5 (.lit (.func (.func 116) #[] #[])) T7 n7) fun x154_20 T9 n9 =>
         g67_k5 ro y0 y3 y4 y5 x154_20 T9 n9
        )
        (
         g67_k5 ro y0 y3 y4 y5 (.lit (.bool false)) T7 n7
        )
       )
       (
        faK 670068 y3 0 fun x157_21 =>
        ldK 670069 T7 ro x157_21 fun x158_22 =>
        callK (g118 ro y0 x158_22 y5 T7 n7) fun x160_23 T10 n10 =>
        .ok (.val x160_23) T10 n10
       )
      )
     )
    )
   )
  )
 )
noncomputable def g67_k3 (ro : List HT) (y0 y3 y4 y5 y9 y41 : AV) (T4 : HT) (n4 : Nat) : R :=
 condK 670019 y41
 (
  callK (g107 ro y0 y5 (.lit (.int .i64 (.ofNat 1))) (.lit (.int .i64 (.ofNat 1))) T4 n4) fun x49_9 T5 n5 =>
  .ok (.val x49_9) T5 n5
 )
 (
  eqK Tryz.prog 3 (.tmp 9) (.const (.int .i64 (.ofNat 20))) 670024 y9 (.lit (.int .i64 (.ofNat 20))) fun x51_10 =>
  condK 670026 x51_10
  (
   callK (g107 ro y0 y5 (.lit (.int .i64 (.ofNat 3))) (.lit (.int .i64 (.ofNat 3))) T4 n4) fun x54_11 T6 n6 =>
   .ok (.val x54_11) T6 n6
  )
  (
   eqK Tryz.prog 3 (.tmp 9) (.const (.int .i64 (.ofNat 41))) 670073 y9 (.lit (.int .i64 (.ofNat 41))) fun x56_24 =>
   condK 670075 x56_24
   (
    g67_k4 ro y0 y3 y4 y5 y9 (.lit (.bool true)) T4 n4
   )
   (
    eqK Tryz.prog 3 (.tmp 9) (.const (.int .i64 (.ofNat 46))) 670076 y9 (.lit (.int .i64 (.ofNat 46))) fun x57_25 =>
    g67_k4 ro y0 y3 y4 y5 y9 x57_25 T4 n4
   )
  )
 )
noncomputable def g67_k2 (ro : List HT) (y0 y3 y4 y5 y9 y24 : AV) (T3 : HT) (n3 : Nat) : R :=
 condK 670013 y24
 (
  .bad 670014
 )
 (
  eqK Tryz.prog 3 (.tmp 9) (.const (.int .i64 (.ofNat 9))) 670015 y9 (.lit (.int .i64 (.ofNat 9))) fun x31_8 =>
  condK 670017 x31_8
  (
   .bad 670018
  )
  (
   eqK Tryz.prog 3 (.tmp 9) (.const (.int .i64 (.ofNat 11))) 670078 y9 (.lit (.int .i64 (.ofNat 11))) fun x42_26 =>
   condK 670080 x42_26
   (
    g67_k3 ro y0 y3 y4 y5 y9 (.lit (.bool true)) T3 n3
   )
   (
    eqK Tryz.prog 3 (.tmp 9) (.const (.int .i64 (.ofNat 12))) 670081 y9 (.lit (.int .i64 (.ofNat 12))) fun x43_27 =>
    condK 670083 x43_27
    (
     g67_k3 ro y0 y3 y4 y5 y9 (.lit (.bool true)) T3 n3
    )
    (
     eqK Tryz.prog 3 (.tmp 9) (.const (.int .i64 (.ofNat 16))) 670084 y9 (.lit (.int .i64 (.ofNat 16))) fun x44_28 =>
     condK 670086 x44_28
     (
      g67_k3 ro y0 y3 y4 y5 y9 (.lit (.bool true)) T3 n3
     )
     (
      eqK Tryz.prog 3 (.tmp 9) (.const (.int .i64 (.ofNat 17))) 670087 y9 (.lit (.int .i64 (.ofNat 17))) fun x45_29 =>
      condK 670089 x45_29
      (
       g67_k3 ro y0 y3 y4 y5 y9 (.lit (.bool true)) T3 n3
      )
      (
       eqK Tryz.prog 3 (.tmp 9) (.const (.int .i64 (.ofNat 35))) 670090 y9 (.lit (.int .i64 (.ofNat 35))) fun x46_30 =>
       g67_k3 ro y0 y3 y4 y5 y9 x46_30 T3 n3
      )
     )
    )
   )
  )
 )
noncomputable def g67_k1 (ro : List HT) (y0 y3 y4 y5 y9 y10 : AV) (T2 : HT) (n2 : Nat) : R :=
 condK 670008 y10
 (
  lenSK 670010 y5 fun x22_6 =>
  eqK Tryz.prog 3 (.tmp 22) (.const (.int .i64 (.ofNat 0))) 670011 x22_6 (.lit (.int .i64 (.ofNat 0))) fun x23_7 =>
  .ok (.val x23_7) T2 n2
 )
 (
  eqK Tryz.prog 3 (.tmp 9) (.const (.int .i64 (.ofNat 7))) 670092 y9 (.lit (.int .i64 (.ofNat 7))) fun x25_31 =>
  condK 670094 x25_31
  (
   g67_k2 ro y0 y3 y4 y5 y9 (.lit (.bool true)) T2 n2
  )
  (
   eqK Tryz.prog 3 (.tmp 9) (.const (.int .i64 (.ofNat 8))) 670095 y9 (.lit (.int .i64 (.ofNat 8))) fun x26_32 =>
   g67_k2 ro y0 y3 y4 y5 y9 x26_32 T2 n2
  )
 )
noncomputable def g67 (ro : List HT) (a0 a1 : AV) (T : HT) (nx : Nat) : R :=
 boxK 670001 T nx a1 32 fun x3_1 T1 n1 =>
 faK 670003 x3_1 4 fun x6_2 =>
 ldK 670004 T1 ro x6_2 fun x7_3 =>
 faK 670006 x3_1 0 fun x8_4 =>
 ldK 670007 T1 ro x8_4 fun x9_5 =>
 eqK Tryz.prog 3 (.tmp 9) (.const (.int .i64 (.ofNat 1))) 670097 x9_5 (.lit (.int .i64 (.ofNat 1))) fun x11_33 =>
 condK 670099 x11_33
 (
  g67_k1 ro a0 x3_1 (.lit (.bool false)) x7_3 x9_5 (.lit (.bool true)) T1 n1
 )
 (
  eqK Tryz.prog 3 (.tmp 9) (.const (.int .i64 (.ofNat 2))) 670100 x9_5 (.lit (.int .i64 (.ofNat 2))) fun x12_34 =>
  condK 670102 x12_34
  (
   g67_k1 ro a0 x3_1 (.lit (.bool false)) x7_3 x9_5 (.lit (.bool true)) T1 n1
  )
  (
   eqK Tryz.prog 3 (.tmp 9) (.const (.int .i64 (.ofNat 3))) 670103 x9_5 (.lit (.int .i64 (.ofNat 3))) fun x13_35 =>
   condK 670105 x13_35
   (
    g67_k1 ro a0 x3_1 (.lit (.bool false)) x7_3 x9_5 (.lit (.bool true)) T1 n1
   )
   (
    eqK Tryz.prog 3 (.tmp 9) (.const (.int .i64 (.ofNat 4))) 670106 x9_5 (.lit (.int .i64 (.ofNat 4))) fun x14_36 =>
    condK 670108 x14_36
    (
     g67_k1 ro a0 x3_1 (.lit (.bool false)) x7_3 x9_5 (.lit (.bool true)) T1 n1
    )
    (
     eqK Tryz.prog 3 (.tmp 9) (.const (.int .i64 (.ofNat 5))) 670109 x9_5 (.lit (.int .i64 (.ofNat 5))) fun x15_37 =>
     condK 670111 x15_37
     (
      g67_k1 ro a0 x3_1 (.lit (.bool false)) x7_3 x9_5 (.lit (.bool true)) T1 n1
     )
     (
      eqK Tryz.prog 3 (.tmp 9) (.const (.int .i64 (.ofNat 6))) 670112 x9_5 (.lit (.int .i64 (.ofNat 6))) fun x16_38 =>
      condK 670114 x16_38
      (
       g67_k1 ro a0 x3_1 (.lit (.bool false)) x7_3 x9_5 (.lit (.bool true)) T1 n1
      )
      (
       eqK Tryz.prog 3 (.tmp 9) (.const (.int .i64 (.ofNat 15))) 670115 x9_5 (.lit (.int .i64 (.ofNat 15))) fun x17_39 =>
       condK 670117 x17_39
       (
        g67_k1 ro a0 x3_1 (.lit (.bool false)) x7_3 x9_5 (.lit (.bool true)) T1 n1
       )
       (
        eqK Tryz.prog 3 (.tmp 9) (.const (.int .i64 (.ofNat 38))) 670118 x9_5 (.lit (.int .i64 (.ofNat 38))) fun x18_40 =>
        condK 670120 x18_40
        (
         g67_k1 ro a0 x3_1 (.lit (.bool false)) x7_3 x9_5 (.lit (.bool true)) T1 n1
        )
        (
         eqK Tryz.prog 3 (.tmp 9) (.const (.int .i64 (.ofNat 39))) 670121 x9_5 (.lit (.int .i64 (.ofNat 39))) fun x19_41 =>
         condK 670123 x19_41
         (
          g67_k1 ro a0 x3_1 (.lit (.bool false)) x7_3 x9_5 (.lit (.bool true)) T1 n1
         )
         (
          eqK Tryz.prog 3 (.tmp 9) (.const (.int .i64 (.ofNat 40))) 670124 x9_5 (.lit (.int .i64 (.ofNat 40))) fun x20_42 =>
          g67_k1 ro a0 x3_1 (.lit (.bool false)) x7_3 x9_5 x20_42 T1 n1
         )
        )
       )
      )
     )
    )
   )
  )
 )
theorem g67_ok (ro : List HT) (a0 a1 : AV) (T : HT) (nx : Nat) : GOk Tryz.prog envE 67 [a0, a1] ro T nx (g67 ro a0 a1 T nx) := by
 refine GOk.of_body Tryz.func67 rfl Tryz.ntmps67 (by kernel_rfl) rfl fun r T' n' h1 w0 base ρ0 its hS hP => ?_
 have X : CtxW envE ρ0 ro r T' n' := trivial
 unfold g67 at h1
 refine sr ?_
 refine LV.box hS h1 rfl rfl rfl rfl rfl fun x3_1 T1 n1 h2 ρ its hS hdr => ?_
 refine as_ ?_
 refine dn ?_
 refine sr ?_
 refine vy (V.fa h2 rfl Pdf.fo32_4) fun x6_2 h3 => ?_
 refine vy (V.ld hS h3 rfl Pdf.one30) fun x7_3 h4 => ?_
 refine as_ ?_
 refine dn ?_
 refine CV.seq ?_
 refine sr ?_
 refine vy (V.fa h4 rfl Pdf.fo32_0) fun x8_4 h5 => ?_
 refine vy (V.ld hS h5 rfl Pdf.one3) fun x9_5 h6 => ?_
 refine dn ?_
 refine CV.block ?_
 refine cs6 X 0 3 4 5 9 10 [] (g67_k1 ro) ?_ ?_
 ·
  refine sr ?_
  refine vy (V.eq h6 rfl rfl) fun x11_33 h58 => ?_
  refine as_ ?_
  refine dn ?_
  refine CV.cond h58 rfl (fun e h59 => ?_) (fun e h59 => ?_)
  ·
   clear h1 h2 h3 h4 h5 h6 h58
   subst e
   refine CV.skip ?_
   exact pa6 hS h59 ⟨rfl, rfl, rfl, rfl, rfl, rfl, trivial⟩
  ·
   clear h1 h2 h3 h4 h5 h6 h58
   subst e
   refine sr ?_
   refine vy (V.eq h59 rfl rfl) fun x12_34 h60 => ?_
   refine as_ ?_
   refine dn ?_
   refine CV.cond h60 rfl (fun e h61 => ?_) (fun e h61 => ?_)
   ·
    clear h59 h60
    subst e
    refine CV.skip ?_
    exact pa6 hS h61 ⟨rfl, rfl, rfl, rfl, rfl, rfl, trivial⟩
   ·
    clear h59 h60
    subst e
    refine sr ?_
    refine vy (V.eq h61 rfl rfl) fun x13_35 h62 => ?_
    refine as_ ?_
    refine dn ?_
    refine CV.cond h62 rfl (fun e h63 => ?_) (fun e h63 => ?_)
    ·
     clear h61 h62
     subst e
     refine CV.skip ?_
     exact pa6 hS h63 ⟨rfl, rfl, rfl, rfl, rfl, rfl, trivial⟩
    ·
     clear h61 h62
     subst e
     refine sr ?_
     refine vy (V.eq h63 rfl rfl) fun x14_36 h64 => ?_
     refine as_ ?_
     refine dn ?_
     refine CV.cond h64 rfl (fun e h65 => ?_) (fun e h65 => ?_)
     ·
      clear h63 h64
      subst e
      refine CV.skip ?_
      exact pa6 hS h65 ⟨rfl, rfl, rfl, rfl, rfl, rfl, trivial⟩
     ·
      clear h63 h64
      subst e
      refine sr ?_
      refine vy (V.eq h65 rfl rfl) fun x15_37 h66 => ?_
      refine as_ ?_
      refine dn ?_
      refine CV.cond h66 rfl (fun e h67 => ?_) (fun e h67 => ?_)
      ·
       clear h65 h66
       subst e
       refine CV.skip ?_
       exact pa6 hS h67 ⟨rfl, rfl, rfl, rfl, rfl, rfl, trivial⟩
      ·
       clear h65 h66
       subst e
       refine sr ?_
       refine vy (V.eq h67 rfl rfl) fun x16_38 h68 => ?_
       refine as_ ?_
       refine dn ?_
       refine CV.cond h68 rfl (fun e h69 => ?_) (fun e h69 => ?_)
       ·
        clear h67 h68
        subst e
        refine CV.skip ?_
        exact pa6 hS h69 ⟨rfl, rfl, rfl, rfl, rfl, rfl, trivial⟩
       ·
        clear h67 h68
        subst e
        refine sr ?_
        refine vy (V.eq h69 rfl rfl) fun x17_39 h70 => ?_
        refine as_ ?_
        refine dn ?_
        refine CV.cond h70 rfl (fun e h71 => ?_) (fun e h71 => ?_)
        ·
         clear h69 h70
         subst e
         refine CV.skip ?_
         exact pa6 hS h71 ⟨rfl, rfl, rfl, rfl, rfl, rfl, trivial⟩
        ·
         clear h69 h70
         subst e
         refine sr ?_
         refine vy (V.eq h71 rfl rfl) fun x18_40 h72 => ?_
         refine as_ ?_
         refine dn ?_
         refine CV.cond h72 rfl (fun e h73 => ?_) (fun e h73 => ?_)
         ·
          clear h71 h72
          subst e
          refine CV.skip ?_
          exact pa6 hS h73 ⟨rfl, rfl, rfl, rfl, rfl, rfl, trivial⟩
         ·
          clear h71 h72
          subst e
          refine sr ?_
          refine vy (V.eq h73 rfl rfl) fun x19_41 h74 => ?_
          refine as_ ?_
          refine dn ?_
          refine CV.cond h74 rfl (fun e h75 => ?_) (fun e h75 => ?_)
          ·
           clear h73 h74
           subst e
           refine CV.skip ?_
           exact pa6 hS h75 ⟨rfl, rfl, rfl, rfl, rfl, rfl, trivial⟩
          ·
           clear h73 h74
           subst e
           refine CV.region ?_
           refine vy (V.eq h75 rfl rfl) fun x20_42 h76 => ?_
           refine as_ ?_
           refine LV.done ?_
           exact pa6 hS h76 ⟨rfl, rfl, rfl, rfl, rfl, rfl, trivial⟩
 ·
  intro y0 y3 y4 y5 y9 y10 T2 n2 ρ its hS h7
  unfold g67_k1 at h7
  clear h1 h2 h3 h4 h5 h6
  refine CV.cond h7 rfl (fun e h8 => ?_) (fun e h8 => ?_)
  ·
   clear h7
   subst e
   refine sr ?_
   refine mv ?_
   refine vy (V.lenS h8 rfl Pdf.ls30) fun x22_6 h9 => ?_
   refine vy (V.eq h9 rfl rfl) fun x23_7 h10 => ?_
   refine as_ ?_
   refine dn ?_
   refine CV.ret ?_
   refine PV.blockR ?_
   refine PV.thenR ?_
   cases h10
   exact PV.ret (by simp) Tryz.results67 hS (RS.tmp rfl RS.nil) rfl
  ·
   clear h7
   subst e
   refine cs6 X 0 3 4 5 9 24 [] (g67_k2 ro) ?_ ?_
   ·
    refine sr ?_
    refine vy (V.eq h8 rfl rfl) fun x25_31 h55 => ?_
    refine as_ ?_
    refine dn ?_
    refine CV.cond h55 rfl (fun e h56 => ?_) (fun e h56 => ?_)
    ·
     clear h8 h55
     subst e
     refine CV.skip ?_
     exact pa6 hS h56 ⟨rfl, rfl, rfl, rfl, rfl, rfl, trivial⟩
    ·
     clear h8 h55
     subst e
     refine CV.region ?_
     refine vy (V.eq h56 rfl rfl) fun x26_32 h57 => ?_
     refine as_ ?_
     refine LV.done ?_
     exact pa6 hS h57 ⟨rfl, rfl, rfl, rfl, rfl, rfl, trivial⟩
   ·
    intro y0 y3 y4 y5 y9 y24 T3 n3 ρ its hS h11
    unfold g67_k2 at h11
    clear h8
    refine CV.cond h11 rfl (fun e h12 => ?_) (fun e h12 => ?_)
    ·
     clear h11
     subst e
     cases h12
    ·
     clear h11
     subst e
     refine sr ?_
     refine vy (V.eq h12 rfl rfl) fun x31_8 h13 => ?_
     refine as_ ?_
     refine dn ?_
     refine CV.cond h13 rfl (fun e h14 => ?_) (fun e h14 => ?_)
     ·
      clear h12 h13
      subst e
      cases h14
     ·
      clear h12 h13
      subst e
      refine cs6 X 0 3 4 5 9 41 [] (g67_k3 ro) ?_ ?_
      ·
       refine sr ?_
       refine vy (V.eq h14 rfl rfl) fun x42_26 h46 => ?_
       refine as_ ?_
       refine dn ?_
       refine CV.cond h46 rfl (fun e h47 => ?_) (fun e h47 => ?_)
       ·
        clear h14 h46
        subst e
        refine CV.skip ?_
        exact pa6 hS h47 ⟨rfl, rfl, rfl, rfl, rfl, rfl, trivial⟩
       ·
        clear h14 h46
        subst e
        refine sr ?_
        refine vy (V.eq h47 rfl rfl) fun x43_27 h48 => ?_
        refine as_ ?_
        refine dn ?_
        refine CV.cond h48 rfl (fun e h49 => ?_) (fun e h49 => ?_)
        ·
         clear h47 h48
         subst e
         refine CV.skip ?_
         exact pa6 hS h49 ⟨rfl, rfl, rfl, rfl, rfl, rfl, trivial⟩
        ·
         clear h47 h48
         subst e
         refine sr ?_
         refine vy (V.eq h49 rfl rfl) fun x44_28 h50 => ?_
         refine as_ ?_
         refine dn ?_
         refine CV.cond h50 rfl (fun e h51 => ?_) (fun e h51 => ?_)
         ·
          clear h49 h50
          subst e
          refine CV.skip ?_
          exact pa6 hS h51 ⟨rfl, rfl, rfl, rfl, rfl, rfl, trivial⟩
         ·
          clear h49 h50
          subst e
          refine sr ?_
          refine vy (V.eq h51 rfl rfl) fun x45_29 h52 => ?_
          refine as_ ?_
          refine dn ?_
          refine CV.cond h52 rfl (fun e h53 => ?_) (fun e h53 => ?_)
          ·
           clear h51 h52
           subst e
           refine CV.skip ?_
           exact pa6 hS h53 ⟨rfl, rfl, rfl, rfl, rfl, rfl, trivial⟩
          ·
           clear h51 h52
           subst e
           refine CV.region ?_
           refine vy (V.eq h53 rfl rfl) fun x46_30 h54 => ?_
           refine as_ ?_
           refine LV.done ?_
           exact pa6 hS h54 ⟨rfl, rfl, rfl, rfl, rfl, rfl, trivial⟩
      ·
       intro y0 y3 y4 y5 y9 y41 T4 n4 ρ its hS h15
       unfold g67_k3 at h15
       clear h14
       refine CV.cond h15 rfl (fun e h16 => ?_) (fun e h16 => ?_)
       ·
        clear h15
        subst e
        refine sr ?_
        refine mv ?_
        refine mv ?_
        refine LV.call hS h16 (g107_ok _ _ _ _ _ _ _ ) hP rfl rfl rfl rfl fun x49_9 T5 n5 h17 ρ its hS => ?_
        refine as_ ?_
        refine dn ?_
        refine CV.ret ?_
        refine PV.blockR ?_
        refine PV.thenR ?_
        cases h17
        exact PV.ret (by simp) Tryz.results67 hS (RS.tmp rfl RS.nil) rfl
       ·
        clear h15
        subst e
        refine sr ?_
        refine vy (V.eq h16 rfl rfl) fun x51_10 h18 => ?_
        refine as_ ?_
        refine dn ?_
        refine CV.cond h18 rfl (fun e h19 => ?_) (fun e h19 => ?_)
        ·
         clear h16 h18
         subst e
         refine sr ?_
         refine mv ?_
         refine mv ?_
         refine LV.call hS h19 (g107_ok _ _ _ _ _ _ _ ) hP rfl rfl rfl rfl fun x54_11 T6 n6 h20 ρ its hS => ?_
         refine as_ ?_
         refine dn ?_
         refine CV.ret ?_
         refine PV.blockR ?_
         refine PV.thenR ?_
         cases h20
         exact PV.ret (by simp) Tryz.results67 hS (RS.tmp rfl RS.nil) rfl
        ·
         clear h16 h18
         subst e
         refine cs6 X 0 3 4 5 9 55 [] (g67_k4 ro) ?_ ?_
         ·
          refine sr ?_
          refine vy (V.eq h19 rfl rfl) fun x56_24 h43 => ?_
          refine as_ ?_
          refine dn ?_
          refine CV.cond h43 rfl (fun e h44 => ?_) (fun e h44 => ?_)
          ·
           clear h19 h43
           subst e
           refine CV.skip ?_
           exact pa6 hS h44 ⟨rfl, rfl, rfl, rfl, rfl, rfl, trivial⟩
          ·
           clear h19 h43
           subst e
           refine CV.region ?_
           refine vy (V.eq h44 rfl rfl) fun x57_25 h45 => ?_
           refine as_ ?_
           refine LV.done ?_
           exact pa6 hS h45 ⟨rfl, rfl, rfl, rfl, rfl, rfl, trivial⟩
         ·
          intro y0 y3 y4 y5 y9 y55 T7 n7 ρ its hS h21
          unfold g67_k4 at h21
          clear h19
          refine CV.cond h21 rfl (fun e h22 => ?_) (fun e h22 => ?_)
          ·
           clear h21
           subst e
           cases h22
          ·
           clear h21
           subst e
           refine sr ?_
           refine vy (V.eq h22 rfl rfl) fun x62_12 h23 => ?_
           refine as_ ?_
           refine dn ?_
           refine CV.cond h23 rfl (fun e h24 => ?_) (fun e h24 => ?_)
           ·
            clear h22 h23
            subst e
            cases h24
           ·
            clear h22 h23
            subst e
            refine sr ?_
            refine vy (V.eq h24 rfl rfl) fun x72_13 h25 => ?_
            refine as_ ?_
            refine dn ?_
            refine CV.cond h25 rfl (fun e h26 => ?_) (fun e h26 => ?_)
            ·
             clear h24 h25
             subst e
             cases h26
            ·
             clear h24 h25
             subst e
             refine sr ?_
             refine vy (V.eq h26 rfl rfl) fun x89_14 h27 => ?_
             refine as_ ?_
             refine dn ?_
             refine CV.cond h27 rfl (fun e h28 => ?_) (fun e h28 => ?_)
             ·
              clear h26 h27
              subst e
              cases h28
             ·
              clear h26 h27
              subst e
              refine sr ?_
              refine vy (V.eq h28 rfl rfl) fun x111_15 h29 => ?_
              refine as_ ?_
              refine dn ?_
              refine CV.cond h29 rfl (fun e h30 => ?_) (fun e h30 => ?_)
              ·
               clear h28 h29
               subst e
               cases h30
              ·
               clear h28 h29
               subst e
               refine sr ?_
               refine vy (V.eq h30 rfl rfl) fun x123_16 h31 => ?_
               refine as_ ?_
               refine dn ?_
               refine CV.cond h31 rfl (fun e h32 => ?_) (fun e h32 => ?_)
               ·
                clear h30 h31
                subst e
                cases h32
               ·
                clear h30 h31
                subst e
                refine sr ?_
                refine vy (V.eq h32 rfl rfl) fun x147_17 h33 => ?_
                refine as_ ?_
                refine dn ?_
                refine CV.cond h33 rfl (fun e h34 => ?_) (fun e h34 => ?_)
                ·
                 clear h32 h33
                 subst e
                 refine sr ?_
                 refine mv ?_
                 refine vy (V.lenS h34 rfl Pdf.ls30) fun x149_18 h35 => ?_
                 refine vy (V.gt h35 rfl rfl) fun x150_19 h36 => ?_
                 refine mv ?_
                 refine ls5 X 0 3 4 5 155 [] (g67_k5 ro) 4 ?_ ?_
                 ·
                  rcases condK_inv h36 with ⟨e, h38⟩ | ⟨e, h38⟩
                  ·
                   clear h34 h35 h36
                   subst e
                   refine mv ?_
                   refine mv ?_
                   refine LV.call hS h38 (g109_ok _ _ _ _ _ _ ) hP rfl rfl rfl rfl fun x154_20 T9 n9 h39 ρ its hS => ?_
                   refine pu ?_
                   exact la5 hS h39 ⟨rfl, rfl, rfl, rfl, rfl, trivial⟩
                  ·
                   clear h34 h35 h36
                   subst e
                   refine sk ?_
                   refine sk ?_
                   refine sk ?_
                   refine pu ?_
                   exact la5 hS h38 ⟨rfl, rfl, rfl, rfl, rfl, trivial⟩
                 ·
                  intro y0 y3 y4 y5 y155 T8 n8 ρ its hS h37
                  unfold g67_k5 at h37
                  clear h34 h35 h36
                  refine as_ ?_
                  refine dn ?_
                  refine CV.ret ?_
                  refine PV.blockR ?_
                  refine PV.thenR ?_
                  cases h37
                  exact PV.ret (by simp) Tryz.results67 hS (RS.tmp rfl RS.nil) rfl
                ·
                 clear h32 h33
                 subst e
                 refine CV.skip ?_
                 refine PV.blockN ?_
                 refine PV.thenN ?_
                 refine sr ?_
                 refine mv ?_
                 refine vy (V.fa h34 rfl Pdf.fo32_0) fun x157_21 h40 => ?_
                 refine vy (V.ld hS h40 rfl Pdf.one3) fun x158_22 h41 => ?_
                 refine mv ?_
                 refine LV.call hS h41 (g118_ok _ _ _ _ _ _ ) hP rfl rfl rfl rfl fun x160_23 T10 n10 h42 ρ its hS => ?_
                 refine as_ ?_
                 refine dn ?_
                 refine CV.ret ?_
                 cases h42
                 exact PV.ret (by simp) Tryz.results67 hS (RS.tmp rfl RS.nil) rfl
noncomputable def g68_k2 (ro : List HT) (lp1 : AV → AV → AV → AV → HT → Nat → R) (y0 y2 y5 y6 y18 : AV) (T2 : HT) (n2 : Nat) : R :=
 condK 680015 y18
 (
  .bad 680016
 )
 (
  addK Tryz.prog 3 (.tmp 6) (.const (.int .i64 (.ofNat 1))) 680017 y6 (.lit (.int .i64 (.ofNat 1))) fun x19_5 =>
  lp1 y0 y2 y5 x19_5 T2 n2
 )
noncomputable def g68_k3 (ro : List HT) (y2 y35 : AV) (T3 : HT) (n3 : Nat) : R :=
 .ok (.val y35) T3 n3
noncomputable def g68_k5 (ro : List HT) (y2 y34 : AV) (T5 : HT) (n5 : Nat) : R :=
 g68_k3 ro y2 y34 T5 n5
noncomputable def g68_k4 (ro : List HT) (y0 y2 y29 : AV) (T4 : HT) (n4 : Nat) : R :=
 condK 680037 y29
 (
  lenTK 680039 y0 fun x32_10 =>
  leK Tryz.prog 3 (.tmp 32) (.const (.int .i64 (.ofNat 600))) 680040 x32_10 (.lit (.int .i64 (.ofNat 600))) fun x33_11 =>
  g68_k5 ro y2 x33_11 T4 n4
 )
 (
  g68_k5 ro y2 (.lit (.bool false)) T4 n4
 )
noncomputable def g68_b1 (ro : List HT) (lp1 : AV → AV → AV → AV → HT → Nat → R) (y0 y2 y5 y6 : AV) (T1 : HT) (n1 : Nat) : R :=
 ltK Tryz.prog 3 (.tmp 6) (.tmp 5) 680006 y6 y5 fun x7_2 =>
 condK 680007 x7_2
 (
  ixK 680012 y0 y6 fun x11_3 =>
  ltK Tryz.prog 5 (.tmp 11) (.const (.int .u8 (.ofNat 48))) 680013 x11_3 (.lit (.int .u8 (.ofNat 48))) fun x12_4 =>
  condK 680019 x12_4
  (
   g68_k2 ro lp1 y0 y2 y5 y6 (.lit (.bool true)) T1 n1
  )
  (
   ixK 680023 y0 y6 fun x16_6 =>
   gtK Tryz.prog 5 (.tmp 16) (.const (.int .u8 (.ofNat 57))) 680024 x16_6 (.lit (.int .u8 (.ofNat 57))) fun x17_7 =>
   g68_k2 ro lp1 y0 y2 y5 y6 x17_7 T1 n1
  )
 )
 (
  eqSK Tryz.prog 9 (.tmp 20) (.const (.string ⟨⟨[48]⟩⟩)) 680027 y0 (.lit (.string ⟨⟨[48]⟩⟩)) fun x21_8 =>
  condK 680030 x21_8
  (
   g68_k3 ro y2 (.lit (.bool true)) T1 n1
  )
  (
   neSK Tryz.prog 9 (.tmp 23) (.const (.string ⟨⟨[]⟩⟩)) 680033 y0 (.lit (.string ⟨⟨[]⟩⟩)) fun x24_9 =>
   condK 680043 x24_9
   (
    ixK 680045 y0 (.lit (.int .i64 (.ofNat 0))) fun x27_12 =>
    neK Tryz.prog 5 (.tmp 27) (.const (.int .u8 (.ofNat 48))) 680046 x27_12 (.lit (.int .u8 (.ofNat 48))) fun x28_13 =>
    g68_k4 ro y0 y2 x28_13 T1 n1
   )
   (
    g68_k4 ro y0 y2 (.lit (.bool false)) T1 n1
   )
  )
 )
noncomputable def g68 (ro : List HT) (a0 : AV) (T : HT) (nx : Nat) : R :=
 lenTK 680003 a0 fun x5_1 =>
 lpf4 680005 (g68_b1 ro) 100000 a0 (.lit (.bool false)) x5_1 (.lit (.int .i64 (.ofNat 0))) T nx
theorem g68_ok (ro : List HT) (a0 : AV) (T : HT) (nx : Nat) : GOk Tryz.prog envE 68 [a0] ro T nx (g68 ro a0 T nx) := by
 refine GOk.of_body Tryz.func68 rfl Tryz.ntmps68 (by kernel_rfl) rfl fun r T' n' h1 w0 base ρ0 its hS hP => ?_
 have X : CtxW envE ρ0 ro r T' n' := trivial
 unfold g68 at h1
 refine sr ?_
 refine as_ ?_
 refine dn ?_
 refine CV.seq ?_
 refine sr ?_
 refine mv ?_
 refine vy (V.lenT h1 rfl Pdf.ls9) fun x5_1 h2 => ?_
 refine mv ?_
 refine dn ?_
 refine CV.block ?_
 refine cl4 X 0 2 5 6 [] hS h2 ⟨rfl, rfl, rfl, rfl, trivial⟩ ?_
 intro f1 y0 y2 y5 y6 T1 n1 ρ its hS h3
 unfold g68_b1 at h3
 clear h1 h2
 refine sr ?_
 refine vy (V.lt h3 rfl rfl) fun x7_2 h4 => ?_
 refine dn ?_
 refine CV.seq ?_
 refine CV.cond h4 rfl (fun e h5 => ?_) (fun e h5 => ?_)
 ·
  clear h3 h4
  subst e
  refine CV.skip ?_
  refine PV.thenN ?_
  refine CV.seq ?_
  refine CV.block ?_
  refine sr ?_
  refine mv ?_
  refine as_ ?_
  refine dn ?_
  refine sr ?_
  refine mv ?_
  refine mv ?_
  refine vy (V.ix h5 rfl rfl Pdf.st9) fun x11_3 h6 => ?_
  refine vy (V.lt h6 rfl rfl) fun x12_4 h7 => ?_
  refine mv ?_
  refine ls5 X 0 2 5 6 18 [] (g68_k2 ro (lpf4 680005 (g68_b1 ro) f1)) 5 ?_ ?_
  ·
   rcases condK_inv h7 with ⟨e, h11⟩ | ⟨e, h11⟩
   ·
    clear h5 h6 h7
    subst e
    refine sk ?_
    refine sk ?_
    refine sk ?_
    refine sk ?_
    refine pu ?_
    exact la5 hS h11 ⟨rfl, rfl, rfl, rfl, rfl, trivial⟩
   ·
    clear h5 h6 h7
    subst e
    refine mv ?_
    refine mv ?_
    refine vy (V.ix h11 rfl rfl Pdf.st9) fun x16_6 h12 => ?_
    refine vy (V.gt h12 rfl rfl) fun x17_7 h13 => ?_
    refine pu ?_
    exact la5 hS h13 ⟨rfl, rfl, rfl, rfl, rfl, trivial⟩
  ·
   intro y0 y2 y5 y6 y18 T2 n2 ρ its hS h8
   unfold g68_k2 at h8
   clear h5 h6 h7
   refine dn ?_
   refine CV.cond h8 rfl (fun e h9 => ?_) (fun e h9 => ?_)
   ·
    clear h8
    subst e
    cases h9
   ·
    clear h8
    subst e
    refine CV.skip ?_
    refine PV.blockN ?_
    refine PV.thenN ?_
    refine CV.region ?_
    refine vy (V.add h9 rfl rfl) fun x19_5 h10 => ?_
    refine mv ?_
    refine LV.done ?_
    exact pb4 hS h10 ⟨rfl, rfl, rfl, rfl, trivial⟩
 ·
  clear h3 h4
  subst e
  refine CV.exit ?_
  refine PV.thenE ?_
  refine PV.thenE ?_
  refine PV.blockE ?_
  refine PV.thenN ?_
  refine sr ?_
  refine mv ?_
  refine vy (V.eqS h5 rfl rfl) fun x21_8 h14 => ?_
  refine mv ?_
  refine ls2 X 2 35 [] (g68_k3 ro) 13 ?_ ?_
  ·
   rcases condK_inv h14 with ⟨e, h16⟩ | ⟨e, h16⟩
   ·
    clear h5 h14
    subst e
    refine sk ?_
    refine sk ?_
    refine sk ?_
    refine sk ?_
    refine sk ?_
    refine sk ?_
    refine sk ?_
    refine sk ?_
    refine sk ?_
    refine sk ?_
    refine sk ?_
    refine sk ?_
    refine pu ?_
    exact la2 hS h16 ⟨rfl, rfl, trivial⟩
   ·
    clear h5 h14
    subst e
    refine mv ?_
    refine vy (V.neS h16 rfl rfl) fun x24_9 h17 => ?_
    refine mv ?_
    refine ls3 X 0 2 29 [(22, (.lit (.bool false)))] (g68_k4 ro) 4 ?_ ?_
    ·
     rcases condK_inv h17 with ⟨e, h23⟩ | ⟨e, h23⟩
     ·
      clear h16 h17
      subst e
      refine mv ?_
      refine vy (V.ix h23 rfl rfl Pdf.st9) fun x27_12 h24 => ?_
      refine vy (V.ne h24 rfl rfl) fun x28_13 h25 => ?_
      refine pu ?_
      exact la3 hS h25 ⟨rfl, rfl, rfl, rfl, trivial⟩
     ·
      clear h16 h17
      subst e
      refine sk ?_
      refine sk ?_
      refine sk ?_
      refine pu ?_
      exact la3 hS h23 ⟨rfl, rfl, rfl, rfl, trivial⟩
    ·
     intro y0 y2 y29 T4 n4 ρ its hS h18
     unfold g68_k4 at h18
     clear h16 h17
     refine mv ?_
     refine ls2 X 2 34 [(22, (.lit (.bool false)))] (g68_k5 ro) 4 ?_ ?_
     ·
      rcases condK_inv h18 with ⟨e, h20⟩ | ⟨e, h20⟩
      ·
       clear h18
       subst e
       refine mv ?_
       refine vy (V.lenT h20 rfl Pdf.ls9) fun x32_10 h21 => ?_
       refine vy (V.le h21 rfl rfl) fun x33_11 h22 => ?_
       refine pu ?_
       exact la2 hS h22 ⟨rfl, rfl, rfl, trivial⟩
      ·
       clear h18
       subst e
       refine sk ?_
       refine sk ?_
       refine sk ?_
       refine pu ?_
       exact la2 hS h20 ⟨rfl, rfl, rfl, trivial⟩
     ·
      intro y2 y34 T5 n5 ρ its hS h19
      unfold g68_k5 at h19
      clear h18
      refine pu ?_
      exact la2 hS h19 ⟨rfl, rfl, trivial⟩
  ·
   intro y2 y35 T3 n3 ρ its hS h15
   unfold g68_k3 at h15
   clear h5 h14
   refine as_ ?_
   refine dn ?_
   refine CV.ret ?_
   cases h15
   exact PV.ret (by simp) Tryz.results68 hS (RS.tmp rfl RS.nil) rfl
noncomputable def g37_k2 (ro : List HT) (y0 y3 y4 y20 : AV) (T4 : HT) (n4 : Nat) : R :=
 .ok (.val y20) T4 n4
noncomputable def g37_k3 (ro : List HT) (y0 y3 y4 y30 : AV) (T7 : HT) (n7 : Nat) : R :=
 .ok (.val y30) T7 n7
noncomputable def g37_k5 (ro : List HT) (y4 y44 : AV) (T10 : HT) (n10 : Nat) : R :=
 .ok (.val y44) T10 n10
noncomputable def g37_k4 (ro : List HT) (y0 y3 y4 y31 : AV) (T9 : HT) (n9 : Nat) : R :=
 condK 370031 y31
 (
  .bad 370032
 )
 (
  faK 370033 y3 3 fun x37_15 =>
  ldK 370034 T9 ro x37_15 fun x38_16 =>
  eqSK Tryz.prog 9 (.tmp 38) (.const (.string ⟨⟨[]⟩⟩)) 370035 x38_16 (.lit (.string ⟨⟨[]⟩⟩)) fun x39_17 =>
  condK 370038 x39_17
  (
   ldAK 370040 T9 ro y3 5 fun x42_18 =>
   callK (g67 ro y0 x42_18 T9 n9) fun x43_19 T11 n11 =>
   g37_k5 ro y4 x43_19 T11 n11
  )
  (
   g37_k5 ro y4 (.lit (.bool false)) T9 n9
  )
 )
noncomputable def g37_k1 (ro : List HT) (y0 y3 y4 y6 y7 : AV) (T2 : HT) (n2 : Nat) : R :=
 condK 370005 y7
 (
  faK 370006 y3 3 fun x13_4 =>
  ldK 370007 T2 ro x13_4 fun x14_5 =>
  callK (g66 ro x14_5 T2 n2) fun x15_6 T3 n3 =>
  condK 370011 x15_6
  (
   ldAK 370013 T3 ro y3 5 fun x18_7 =>
   callK (g67 ro y0 x18_7 T3 n3) fun x19_8 T5 n5 =>
   g37_k2 ro y0 y3 y4 x19_8 T5 n5
  )
  (
   g37_k2 ro y0 y3 y4 (.lit (.bool false)) T3 n3
  )
 )
 (
  eqK Tryz.prog 3 (.tmp 6) (.const (.int .i64 (.ofNat 4))) 370017 y6 (.lit (.int .i64 (.ofNat 4))) fun x22_9 =>
  condK 370019 x22_9
  (
   faK 370020 y3 3 fun x23_10 =>
   ldK 370021 T2 ro x23_10 fun x24_11 =>
   callK (g68 ro x24_11 T2 n2) fun x25_12 T6 n6 =>
   condK 370025 x25_12
   (
    ldAK 370027 T6 ro y3 5 fun x28_13 =>
    callK (g67 ro y0 x28_13 T6 n6) fun x29_14 T8 n8 =>
    g37_k3 ro y0 y3 y4 x29_14 T8 n8
   )
   (
    g37_k3 ro y0 y3 y4 (.lit (.bool false)) T6 n6
   )
  )
  (
   eqK Tryz.prog 3 (.tmp 6) (.const (.int .i64 (.ofNat 5))) 370044 y6 (.lit (.int .i64 (.ofNat 5))) fun x32_20 =>
   condK 370046 x32_20
   (
    g37_k4 ro y0 y3 y4 (.lit (.bool true)) T2 n2
   )
   (
    eqK Tryz.prog 3 (.tmp 6) (.const (.int .i64 (.ofNat 42))) 370047 y6 (.lit (.int .i64 (.ofNat 42))) fun x33_21 =>
    g37_k4 ro y0 y3 y4 x33_21 T2 n2
   )
  )
 )
noncomputable def g37 (ro : List HT) (a0 a1 : AV) (T : HT) (nx : Nat) : R :=
 boxK 370001 T nx a1 32 fun x3_1 T1 n1 =>
 faK 370003 x3_1 0 fun x5_2 =>
 ldK 370004 T1 ro x5_2 fun x6_3 =>
 eqK Tryz.prog 3 (.tmp 6) (.const (.int .i64 (.ofNat 6))) 370049 x6_3 (.lit (.int .i64 (.ofNat 6))) fun x8_22 =>
 condK 370051 x8_22
 (
  g37_k1 ro a0 x3_1 (.lit (.bool false)) x6_3 (.lit (.bool true)) T1 n1
 )
 (
  eqK Tryz.prog 3 (.tmp 6) (.const (.int .i64 (.ofNat 11))) 370052 x6_3 (.lit (.int .i64 (.ofNat 11))) fun x9_23 =>
  condK 370054 x9_23
  (
   g37_k1 ro a0 x3_1 (.lit (.bool false)) x6_3 (.lit (.bool true)) T1 n1
  )
  (
   eqK Tryz.prog 3 (.tmp 6) (.const (.int .i64 (.ofNat 12))) 370055 x6_3 (.lit (.int .i64 (.ofNat 12))) fun x10_24 =>
   condK 370057 x10_24
   (
    g37_k1 ro a0 x3_1 (.lit (.bool false)) x6_3 (.lit (.bool true)) T1 n1
   )
   (
    eqK Tryz.prog 3 (.tmp 6) (.const (.int .i64 (.ofNat 45))) 370058 x6_3 (.lit (.int .i64 (.ofNat 45))) fun x11_25 =>
    condK 370060 x11_25
    (
     g37_k1 ro a0 x3_1 (.lit (.bool false)) x6_3 (.lit (.bool true)) T1 n1
    )
    (
     eqK Tryz.prog 3 (.tmp 6) (.const (.int .i64 (.ofNat 46))) 370061 x6_3 (.lit (.int .i64 (.ofNat 46))) fun x12_26 =>
     g37_k1 ro a0 x3_1 (.lit (.bool false)) x6_3 x12_26 T1 n1
    )
   )
  )
 )
theorem g37_ok (ro : List HT) (a0 a1 : AV) (T : HT) (nx : Nat) : GOk Tryz.prog envE 37 [a0, a1] ro T nx (g37 ro a0 a1 T nx) := by
 refine GOk.of_body Tryz.func37 rfl Tryz.ntmps37 (by kernel_rfl) rfl fun r T' n' h1 w0 base ρ0 its hS hP => ?_
 have X : CtxW envE ρ0 ro r T' n' := trivial
 unfold g37 at h1
 refine sr ?_
 refine LV.box hS h1 rfl rfl rfl rfl rfl fun x3_1 T1 n1 h2 ρ its hS hdr => ?_
 refine as_ ?_
 refine dn ?_
 refine CV.seq ?_
 refine sr ?_
 refine vy (V.fa h2 rfl Pdf.fo32_0) fun x5_2 h3 => ?_
 refine vy (V.ld hS h3 rfl Pdf.one3) fun x6_3 h4 => ?_
 refine dn ?_
 refine CV.block ?_
 refine cs5 X 0 3 4 6 7 [] (g37_k1 ro) ?_ ?_
 ·
  refine sr ?_
  refine vy (V.eq h4 rfl rfl) fun x8_22 h35 => ?_
  refine as_ ?_
  refine dn ?_
  refine CV.cond h35 rfl (fun e h36 => ?_) (fun e h36 => ?_)
  ·
   clear h1 h2 h3 h4 h35
   subst e
   refine CV.skip ?_
   exact pa5 hS h36 ⟨rfl, rfl, rfl, rfl, rfl, trivial⟩
  ·
   clear h1 h2 h3 h4 h35
   subst e
   refine sr ?_
   refine vy (V.eq h36 rfl rfl) fun x9_23 h37 => ?_
   refine as_ ?_
   refine dn ?_
   refine CV.cond h37 rfl (fun e h38 => ?_) (fun e h38 => ?_)
   ·
    clear h36 h37
    subst e
    refine CV.skip ?_
    exact pa5 hS h38 ⟨rfl, rfl, rfl, rfl, rfl, trivial⟩
   ·
    clear h36 h37
    subst e
    refine sr ?_
    refine vy (V.eq h38 rfl rfl) fun x10_24 h39 => ?_
    refine as_ ?_
    refine dn ?_
    refine CV.cond h39 rfl (fun e h40 => ?_) (fun e h40 => ?_)
    ·
     clear h38 h39
     subst e
     refine CV.skip ?_
     exact pa5 hS h40 ⟨rfl, rfl, rfl, rfl, rfl, trivial⟩
    ·
     clear h38 h39
     subst e
     refine sr ?_
     refine vy (V.eq h40 rfl rfl) fun x11_25 h41 => ?_
     refine as_ ?_
     refine dn ?_
     refine CV.cond h41 rfl (fun e h42 => ?_) (fun e h42 => ?_)
     ·
      clear h40 h41
      subst e
      refine CV.skip ?_
      exact pa5 hS h42 ⟨rfl, rfl, rfl, rfl, rfl, trivial⟩
     ·
      clear h40 h41
      subst e
      refine CV.region ?_
      refine vy (V.eq h42 rfl rfl) fun x12_26 h43 => ?_
      refine as_ ?_
      refine LV.done ?_
      exact pa5 hS h43 ⟨rfl, rfl, rfl, rfl, rfl, trivial⟩
 ·
  intro y0 y3 y4 y6 y7 T2 n2 ρ its hS h5
  unfold g37_k1 at h5
  clear h1 h2 h3 h4
  refine CV.cond h5 rfl (fun e h6 => ?_) (fun e h6 => ?_)
  ·
   clear h5
   subst e
   refine sr ?_
   refine vy (V.fa h6 rfl Pdf.fo32_3) fun x13_4 h7 => ?_
   refine vy (V.ld hS h7 rfl Pdf.one9) fun x14_5 h8 => ?_
   refine LV.call hS h8 (g66_ok _ _ _ _ ) hP rfl rfl rfl rfl fun x15_6 T3 n3 h9 ρ its hS => ?_
   refine mv ?_
   refine ls4 X 0 3 4 20 [] (g37_k2 ro) 4 ?_ ?_
   ·
    rcases condK_inv h9 with ⟨e, h11⟩ | ⟨e, h11⟩
    ·
     clear h6 h7 h8 h9
     subst e
     refine mv ?_
     refine vy (V.ldA hS h11 rfl Pdf.agg32) fun x18_7 h12 => ?_
     refine LV.call hS h12 (g67_ok _ _ _ _ _ ) hP rfl rfl rfl rfl fun x19_8 T5 n5 h13 ρ its hS => ?_
     refine pu ?_
     exact la4 hS h13 ⟨rfl, rfl, rfl, rfl, trivial⟩
    ·
     clear h6 h7 h8 h9
     subst e
     refine sk ?_
     refine sk ?_
     refine sk ?_
     refine pu ?_
     exact la4 hS h11 ⟨rfl, rfl, rfl, rfl, trivial⟩
   ·
    intro y0 y3 y4 y20 T4 n4 ρ its hS h10
    unfold g37_k2 at h10
    clear h6 h7 h8 h9
    refine as_ ?_
    refine dn ?_
    refine CV.ret ?_
    refine PV.blockR ?_
    refine PV.thenR ?_
    cases h10
    exact PV.ret (by simp) Tryz.results37 hS (RS.tmp rfl RS.nil) rfl
  ·
   clear h5
   subst e
   refine sr ?_
   refine vy (V.eq h6 rfl rfl) fun x22_9 h14 => ?_
   refine as_ ?_
   refine dn ?_
   refine CV.cond h14 rfl (fun e h15 => ?_) (fun e h15 => ?_)
   ·
    clear h6 h14
    subst e
    refine sr ?_
    refine vy (V.fa h15 rfl Pdf.fo32_3) fun x23_10 h16 => ?_
    refine vy (V.ld hS h16 rfl Pdf.one9) fun x24_11 h17 => ?_
    refine LV.call hS h17 (g68_ok _ _ _ _ ) hP rfl rfl rfl rfl fun x25_12 T6 n6 h18 ρ its hS => ?_
    refine mv ?_
    refine ls4 X 0 3 4 30 [] (g37_k3 ro) 4 ?_ ?_
    ·
     rcases condK_inv h18 with ⟨e, h20⟩ | ⟨e, h20⟩
     ·
      clear h15 h16 h17 h18
      subst e
      refine mv ?_
      refine vy (V.ldA hS h20 rfl Pdf.agg32) fun x28_13 h21 => ?_
      refine LV.call hS h21 (g67_ok _ _ _ _ _ ) hP rfl rfl rfl rfl fun x29_14 T8 n8 h22 ρ its hS => ?_
      refine pu ?_
      exact la4 hS h22 ⟨rfl, rfl, rfl, rfl, trivial⟩
     ·
      clear h15 h16 h17 h18
      subst e
      refine sk ?_
      refine sk ?_
      refine sk ?_
      refine pu ?_
      exact la4 hS h20 ⟨rfl, rfl, rfl, rfl, trivial⟩
    ·
     intro y0 y3 y4 y30 T7 n7 ρ its hS h19
     unfold g37_k3 at h19
     clear h15 h16 h17 h18
     refine as_ ?_
     refine dn ?_
     refine CV.ret ?_
     refine PV.blockR ?_
     refine PV.thenR ?_
     cases h19
     exact PV.ret (by simp) Tryz.results37 hS (RS.tmp rfl RS.nil) rfl
   ·
    clear h6 h14
    subst e
    refine cs4 X 0 3 4 31 [] (g37_k4 ro) ?_ ?_
    ·
     refine sr ?_
     refine vy (V.eq h15 rfl rfl) fun x32_20 h32 => ?_
     refine as_ ?_
     refine dn ?_
     refine CV.cond h32 rfl (fun e h33 => ?_) (fun e h33 => ?_)
     ·
      clear h15 h32
      subst e
      refine CV.skip ?_
      exact pa4 hS h33 ⟨rfl, rfl, rfl, rfl, trivial⟩
     ·
      clear h15 h32
      subst e
      refine CV.region ?_
      refine vy (V.eq h33 rfl rfl) fun x33_21 h34 => ?_
      refine as_ ?_
      refine LV.done ?_
      exact pa4 hS h34 ⟨rfl, rfl, rfl, rfl, trivial⟩
    ·
     intro y0 y3 y4 y31 T9 n9 ρ its hS h23
     unfold g37_k4 at h23
     clear h15
     refine CV.cond h23 rfl (fun e h24 => ?_) (fun e h24 => ?_)
     ·
      clear h23
      subst e
      cases h24
     ·
      clear h23
      subst e
      refine CV.skip ?_
      refine PV.blockN ?_
      refine PV.thenN ?_
      refine sr ?_
      refine vy (V.fa h24 rfl Pdf.fo32_3) fun x37_15 h25 => ?_
      refine vy (V.ld hS h25 rfl Pdf.one9) fun x38_16 h26 => ?_
      refine vy (V.eqS h26 rfl rfl) fun x39_17 h27 => ?_
      refine mv ?_
      refine ls2 X 4 44 [] (g37_k5 ro) 4 ?_ ?_
      ·
       rcases condK_inv h27 with ⟨e, h29⟩ | ⟨e, h29⟩
       ·
        clear h24 h25 h26 h27
        subst e
        refine mv ?_
        refine vy (V.ldA hS h29 rfl Pdf.agg32) fun x42_18 h30 => ?_
        refine LV.call hS h30 (g67_ok _ _ _ _ _ ) hP rfl rfl rfl rfl fun x43_19 T11 n11 h31 ρ its hS => ?_
        refine pu ?_
        exact la2 hS h31 ⟨rfl, rfl, trivial⟩
       ·
        clear h24 h25 h26 h27
        subst e
        refine sk ?_
        refine sk ?_
        refine sk ?_
        refine pu ?_
        exact la2 hS h29 ⟨rfl, rfl, trivial⟩
      ·
       intro y4 y44 T10 n10 ρ its hS h28
       unfold g37_k5 at h28
       clear h24 h25 h26 h27
       refine as_ ?_
       refine dn ?_
       refine CV.ret ?_
       cases h28
       exact PV.ret (by simp) Tryz.results37 hS (RS.tmp rfl RS.nil) rfl
noncomputable def g69_b1 (ro : List HT) (lp1 : AV → AV → AV → AV → AV → HT → Nat → R) (y0 y1 y4 y7 y8 : AV) (T1 : HT) (n1 : Nat) : R :=
 ltK Tryz.prog 3 (.tmp 8) (.tmp 7) 690006 y8 y7 fun x9_2 =>
 condK 690007 x9_2
 (
  iaK 690013 y0 y8 1 fun x14_3 =>
  ldK 690014 T1 ro x14_3 fun x15_4 =>
  bin0 Tryz.prog .eql 4 (.tmp 11) (.tmp 15) 690015 y1 x15_4 fun x16_5 =>
  condK 690016 x16_5
  (
   .ok (.val y8) T1 n1
  )
  (
   addK Tryz.prog 3 (.tmp 8) (.const (.int .i64 (.ofNat 1))) 690019 y8 (.lit (.int .i64 (.ofNat 1))) fun x18_6 =>
   lp1 y0 y1 y4 y7 x18_6 T1 n1
  )
 )
 (
  .ok (.val (.lit (.int .i64 (.negSucc 0)))) T1 n1
 )
noncomputable def g69 (ro : List HT) (a0 a1 : AV) (T : HT) (nx : Nat) : R :=
 lenSK 690003 a0 fun x7_1 =>
 lpf5 690005 (g69_b1 ro) 100000 a0 a1 (.lit (.int .i64 (.ofNat 0))) x7_1 (.lit (.int .i64 (.ofNat 0))) T nx
theorem g69_ok (ro : List HT) (a0 a1 : AV) (T : HT) (nx : Nat) : GOk Tryz.prog envE 69 [a0, a1] ro T nx (g69 ro a0 a1 T nx) := by
 refine GOk.of_body Tryz.func69 rfl Tryz.ntmps69 (by kernel_rfl) rfl fun r T' n' h1 w0 base ρ0 its hS hP => ?_
 have X : CtxW envE ρ0 ro r T' n' := trivial
 unfold g69 at h1
 refine sr ?_
 refine as_ ?_
 refine dn ?_
 refine CV.seq ?_
 refine sr ?_
 refine mv ?_
 refine vy (V.lenS h1 rfl Pdf.ls67) fun x7_1 h2 => ?_
 refine mv ?_
 refine dn ?_
 refine CV.block ?_
 refine cl5 X 0 1 4 7 8 [] hS h2 ⟨rfl, rfl, rfl, rfl, rfl, trivial⟩ ?_
 intro f1 y0 y1 y4 y7 y8 T1 n1 ρ its hS h3
 unfold g69_b1 at h3
 clear h1 h2
 refine sr ?_
 refine vy (V.lt h3 rfl rfl) fun x9_2 h4 => ?_
 refine dn ?_
 refine CV.seq ?_
 refine CV.cond h4 rfl (fun e h5 => ?_) (fun e h5 => ?_)
 ·
  clear h3 h4
  subst e
  refine CV.skip ?_
  refine PV.thenN ?_
  refine CV.seq ?_
  refine CV.block ?_
  refine sr ?_
  refine mv ?_
  refine as_ ?_
  refine dn ?_
  refine sr ?_
  refine mv ?_
  refine mv ?_
  refine mv ?_
  refine vy (V.ia h5 rfl rfl Pdf.el67) fun x14_3 h6 => ?_
  refine vy (V.ld hS h6 rfl Pdf.one4) fun x15_4 h7 => ?_
  refine vy (V.bin0 h7 rfl rfl) fun x16_5 h8 => ?_
  refine dn ?_
  refine CV.cond h8 rfl (fun e h9 => ?_) (fun e h9 => ?_)
  ·
   clear h5 h6 h7 h8
   subst e
   refine sr ?_
   refine mv ?_
   refine as_ ?_
   refine dn ?_
   refine CV.ret ?_
   refine PV.blockR ?_
   refine PV.thenR ?_
   refine PV.thenR ?_
   refine PV.blockR ?_
   refine PV.thenR ?_
   cases h9
   exact PV.ret (by simp) Tryz.results69 hS (RS.tmp rfl RS.nil) rfl
  ·
   clear h5 h6 h7 h8
   subst e
   refine CV.skip ?_
   refine PV.blockN ?_
   refine PV.thenN ?_
   refine CV.region ?_
   refine vy (V.add h9 rfl rfl) fun x18_6 h10 => ?_
   refine mv ?_
   refine LV.done ?_
   exact pb5 hS h10 ⟨rfl, rfl, rfl, rfl, rfl, trivial⟩
 ·
  clear h3 h4
  subst e
  refine CV.exit ?_
  refine PV.thenE ?_
  refine PV.thenE ?_
  refine PV.blockE ?_
  refine PV.thenN ?_
  refine sr ?_
  refine as_ ?_
  refine dn ?_
  refine CV.ret ?_
  cases h5
  exact PV.ret (by simp) Tryz.results69 hS (RS.tmp rfl RS.nil) rfl
noncomputable def g38 (ro : List HT) (a0 a1 : AV) (T : HT) (nx : Nat) : R :=
 callK (g69 ro a0 a1 T nx) fun x7_1 T1 n1 =>
 geK Tryz.prog 3 (.tmp 7) (.const (.int .i64 (.ofNat 0))) 380005 x7_1 (.lit (.int .i64 (.ofNat 0))) fun x8_2 =>
 .ok (.val x8_2) T1 n1
theorem g38_ok (ro : List HT) (a0 a1 : AV) (T : HT) (nx : Nat) : GOk Tryz.prog envE 38 [a0, a1] ro T nx (g38 ro a0 a1 T nx) := by
 refine GOk.of_body Tryz.func38 rfl Tryz.ntmps38 (by kernel_rfl) rfl fun r T' n' h1 w0 base ρ0 its hS hP => ?_
 have X : CtxW envE ρ0 ro r T' n' := trivial
 unfold g38 at h1
 refine sr ?_
 refine as_ ?_
 refine dn ?_
 refine sr ?_
 refine mv ?_
 refine mv ?_
 refine LV.call hS h1 (g69_ok _ _ _ _ _ ) hP rfl rfl rfl rfl fun x7_1 T1 n1 h2 ρ its hS => ?_
 refine vy (V.ge h2 rfl rfl) fun x8_2 h3 => ?_
 refine as_ ?_
 refine dn ?_
 refine CV.ret ?_
 cases h3
 exact PV.ret (by simp) Tryz.results38 hS (RS.tmp rfl RS.nil) rfl
noncomputable def g39_k1 (ih : FuncId → List HT → List AV → HT → Nat → R) (ro : List HT) (y10 : AV) (T3 : HT) (n3 : Nat) : R :=
 .ok (.val (.lit (.bool true))) T3 n3
noncomputable def g39_k6 (ih : FuncId → List HT → List AV → HT → Nat → R) (ro : List HT) (lp4 : AV → AV → AV → AV → AV → AV → AV → AV → AV → AV → HT → Nat → R) (y0 y1 y2 y3 y4 y10 y11 y39 y40 y41 y56 y57 y58 y59 y65 : AV) (T8 : HT) (n8 : Nat) : R :=
 callK (ih 39 ro [y56, y57, y58, y59, y65] T8 n8) fun x66_15 T9 n9 =>
 notK 390043 x66_15 fun x67_16 =>
 condK 390044 x67_16
 (
  .bad 390045
 )
 (
  addK Tryz.prog 3 (.tmp 41) (.const (.int .i64 (.ofNat 1))) 390046 y41 (.lit (.int .i64 (.ofNat 1))) fun x68_17 =>
  lp4 y0 y1 y2 y3 y4 y10 y11 y39 y40 x68_17 T9 n9
 )
noncomputable def g39_k5 (ih : FuncId → List HT → List AV → HT → Nat → R) (ro : List HT) (lp4 : AV → AV → AV → AV → AV → AV → AV → AV → AV → AV → HT → Nat → R) (y0 y1 y2 y3 y4 y10 y11 y13 y39 y40 y41 y55 : AV) (T7 : HT) (n7 : Nat) : R :=
 condK 390048 y4
 (
  g39_k6 ih ro lp4 y0 y1 y2 y3 (.lit (.bool true)) y10 y11 y39 y40 y41 y0 y13 y55 y3 (.lit (.bool true)) T7 n7
 )
 (
  faK 390050 y11 0 fun x62_18 =>
  ldK 390051 T7 ro x62_18 fun x63_19 =>
  eqK Tryz.prog 3 (.tmp 63) (.const (.int .i64 (.ofNat 44))) 390052 x63_19 (.lit (.int .i64 (.ofNat 44))) fun x64_20 =>
  g39_k6 ih ro lp4 y0 y1 y2 y3 (.lit (.bool false)) y10 y11 y39 y40 y41 y0 y13 y55 y3 x64_20 T7 n7
 )
noncomputable def g39_b4 (ih : FuncId → List HT → List AV → HT → Nat → R) (ro : List HT) (lp4 : AV → AV → AV → AV → AV → AV → AV → AV → AV → AV → HT → Nat → R) (y0 y1 y2 y3 y4 y10 y11 y39 y40 y41 : AV) (T6 : HT) (n6 : Nat) : R :=
 ltK Tryz.prog 3 (.tmp 41) (.tmp 40) 390028 y41 y40 fun x42_12 =>
 condK 390029 x42_12
 (
  iaK 390030 y39 y41 1 fun x43_13 =>
  ldK 390031 T6 ro x43_13 fun x44_14 =>
  condK 390054 y2
  (
   ncK 390057 y0 fun x49_21 =>
   faK 390058 x49_21 0 fun x50_22 =>
   ldK 390059 T6 ro x50_22 fun x51_23 =>
   lenSK 390060 x51_23 fun x52_24 =>
   subK Tryz.prog 3 (.tmp 52) (.const (.int .i64 (.ofNat 1))) 390061 x52_24 (.lit (.int .i64 (.ofNat 1))) fun x53_25 =>
   eqK Tryz.prog 3 (.tmp 47) (.tmp 53) 390062 y1 x53_25 fun x54_26 =>
   g39_k5 ih ro lp4 y0 y1 (.lit (.bool true)) y3 y4 y10 y11 x44_14 y39 y40 y41 x54_26 T6 n6
  )
  (
   g39_k5 ih ro lp4 y0 y1 (.lit (.bool false)) y3 y4 y10 y11 x44_14 y39 y40 y41 (.lit (.bool false)) T6 n6
  )
 )
 (
  g39_k1 ih ro y10 T6 n6
 )
noncomputable def g39_k3 (ih : FuncId → List HT → List AV → HT → Nat → R) (ro : List HT) (y0 y1 y2 y3 y4 y10 y11 y23 y34 : AV) (T5 : HT) (n5 : Nat) : R :=
 condK 390022 y34
 (
  faK 390023 y11 4 fun x38_9 =>
  ldK 390024 T5 ro x38_9 fun x39_10 =>
  lenSK 390025 x39_10 fun x40_11 =>
  lpf10 390027 (g39_b4 ih ro) 100000 y0 y1 y2 y3 y4 y10 y11 x39_10 x40_11 (.lit (.int .i64 (.ofNat 0))) T5 n5
 )
 (
  eqK Tryz.prog 3 (.tmp 23) (.const (.int .i64 (.ofNat 45))) 390065 y23 (.lit (.int .i64 (.ofNat 45))) fun x70_27 =>
  condK 390067 x70_27
  (
   .bad 390068
  )
  (
   g39_k1 ih ro y10 T5 n5
  )
 )
noncomputable def g39_k2 (ih : FuncId → List HT → List AV → HT → Nat → R) (ro : List HT) (y0 y1 y2 y3 y4 y10 y11 y23 y24 : AV) (T4 : HT) (n4 : Nat) : R :=
 condK 390012 y24
 (
  .bad 390013
 )
 (
  eqK Tryz.prog 3 (.tmp 23) (.const (.int .i64 (.ofNat 41))) 390014 y23 (.lit (.int .i64 (.ofNat 41))) fun x29_7 =>
  condK 390016 x29_7
  (
   .bad 390017
  )
  (
   eqK Tryz.prog 3 (.tmp 23) (.const (.int .i64 (.ofNat 42))) 390018 y23 (.lit (.int .i64 (.ofNat 42))) fun x32_8 =>
   condK 390020 x32_8
   (
    .bad 390021
   )
   (
    eqK Tryz.prog 3 (.tmp 23) (.const (.int .i64 (.ofNat 47))) 390069 y23 (.lit (.int .i64 (.ofNat 47))) fun x35_28 =>
    condK 390071 x35_28
    (
     g39_k3 ih ro y0 y1 y2 y3 y4 y10 y11 y23 (.lit (.bool true)) T4 n4
    )
    (
     eqK Tryz.prog 3 (.tmp 23) (.const (.int .i64 (.ofNat 43))) 390072 y23 (.lit (.int .i64 (.ofNat 43))) fun x36_29 =>
     condK 390074 x36_29
     (
      g39_k3 ih ro y0 y1 y2 y3 y4 y10 y11 y23 (.lit (.bool true)) T4 n4
     )
     (
      eqK Tryz.prog 3 (.tmp 23) (.const (.int .i64 (.ofNat 44))) 390075 y23 (.lit (.int .i64 (.ofNat 44))) fun x37_30 =>
      g39_k3 ih ro y0 y1 y2 y3 y4 y10 y11 y23 x37_30 T4 n4
     )
    )
   )
  )
 )
noncomputable def g39 (ih : FuncId → List HT → List AV → HT → Nat → R) (ro : List HT) (a0 a1 a2 a3 a4 : AV) (T : HT) (nx : Nat) : R :=
 fldK 390003 T ro a0 0 fun x18_1 =>
 iaK 390005 x18_1 a1 5 fun x20_2 =>
 ldAK 390006 T ro x20_2 5 fun x21_3 =>
 newK T nx (.obj [.lit (.int .i64 0), .lit (.int .i64 0), .lit (.int .i64 0), .lit (.string ⟨#[]⟩), .lit (.slice none 0 0)] 32) fun x11_4 T1 n1 =>
 stAK 390008 T1 x11_4 x21_3 5 fun T2 =>
 faK 390010 x11_4 0 fun x22_5 =>
 ldK 390011 T2 ro x22_5 fun x23_6 =>
 eqK Tryz.prog 3 (.tmp 23) (.const (.int .i64 (.ofNat 39))) 390077 x23_6 (.lit (.int .i64 (.ofNat 39))) fun x25_31 =>
 condK 390079 x25_31
 (
  g39_k2 ih ro a0 a1 a2 a3 a4 (.lit (.bool false)) x11_4 x23_6 (.lit (.bool true)) T2 n1
 )
 (
  eqK Tryz.prog 3 (.tmp 23) (.const (.int .i64 (.ofNat 40))) 390080 x23_6 (.lit (.int .i64 (.ofNat 40))) fun x26_32 =>
  g39_k2 ih ro a0 a1 a2 a3 a4 (.lit (.bool false)) x11_4 x23_6 x26_32 T2 n1
 )
theorem g39_ok (ih : FuncId → List HT → List AV → HT → Nat → R) (hI : ∀ f ro args T nx, GOk Tryz.prog envE f args ro T nx (ih f ro args T nx)) (ro : List HT) (a0 a1 a2 a3 a4 : AV) (T : HT) (nx : Nat) : GOk Tryz.prog envE 39 [a0, a1, a2, a3, a4] ro T nx (g39 ih ro a0 a1 a2 a3 a4 T nx) := by
 refine GOk.of_body Tryz.func39 rfl Tryz.ntmps39 (by kernel_rfl) rfl fun r T' n' h1 w0 base ρ0 its hS hP => ?_
 have X : CtxW envE ρ0 ro r T' n' := trivial
 unfold g39 at h1
 refine sr ?_
 refine as_ ?_
 refine dn ?_
 refine sr ?_
 refine mv ?_
 refine fl hS h1 Pdf.fo69_0 Pdf.one23 fun x18_1 h2 => ?_
 refine mv ?_
 refine vy (V.ia h2 rfl rfl Pdf.el23) fun x20_2 h3 => ?_
 refine vy (V.ldA hS h3 rfl Pdf.agg32) fun x21_3 h4 => ?_
 refine LV.alloc hS h4 rfl Pdf.zr32 rfl rfl rfl fun x11_4 T1 n1 h5 ρ its hS hdr => ?_
 refine LV.stA hS h5 rfl rfl rfl Pdf.agg32 rfl rfl rfl fun T2 its h6 hS => ?_
 refine dn ?_
 refine cs1 X 10 [] (g39_k1 ih ro) ?_ ?_
 ·
  refine sr ?_
  refine vy (V.fa h6 rfl Pdf.fo32_0) fun x22_5 h8 => ?_
  refine vy (V.ld hS h8 rfl Pdf.one3) fun x23_6 h9 => ?_
  refine dn ?_
  refine CV.block ?_
  refine cs9 X 0 1 2 3 4 10 11 23 24 [] (g39_k2 ih ro) ?_ ?_
  ·
   refine sr ?_
   refine vy (V.eq h9 rfl rfl) fun x25_31 h50 => ?_
   refine as_ ?_
   refine dn ?_
   refine CV.cond h50 rfl (fun e h51 => ?_) (fun e h51 => ?_)
   ·
    clear h1 h2 h3 h4 h5 h6 h8 h9 h50
    subst e
    refine CV.skip ?_
    exact pa9 hS h51 ⟨rfl, rfl, rfl, rfl, rfl, rfl, rfl, rfl, rfl, trivial⟩
   ·
    clear h1 h2 h3 h4 h5 h6 h8 h9 h50
    subst e
    refine CV.region ?_
    refine vy (V.eq h51 rfl rfl) fun x26_32 h52 => ?_
    refine as_ ?_
    refine LV.done ?_
    exact pa9 hS h52 ⟨rfl, rfl, rfl, rfl, rfl, rfl, rfl, rfl, rfl, trivial⟩
  ·
   intro y0 y1 y2 y3 y4 y10 y11 y23 y24 T4 n4 ρ its hS h10
   unfold g39_k2 at h10
   clear h1 h2 h3 h4 h5 h6 h8 h9
   refine CV.cond h10 rfl (fun e h11 => ?_) (fun e h11 => ?_)
   ·
    clear h10
    subst e
    cases h11
   ·
    clear h10
    subst e
    refine sr ?_
    refine vy (V.eq h11 rfl rfl) fun x29_7 h12 => ?_
    refine as_ ?_
    refine dn ?_
    refine CV.cond h12 rfl (fun e h13 => ?_) (fun e h13 => ?_)
    ·
     clear h11 h12
     subst e
     cases h13
    ·
     clear h11 h12
     subst e
     refine sr ?_
     refine vy (V.eq h13 rfl rfl) fun x32_8 h14 => ?_
     refine as_ ?_
     refine dn ?_
     refine CV.cond h14 rfl (fun e h15 => ?_) (fun e h15 => ?_)
     ·
      clear h13 h14
      subst e
      cases h15
     ·
      clear h13 h14
      subst e
      refine cs9 X 0 1 2 3 4 10 11 23 34 [] (g39_k3 ih ro) ?_ ?_
      ·
       refine sr ?_
       refine vy (V.eq h15 rfl rfl) fun x35_28 h45 => ?_
       refine as_ ?_
       refine dn ?_
       refine CV.cond h45 rfl (fun e h46 => ?_) (fun e h46 => ?_)
       ·
        clear h15 h45
        subst e
        refine CV.skip ?_
        exact pa9 hS h46 ⟨rfl, rfl, rfl, rfl, rfl, rfl, rfl, rfl, rfl, trivial⟩
       ·
        clear h15 h45
        subst e
        refine sr ?_
        refine vy (V.eq h46 rfl rfl) fun x36_29 h47 => ?_
        refine as_ ?_
        refine dn ?_
        refine CV.cond h47 rfl (fun e h48 => ?_) (fun e h48 => ?_)
        ·
         clear h46 h47
         subst e
         refine CV.skip ?_
         exact pa9 hS h48 ⟨rfl, rfl, rfl, rfl, rfl, rfl, rfl, rfl, rfl, trivial⟩
        ·
         clear h46 h47
         subst e
         refine CV.region ?_
         refine vy (V.eq h48 rfl rfl) fun x37_30 h49 => ?_
         refine as_ ?_
         refine LV.done ?_
         exact pa9 hS h49 ⟨rfl, rfl, rfl, rfl, rfl, rfl, rfl, rfl, rfl, trivial⟩
      ·
       intro y0 y1 y2 y3 y4 y10 y11 y23 y34 T5 n5 ρ its hS h16
       unfold g39_k3 at h16
       clear h15
       refine CV.cond h16 rfl (fun e h17 => ?_) (fun e h17 => ?_)
       ·
        clear h16
        subst e
        refine sr ?_
        refine vy (V.fa h17 rfl Pdf.fo32_4) fun x38_9 h18 => ?_
        refine vy (V.ld hS h18 rfl Pdf.one30) fun x39_10 h19 => ?_
        refine vy (V.lenS h19 rfl Pdf.ls30) fun x40_11 h20 => ?_
        refine mv ?_
        refine dn ?_
        refine CV.block ?_
        refine cl10 X 0 1 2 3 4 10 11 39 40 41 [] hS h20 ⟨rfl, rfl, rfl, rfl, rfl, rfl, rfl, rfl, rfl, rfl, trivial⟩ ?_
        intro f4 y0 y1 y2 y3 y4 y10 y11 y39 y40 y41 T6 n6 ρ its hS h21
        unfold g39_b4 at h21
        clear h17 h18 h19 h20
        refine sr ?_
        refine vy (V.lt h21 rfl rfl) fun x42_12 h22 => ?_
        refine dn ?_
        refine CV.seq ?_
        refine CV.cond h22 rfl (fun e h23 => ?_) (fun e h23 => ?_)
        ·
         clear h21 h22
         subst e
         refine CV.skip ?_
         refine PV.thenN ?_
         refine CV.seq ?_
         refine CV.block ?_
         refine sr ?_
         refine vy (V.ia h23 rfl rfl Pdf.el30) fun x43_13 h24 => ?_
         refine vy (V.ld hS h24 rfl Pdf.one3) fun x44_14 h25 => ?_
         refine as_ ?_
         refine dn ?_
         refine sr ?_
         refine mv ?_
         refine mv ?_
         refine ls12 X 0 1 2 3 4 10 11 13 39 40 41 55 [] (g39_k5 ih ro (lpf10 390027 (g39_b4 ih ro) f4)) 9 ?_ ?_
         ·
          rcases condK_inv h25 with ⟨e, h36⟩ | ⟨e, h36⟩
          ·
           clear h23 h24 h25
           subst e
           refine mv ?_
           refine mv ?_
           refine vy (V.nc h36 rfl) fun x49_21 h37 => ?_
           refine vy (V.fa h37 rfl Pdf.fo69_0) fun x50_22 h38 => ?_
           refine vy (V.ld hS h38 rfl Pdf.one23) fun x51_23 h39 => ?_
           refine vy (V.lenS h39 rfl Pdf.ls23) fun x52_24 h40 => ?_
           refine vy (V.sub h40 rfl rfl) fun x53_25 h41 => ?_
           refine vy (V.eq h41 rfl rfl) fun x54_26 h42 => ?_
           refine pu ?_
           exact la12 hS h42 ⟨rfl, rfl, rfl, rfl, rfl, rfl, rfl, rfl, rfl, rfl, rfl, rfl, trivial⟩
          ·
           clear h23 h24 h25
           subst e
           refine sk ?_
           refine sk ?_
           refine sk ?_
           refine sk ?_
           refine sk ?_
           refine sk ?_
           refine sk ?_
           refine sk ?_
           refine pu ?_
           exact la12 hS h36 ⟨rfl, rfl, rfl, rfl, rfl, rfl, rfl, rfl, rfl, rfl, rfl, rfl, trivial⟩
         ·
          intro y0 y1 y2 y3 y4 y10 y11 y13 y39 y40 y41 y55 T7 n7 ρ its hS h26
          unfold g39_k5 at h26
          clear h23 h24 h25
          refine as_ ?_
          refine dn ?_
          refine sr ?_
          refine mv ?_
          refine mv ?_
          refine mv ?_
          refine mv ?_
          refine mv ?_
          refine mv ?_
          refine ls15 X 0 1 2 3 4 10 11 39 40 41 56 57 58 59 65 [] (g39_k6 ih ro (lpf10 390027 (g39_b4 ih ro) f4)) 4 ?_ ?_
          ·
           rcases condK_inv h26 with ⟨e, h32⟩ | ⟨e, h32⟩
           ·
            clear h26
            subst e
            refine sk ?_
            refine sk ?_
            refine sk ?_
            refine pu ?_
            exact la15 hS h32 ⟨rfl, rfl, rfl, rfl, rfl, rfl, rfl, rfl, rfl, rfl, rfl, rfl, rfl, rfl, rfl, trivial⟩
           ·
            clear h26
            subst e
            refine vy (V.fa h32 rfl Pdf.fo32_0) fun x62_18 h33 => ?_
            refine vy (V.ld hS h33 rfl Pdf.one3) fun x63_19 h34 => ?_
            refine vy (V.eq h34 rfl rfl) fun x64_20 h35 => ?_
            refine pu ?_
            exact la15 hS h35 ⟨rfl, rfl, rfl, rfl, rfl, rfl, rfl, rfl, rfl, rfl, rfl, rfl, rfl, rfl, rfl, trivial⟩
          ·
           intro y0 y1 y2 y3 y4 y10 y11 y39 y40 y41 y56 y57 y58 y59 y65 T8 n8 ρ its hS h27
           unfold g39_k6 at h27
           clear h26
           refine LV.call hS h27 (hI _ _ _ _ _) hP rfl rfl rfl rfl fun x66_15 T9 n9 h28 ρ its hS => ?_
           refine vy (V.not h28 rfl) fun x67_16 h29 => ?_
           refine dn ?_
           refine CV.cond h29 rfl (fun e h30 => ?_) (fun e h30 => ?_)
           ·
            clear h27 h28 h29
            subst e
            cases h30
           ·
            clear h27 h28 h29
            subst e
            refine CV.skip ?_
            refine PV.blockN ?_
            refine PV.thenN ?_
            refine CV.region ?_
            refine vy (V.add h30 rfl rfl) fun x68_17 h31 => ?_
            refine mv ?_
            refine LV.done ?_
            exact pb10 hS h31 ⟨rfl, rfl, rfl, rfl, rfl, rfl, rfl, rfl, rfl, rfl, trivial⟩
        ·
         clear h21 h22
         subst e
         refine CV.exit ?_
         refine PV.thenE ?_
         refine PV.thenE ?_
         refine PV.blockE ?_
         refine PV.blockN ?_
         exact pa1 hS h23 ⟨rfl, trivial⟩
       ·
        clear h16
        subst e
        refine sr ?_
        refine vy (V.eq h17 rfl rfl) fun x70_27 h43 => ?_
        refine as_ ?_
        refine dn ?_
        refine CV.cond h43 rfl (fun e h44 => ?_) (fun e h44 => ?_)
        ·
         clear h17 h43
         subst e
         cases h44
        ·
         clear h17 h43
         subst e
         refine CV.skip ?_
         refine PV.blockN ?_
         exact pa1 hS h44 ⟨rfl, trivial⟩
 ·
  intro y10 T3 n3 ρ its hS h7
  unfold g39_k1 at h7
  clear h1 h2 h3 h4 h5 h6
  refine sr ?_
  refine as_ ?_
  refine dn ?_
  refine CV.ret ?_
  cases h7
  exact PV.ret (by simp) Tryz.results39 hS (RS.tmp rfl RS.nil) rfl
noncomputable def ap4 (ih : FuncId → List HT → List AV → HT → Nat → R) (f : FuncId) (ro : List HT) (args : List AV) (T : HT) (nx : Nat) : R :=
  Bool.rec (motive := fun _ => R) (.bad 2) (List.rec (motive := fun _ => R) (.bad 1) (fun a0 l0 _ => List.rec (motive := fun _ => R) (.bad 1) (fun a1 l1 _ => List.rec (motive := fun _ => R) (.bad 1) (fun a2 l2 _ => List.rec (motive := fun _ => R) (.bad 1) (fun a3 l3 _ => List.rec (motive := fun _ => R) (.bad 1) (fun a4 l4 _ => List.rec (motive := fun _ => R) (g39 ih ro a0 a1 a2 a3 a4 T nx) (fun _ _ _ => .bad 1) l4) l3) l2) l1) l0) args) (Nat.beq f 39)
noncomputable def scc4 (fuel : Nat) : FuncId → List HT → List AV → HT → Nat → R :=
  Nat.rec (motive := fun _ => FuncId → List HT → List AV → HT → Nat → R) (fun _ _ _ _ _ => .bad 3) (fun _ ih => ap4 ih) fuel
theorem ap4_ok (ih : FuncId → List HT → List AV → HT → Nat → R) (hI : ∀ f ro args T nx, GOk Tryz.prog envE f args ro T nx (ih f ro args T nx)) (f : FuncId) (ro : List HT) (args : List AV) (T : HT) (nx : Nat) : GOk Tryz.prog envE f args ro T nx (ap4 ih f ro args T nx) := by
  unfold ap4
  refine recb_go (fun hb => ?_) (fun _ => ?_)
  · obtain rfl := beqT hb
    rcases args with _ | ⟨a0, l0⟩
    · exact GOk.bad
    rcases l0 with _ | ⟨a1, l1⟩
    · exact GOk.bad
    rcases l1 with _ | ⟨a2, l2⟩
    · exact GOk.bad
    rcases l2 with _ | ⟨a3, l3⟩
    · exact GOk.bad
    rcases l3 with _ | ⟨a4, l4⟩
    · exact GOk.bad
    rcases l4 with _ | ⟨_, _⟩
    · exact g39_ok _ hI _ _ _ _ _ _ _ _ 
    · exact GOk.bad
  · exact GOk.bad
theorem scc4_ok : ∀ (fuel : Nat) (f : FuncId) (ro : List HT) (args : List AV) (T : HT) (nx : Nat), GOk Tryz.prog envE f args ro T nx (scc4 fuel f ro args T nx)
  | 0, _, _, _, _, _ => GOk.bad
  | fuel + 1, f, ro, args, T, nx => ap4_ok (scc4 fuel) (scc4_ok fuel) f ro args T nx
noncomputable def g12_k4 (ro : List HT) (y2 y77 : AV) (T10 : HT) (n10 : Nat) : R :=
 condK 120070 y77
 (
  .bad 120071
 )
 (
  .ok (.val (.lit (.nilIface))) T10 n10
 )
noncomputable def g12_k3 (ro : List HT) (y2 y3 y6 y71 : AV) (T9 : HT) (n9 : Nat) : R :=
 condK 120073 y71
 (
  g12_k4 ro y2 (.lit (.bool true)) T9 n9
 )
 (
  callK (scc4 4000 39 ro [y3, y6, (.lit (.bool true)), (.lit (.bool false)), (.lit (.bool false))] T9 n9) fun x75_29 T11 n11 =>
  notK 120078 x75_29 fun x76_30 =>
  g12_k4 ro y2 x76_30 T11 n11
 )
noncomputable def g12_k2 (ro : List HT) (y2 y3 y6 y62 : AV) (T8 : HT) (n8 : Nat) : R :=
 condK 120080 y62
 (
  g12_k3 ro y2 y3 y6 (.lit (.bool true)) T8 n8
 )
 (
  ncK 120083 y3 fun x65_31 =>
  faK 120084 x65_31 1 fun x66_32 =>
  ldK 120085 T8 ro x66_32 fun x67_33 =>
  cutHiK 120087 T8 ro x67_33 y6 fun x69_34 =>
  callK (g38 ro x69_34 (.lit (.bool false)) T8 n8) fun x70_35 T12 n12 =>
  g12_k3 ro y2 y3 y6 x70_35 T12 n12
 )
noncomputable def g12_b1 (ro : List HT) (lp1 : AV → AV → AV → AV → AV → AV → HT → Nat → R) (y0 y2 y3 y17 y18 y19 : AV) (T3 : HT) (n3 : Nat) : R :=
 ltK Tryz.prog 3 (.tmp 19) (.tmp 18) 120018 y19 y18 fun x20_8 =>
 condK 120019 x20_8
 (
  iaK 120021 y17 y19 5 fun x22_9 =>
  ldAK 120022 T3 ro x22_9 5 fun x23_10 =>
  newK T3 n3 (.obj [.lit (.int .i64 0), .lit (.int .i64 0), .lit (.int .i64 0), .lit (.string ⟨#[]⟩), .lit (.slice none 0 0)] 32) fun x5_11 T4 n4 =>
  stAK 120025 T4 x5_11 x23_10 5 fun T5 =>
  faK 120026 x5_11 4 fun x24_12 =>
  ldK 120027 T5 ro x24_12 fun x25_13 =>
  ncK 120030 y3 fun x28_14 =>
  faK 120031 x28_14 1 fun x29_15 =>
  ldK 120032 T5 ro x29_15 fun x30_16 =>
  callK (g36 ro x25_13 y19 x30_16 T5 n4) fun x31_17 T6 n6 =>
  notK 120034 x31_17 fun x32_18 =>
  condK 120036 x32_18
  (
   condK 120039 (.lit (.bool true))
   (
    condK 120041 (.lit (.bool true))
    (
     .bad 120042
    )
    (
     .bad 0
    )
   )
   (
    .bad 0
   )
  )
  (
   faK 120043 x5_11 1 fun x34_19 =>
   ldK 120044 T6 ro x34_19 fun x35_20 =>
   neK Tryz.prog 3 (.tmp 35) (.const (.int .i64 (.ofNat 0))) 120045 x35_20 (.lit (.int .i64 (.ofNat 0))) fun x36_21 =>
   condK 120048 x36_21
   (
    condK 120050 (.lit (.bool true))
    (
     .bad 120051
    )
    (
     .bad 0
    )
   )
   (
    ldAK 120053 T6 ro x5_11 5 fun x40_22 =>
    callK (g37 ro y3 x40_22 T6 n6) fun x41_23 T7 n7 =>
    notK 120055 x41_23 fun x42_24 =>
    condK 120057 x42_24
    (
     .bad 120058
    )
    (
     addK Tryz.prog 3 (.tmp 19) (.const (.int .i64 (.ofNat 1))) 120059 y19 (.lit (.int .i64 (.ofNat 1))) fun x49_25 =>
     lp1 y0 y2 y3 y17 y18 x49_25 T7 n7
    )
   )
  )
 )
 (
  lenSK 120062 y0 fun x51_26 =>
  subK Tryz.prog 3 (.tmp 51) (.const (.int .i64 (.ofNat 1))) 120063 x51_26 (.lit (.int .i64 (.ofNat 1))) fun x52_27 =>
  ltK Tryz.prog 3 (.tmp 53) (.const (.int .i64 (.ofNat 0))) 120066 x52_27 (.lit (.int .i64 (.ofNat 0))) fun x54_28 =>
  condK 120090 x54_28
  (
   g12_k2 ro y2 y3 x52_27 (.lit (.bool true)) T3 n3
  )
  (
   iaK 120094 y0 x52_27 5 fun x58_36 =>
   faK 120095 x58_36 0 fun x59_37 =>
   ldK 120096 T3 ro x59_37 fun x60_38 =>
   neK Tryz.prog 3 (.tmp 60) (.const (.int .i64 (.ofNat 47))) 120097 x60_38 (.lit (.int .i64 (.ofNat 47))) fun x61_39 =>
   g12_k2 ro y2 y3 x52_27 x61_39 T3 n3
  )
 )
noncomputable def g12 (ro : List HT) (a0 : AV) (T : HT) (nx : Nat) : R :=
 lenSK 120003 a0 fun x8_1 =>
 gtK Tryz.prog 3 (.tmp 8) (.const (.int .i64 (.ofNat 1048576))) 120004 x8_1 (.lit (.int .i64 (.ofNat 1048576))) fun x9_2 =>
 condK 120005 x9_2
 (
  .bad 120006
 )
 (
  lenSK 120009 a0 fun x13_3 =>
  mkK 120010 T nx 4 1 (.lit (.bool false)) x13_3 fun x14_4 T1 n1 =>
  optK 120011 (bld69 [(0, a0), (1, x14_4)]) fun x15_5 =>
  boxK 120012 T1 n1 x15_5 69 fun x16_6 T2 n2 =>
  lenSK 120015 a0 fun x18_7 =>
  lpf6 120017 (g12_b1 ro) 100000 a0 (.lit (.nilIface)) x16_6 a0 x18_7 (.lit (.int .i64 (.ofNat 0))) T2 n2
 )
theorem g12_ok (ro : List HT) (a0 : AV) (T : HT) (nx : Nat) : GOk Tryz.prog envE 12 [a0] ro T nx (g12 ro a0 T nx) := by
 refine GOk.of_body Tryz.func12 rfl Tryz.ntmps12 (by kernel_rfl) rfl fun r T' n' h1 w0 base ρ0 its hS hP => ?_
 have X : CtxW envE ρ0 ro r T' n' := trivial
 unfold g12 at h1
 refine sr ?_
 refine as_ ?_
 refine dn ?_
 refine CV.seq ?_
 refine sr ?_
 refine mv ?_
 refine vy (V.lenS h1 rfl Pdf.ls23) fun x8_1 h2 => ?_
 refine vy (V.gt h2 rfl rfl) fun x9_2 h3 => ?_
 refine dn ?_
 refine CV.cond h3 rfl (fun e h4 => ?_) (fun e h4 => ?_)
 ·
  clear h1 h2 h3
  subst e
  cases h4
 ·
  clear h1 h2 h3
  subst e
  refine CV.skip ?_
  refine PV.thenN ?_
  refine sr ?_
  refine mv ?_
  refine mv ?_
  refine vy (V.lenS h4 rfl Pdf.ls23) fun x13_3 h5 => ?_
  refine LV.mk hS h5 rfl rfl rfl Pdf.el67 rfl rfl rfl rfl fun x14_4 T1 n1 h6 ρ its hS hdr => ?_
  refine vy (V.bld h6 rfl) fun x15_5 h7 => ?_
  refine LV.box hS h7 rfl rfl rfl rfl rfl fun x16_6 T2 n2 h8 ρ its hS hdr => ?_
  refine as_ ?_
  refine dn ?_
  refine CV.seq ?_
  refine sr ?_
  refine mv ?_
  refine vy (V.lenS h8 rfl Pdf.ls23) fun x18_7 h9 => ?_
  refine mv ?_
  refine dn ?_
  refine CV.block ?_
  refine cl6 X 0 2 3 17 18 19 [] hS h9 ⟨rfl, rfl, rfl, rfl, rfl, rfl, trivial⟩ ?_
  intro f1 y0 y2 y3 y17 y18 y19 T3 n3 ρ its hS h10
  unfold g12_b1 at h10
  clear h4 h5 h6 h7 h8 h9
  refine sr ?_
  refine vy (V.lt h10 rfl rfl) fun x20_8 h11 => ?_
  refine dn ?_
  refine CV.seq ?_
  refine CV.cond h11 rfl (fun e h12 => ?_) (fun e h12 => ?_)
  ·
   clear h10 h11
   subst e
   refine CV.skip ?_
   refine PV.thenN ?_
   refine CV.seq ?_
   refine CV.block ?_
   refine sr ?_
   refine mv ?_
   refine vy (V.ia h12 rfl rfl Pdf.el23) fun x22_9 h13 => ?_
   refine vy (V.ldA hS h13 rfl Pdf.agg32) fun x23_10 h14 => ?_
   refine LV.alloc hS h14 rfl Pdf.zr32 rfl rfl rfl fun x5_11 T4 n4 h15 ρ its hS hdr => ?_
   refine as_ ?_
   refine LV.stA hS h15 rfl rfl rfl Pdf.agg32 rfl rfl rfl fun T5 its h16 hS => ?_
   refine dn ?_
   refine CV.seq ?_
   refine CV.regionM [(0, .anywhere), (1, .held), (2, .anywhere), (3, .anywhere), (4, .anywhere), (5, .anywhere), (6, .held), (7, .alone), (8, .alone), (9, .alone), (10, .alone), (11, .alone), (12, .alone), (13, .alone), (14, .alone), (15, .anywhere), (16, .alone), (17, .alone), (18, .alone), (19, .alone)] rfl (fun c a a' w hd hq => PanicOk.root (P := Tryz.prog) (fn := Tryz.f12) (w0 := w0) (base := base) (E := envE) (ro := ro) (r := r) (T' := T') (n' := n') (ρ0 := ρ0) c a a' w hd hq) (by kernel_rfl) ?_
   refine MV.lift0 (i := 0) rfl (V.fa h16 rfl Pdf.fo32_4) rfl rfl rfl fun x24_12 h17 => ?_
   refine MV.lift1 (i := 1) rfl (fun _ z => z) (V.ld hS h17 rfl Pdf.one30) rfl rfl rfl [] (by kernel_rfl) fun x25_13 h18 => ?_
   refine MV.step0 (i := 2) rfl (VAL.move rfl) rfl rfl rfl ?_
   refine MV.step0 (i := 3) rfl (VAL.move rfl) rfl rfl rfl ?_
   refine MV.lift0 (i := 4) rfl (V.nc h18 rfl) rfl rfl rfl fun x28_14 h19 => ?_
   refine MV.lift0 (i := 5) rfl (V.fa h19 rfl Pdf.fo69_1) rfl rfl rfl fun x29_15 h20 => ?_
   refine MV.lift1 (i := 6) rfl (fun _ z => z) (V.ld hS h20 rfl Pdf.one67) rfl rfl rfl [1] (by kernel_rfl) fun x30_16 h21 => ?_
   refine MV.force (i := 7) rfl ?_
   refine LV.call hS h21 (g36_ok _ _ _ _ _ _ ) hP rfl rfl rfl rfl fun x31_17 T6 n6 h22 ρ its hS => ?_
   refine LV.nextM [] (by kernel_rfl) (fun z => absurd rfl z) ?_
   refine MV.force (i := 8) rfl ?_
   refine vy (V.not h22 rfl) fun x32_18 h23 => ?_
   refine LV.nextM [] (by kernel_rfl) (fun z => absurd rfl z) ?_
   refine MV.force (i := 9) rfl ?_
   refine mv ?_
   refine LV.nextM [] (by kernel_rfl) (fun z => absurd rfl z) ?_
   rcases condK_inv h23 with ⟨e, h24⟩ | ⟨e, h24⟩
   ·
    clear h12 h13 h14 h15 h16 h17 h18 h19 h20 h21 h22 h23
    subst e
    refine MV.force (i := 10) rfl ?_
    refine sk ?_
    refine LV.nextM [] (by kernel_rfl) (fun z => absurd rfl z) ?_
    refine MV.force (i := 11) rfl ?_
    refine sk ?_
    refine LV.nextM [] (by kernel_rfl) (fun z => absurd rfl z) ?_
    refine MV.force (i := 12) rfl ?_
    refine sk ?_
    refine LV.nextM [] (by kernel_rfl) (fun z => absurd rfl z) ?_
    refine MV.force (i := 13) rfl ?_
    refine pu ?_
    refine LV.nextM [] (by kernel_rfl) (fun z => absurd rfl z) ?_
    refine MV.force (i := 14) rfl ?_
    refine mv ?_
    refine LV.nextM [] (by kernel_rfl) (fun z => absurd rfl z) ?_
    rcases condK_inv h24 with ⟨e, h25⟩ | ⟨e, h25⟩
    ·
     clear h24
     refine MV.skip0 (i := 15) rfl rfl rfl rfl ?_
     refine MV.force (i := 16) rfl ?_
     refine sk ?_
     refine LV.nextM [] (by kernel_rfl) (fun z => absurd rfl z) ?_
     refine MV.force (i := 17) rfl ?_
     refine sk ?_
     refine LV.nextM [] (by kernel_rfl) (fun z => absurd rfl z) ?_
     refine MV.force (i := 18) rfl ?_
     refine sk ?_
     refine LV.nextM [] (by kernel_rfl) (fun z => absurd rfl z) ?_
     refine MV.force (i := 19) rfl ?_
     refine pu ?_
     refine LV.nextM [] (by kernel_rfl) (fun z => absurd rfl z) ?_
     refine mdn ?_
     refine CV.cond h25 rfl (fun e h26 => ?_) (fun e h26 => ?_)
     ·
      clear h25
      cases h26
     ·
      clear h25
      cases e
    ·
     clear h24
     cases e
   ·
    clear h12 h13 h14 h15 h16 h17 h18 h19 h20 h21 h22 h23
    subst e
    refine MV.force (i := 10) rfl ?_
    refine vy (V.fa h24 rfl Pdf.fo32_1) fun x34_19 h27 => ?_
    refine LV.nextM [] (by kernel_rfl) (fun z => absurd rfl z) ?_
    refine MV.force (i := 11) rfl ?_
    refine vy (V.ld hS h27 rfl Pdf.one3) fun x35_20 h28 => ?_
    refine LV.nextM [] (by kernel_rfl) (fun z => absurd rfl z) ?_
    refine MV.force (i := 12) rfl ?_
    refine vy (V.ne h28 rfl rfl) fun x36_21 h29 => ?_
    refine LV.nextM [] (by kernel_rfl) (fun z => absurd rfl z) ?_
    refine MV.force (i := 13) rfl ?_
    refine pu ?_
    refine LV.nextM [] (by kernel_rfl) (fun z => absurd rfl z) ?_
    refine MV.force (i := 14) rfl ?_
    refine mv ?_
    refine LV.nextM [] (by kernel_rfl) (fun z => absurd rfl z) ?_
    rcases condK_inv h29 with ⟨e, h30⟩ | ⟨e, h30⟩
    ·
     clear h24 h27 h28 h29
     subst e
     refine MV.skip0 (i := 15) rfl rfl rfl rfl ?_
     refine MV.force (i := 16) rfl ?_
     refine sk ?_
     refine LV.nextM [] (by kernel_rfl) (fun z => absurd rfl z) ?_
     refine MV.force (i := 17) rfl ?_
     refine sk ?_
     refine LV.nextM [] (by kernel_rfl) (fun z => absurd rfl z) ?_
     refine MV.force (i := 18) rfl ?_
     refine sk ?_
     refine LV.nextM [] (by kernel_rfl) (fun z => absurd rfl z) ?_
     refine MV.force (i := 19) rfl ?_
     refine pu ?_
     refine LV.nextM [] (by kernel_rfl) (fun z => absurd rfl z) ?_
     refine mdn ?_
     refine CV.cond h30 rfl (fun e h31 => ?_) (fun e h31 => ?_)
     ·
      clear h30
      cases h31
     ·
      clear h30
      cases e
    ·
     clear h24 h27 h28 h29
     subst e
     refine MV.step0 (i := 15) rfl (VAL.move rfl) rfl rfl rfl ?_
     refine MV.force (i := 16) rfl ?_
     refine vy (V.ldA hS h30 rfl Pdf.agg32) fun x40_22 h32 => ?_
     refine LV.nextM [] (by kernel_rfl) (fun z => absurd rfl z) ?_
     refine MV.force (i := 17) rfl ?_
     refine LV.call hS h32 (g37_ok _ _ _ _ _ ) hP rfl rfl rfl rfl fun x41_23 T7 n7 h33 ρ its hS => ?_
     refine LV.nextM [] (by kernel_rfl) (fun z => absurd rfl z) ?_
     refine MV.force (i := 18) rfl ?_
     refine vy (V.not h33 rfl) fun x42_24 h34 => ?_
     refine LV.nextM [] (by kernel_rfl) (fun z => absurd rfl z) ?_
     refine MV.force (i := 19) rfl ?_
     refine pu ?_
     refine LV.nextM [] (by kernel_rfl) (fun z => absurd rfl z) ?_
     refine mdn ?_
     refine CV.cond h34 rfl (fun e h35 => ?_) (fun e h35 => ?_)
     ·
      clear h30 h32 h33 h34
      subst e
      cases h35
     ·
      clear h30 h32 h33 h34
      subst e
      refine CV.skip ?_
      refine PV.blockN ?_
      refine PV.thenN ?_
      refine CV.region ?_
      refine vy (V.add h35 rfl rfl) fun x49_25 h36 => ?_
      refine mv ?_
      refine LV.done ?_
      exact pb6 hS h36 ⟨rfl, rfl, rfl, rfl, rfl, rfl, trivial⟩
  ·
   clear h10 h11
   subst e
   refine CV.exit ?_
   refine PV.thenE ?_
   refine PV.thenE ?_
   refine PV.blockE ?_
   refine PV.thenN ?_
   refine sr ?_
   refine mv ?_
   refine vy (V.lenS h12 rfl Pdf.ls23) fun x51_26 h37 => ?_
   refine vy (V.sub h37 rfl rfl) fun x52_27 h38 => ?_
   refine as_ ?_
   refine dn ?_
   refine CV.seq ?_
   refine sr ?_
   refine mv ?_
   refine vy (V.lt h38 rfl rfl) fun x54_28 h39 => ?_
   refine mv ?_
   refine ls4 X 2 3 6 62 [] (g12_k2 ro) 7 ?_ ?_
   ·
    rcases condK_inv h39 with ⟨e, h53⟩ | ⟨e, h53⟩
    ·
     clear h12 h37 h38 h39
     subst e
     refine sk ?_
     refine sk ?_
     refine sk ?_
     refine sk ?_
     refine sk ?_
     refine sk ?_
     refine pu ?_
     exact la4 hS h53 ⟨rfl, rfl, rfl, rfl, trivial⟩
    ·
     clear h12 h37 h38 h39
     subst e
     refine mv ?_
     refine mv ?_
     refine vy (V.ia h53 rfl rfl Pdf.el23) fun x58_36 h54 => ?_
     refine vy (V.fa h54 rfl Pdf.fo32_0) fun x59_37 h55 => ?_
     refine vy (V.ld hS h55 rfl Pdf.one3) fun x60_38 h56 => ?_
     refine vy (V.ne h56 rfl rfl) fun x61_39 h57 => ?_
     refine pu ?_
     exact la4 hS h57 ⟨rfl, rfl, rfl, rfl, trivial⟩
   ·
    intro y2 y3 y6 y62 T8 n8 ρ its hS h40
    unfold g12_k2 at h40
    clear h12 h37 h38 h39
    refine mv ?_
    refine ls4 X 2 3 6 71 [] (g12_k3 ro) 8 ?_ ?_
    ·
     rcases condK_inv h40 with ⟨e, h47⟩ | ⟨e, h47⟩
     ·
      clear h40
      subst e
      refine sk ?_
      refine sk ?_
      refine sk ?_
      refine sk ?_
      refine sk ?_
      refine sk ?_
      refine sk ?_
      refine pu ?_
      exact la4 hS h47 ⟨rfl, rfl, rfl, rfl, trivial⟩
     ·
      clear h40
      subst e
      refine mv ?_
      refine vy (V.nc h47 rfl) fun x65_31 h48 => ?_
      refine vy (V.fa h48 rfl Pdf.fo69_1) fun x66_32 h49 => ?_
      refine vy (V.ld hS h49 rfl Pdf.one67) fun x67_33 h50 => ?_
      refine mv ?_
      refine vy (V.cutHi hS h50 rfl rfl Pdf.el67) fun x69_34 h51 => ?_
      refine LV.call hS h51 (g38_ok _ _ _ _ _ ) hP rfl rfl rfl rfl fun x70_35 T12 n12 h52 ρ its hS => ?_
      refine pu ?_
      exact la4 hS h52 ⟨rfl, rfl, rfl, rfl, trivial⟩
    ·
     intro y2 y3 y6 y71 T9 n9 ρ its hS h41
     unfold g12_k3 at h41
     clear h40
     refine mv ?_
     refine ls2 X 2 77 [] (g12_k4 ro) 5 ?_ ?_
     ·
      rcases condK_inv h41 with ⟨e, h44⟩ | ⟨e, h44⟩
      ·
       clear h41
       subst e
       refine sk ?_
       refine sk ?_
       refine sk ?_
       refine sk ?_
       refine pu ?_
       exact la2 hS h44 ⟨rfl, rfl, trivial⟩
      ·
       clear h41
       subst e
       refine mv ?_
       refine mv ?_
       refine LV.call hS h44 (scc4_ok _ _ _ _ _ _) hP rfl rfl rfl rfl fun x75_29 T11 n11 h45 ρ its hS => ?_
       refine vy (V.not h45 rfl) fun x76_30 h46 => ?_
       refine pu ?_
       exact la2 hS h46 ⟨rfl, rfl, trivial⟩
     ·
      intro y2 y77 T10 n10 ρ its hS h42
      unfold g12_k4 at h42
      clear h41
      refine dn ?_
      refine CV.cond h42 rfl (fun e h43 => ?_) (fun e h43 => ?_)
      ·
       clear h42
       subst e
       cases h43
      ·
       clear h42
       subst e
       refine CV.skip ?_
       refine PV.thenN ?_
       refine sr ?_
       refine as_ ?_
       refine dn ?_
       refine CV.ret ?_
       cases h43
       exact PV.ret (by simp) Tryz.results12 hS (RS.tmp rfl RS.nil) rfl
noncomputable def g17 (ro : List HT) (a0 a1 : AV) (T : HT) (nx : Nat) : R :=
 newK T nx (.obj [.lit (.int .i64 0), .lit (.bool false), .lit (.int .i64 0), .lit (.bool false), .lit (.string ⟨#[]⟩)] 36) fun x4_1 T1 n1 =>
 eqK Tryz.prog 3 (.tmp 5) (.const (.int .i64 (.ofNat 0))) 170003 a0 (.lit (.int .i64 (.ofNat 0))) fun x6_2 =>
 condK 170004 x6_2
 (
  .bad 170005
 )
 (
  optK 170008 (bld36 [(0, a0), (1, (.lit (.bool true))), (2, a1)]) fun x10_3 =>
  stAK 170009 T1 x4_1 x10_3 5 fun T2 =>
  ldAK 170010 T2 ro x4_1 5 fun x4_4 =>
  .ok (.val x4_4) T2 n1
 )
theorem g17_ok (ro : List HT) (a0 a1 : AV) (T : HT) (nx : Nat) : GOk Tryz.prog envE 17 [a0, a1] ro T nx (g17 ro a0 a1 T nx) := by
 refine GOk.of_body Tryz.func17 rfl Tryz.ntmps17 (by kernel_rfl) rfl fun r T' n' h1 w0 base ρ0 its hS hP => ?_
 have X : CtxW envE ρ0 ro r T' n' := trivial
 unfold g17 at h1
 refine sr ?_
 refine LV.alloc hS h1 rfl Pdf.zr36 rfl rfl rfl fun x4_1 T1 n1 h2 ρ its hS hdr => ?_
 refine dn ?_
 refine CV.seq ?_
 refine sr ?_
 refine mv ?_
 refine vy (V.eq h2 rfl rfl) fun x6_2 h3 => ?_
 refine dn ?_
 refine CV.cond h3 rfl (fun e h4 => ?_) (fun e h4 => ?_)
 ·
  clear h1 h2 h3
  subst e
  cases h4
 ·
  clear h1 h2 h3
  subst e
  refine CV.skip ?_
  refine PV.thenN ?_
  refine sr ?_
  refine mv ?_
  refine mv ?_
  refine vy (V.bld h4 rfl) fun x10_3 h5 => ?_
  refine LV.stA hS h5 rfl rfl rfl Pdf.agg36 rfl rfl rfl fun T2 its h6 hS => ?_
  refine dn ?_
  refine CV.ret ?_
  refine PV.ldA (x := .tmp 4) (t := 36) hS h6 rfl Pdf.agg36 fun x4_4 h7 hVx4_4 => ?_
  cases h7
  exact PV.ret (by simp) Tryz.results17 hS (RS.cell hVx4_4 RS.nil) rfl
noncomputable def g119 (ro : List HT) (T : HT) (nx : Nat) : R :=
 bsK 1190019 T nx 17 25 1 [(0, (.iface 253 (.opq 0))), (1, (.iface 253 (.opq 1))), (2, (.iface 253 (.opq 2))), (3, (.iface 253 (.opq 3))), (4, (.iface 253 (.opq 4))), (5, (.iface 253 (.opq 5))), (6, (.iface 253 (.opq 6))), (7, (.iface 253 (.opq 7))), (8, (.iface 253 (.opq 8))), (9, (.iface 253 (.opq 9))), (10, (.iface 253 (.opq 10))), (11, (.iface 253 (.opq 11))), (12, (.iface 253 (.opq 12))), (13, (.iface 253 (.opq 13))), (14, (.iface 253 (.opq 14))), (15, (.iface 253 (.opq 15))), (16, (.iface 253 (.opq 16)))] fun x18_1 T1 n1 =>
 .ok (.val x18_1) T1 n1
theorem g119_ok (ro : List HT) (T : HT) (nx : Nat) : GOk Tryz.prog envE 119 [] ro T nx (g119 ro T nx) := by
 refine GOk.of_body Tryz.func119 rfl Tryz.ntmps119 (by kernel_rfl) rfl fun r T' n' h1 w0 base ρ0 its hS hP => ?_
 have X : CtxW envE ρ0 ro r T' n' := trivial
 unfold g119 at h1
 refine sr ?_
 refine as_ ?_
 refine dn ?_
 refine sr ?_
 refine sv (VAL.ldG hS (by rfl) Pdf.one25) ?_
 refine sv (VAL.ldG hS (by rfl) Pdf.one25) ?_
 refine sv (VAL.ldG hS (by rfl) Pdf.one25) ?_
 refine sv (VAL.ldG hS (by rfl) Pdf.one25) ?_
 refine sv (VAL.ldG hS (by rfl) Pdf.one25) ?_
 refine sv (VAL.ldG hS (by rfl) Pdf.one25) ?_
 refine sv (VAL.ldG hS (by rfl) Pdf.one25) ?_
 refine sv (VAL.ldG hS (by rfl) Pdf.one25) ?_
 refine sv (VAL.ldG hS (by rfl) Pdf.one25) ?_
 refine sv (VAL.ldG hS (by rfl) Pdf.one25) ?_
 refine sv (VAL.ldG hS (by rfl) Pdf.one25) ?_
 refine sv (VAL.ldG hS (by rfl) Pdf.one25) ?_
 refine sv (VAL.ldG hS (by rfl) Pdf.one25) ?_
 refine sv (VAL.ldG hS (by rfl) Pdf.one25) ?_
 refine sv (VAL.ldG hS (by rfl) Pdf.one25) ?_
 refine sv (VAL.ldG hS (by rfl) Pdf.one25) ?_
 refine sv (VAL.ldG hS (by rfl) Pdf.one25) ?_
 refine LV.bslice hS h1 rfl rfl Pdf.el179 rfl rfl rfl rfl fun x18_1 T1 n1 h2 ρ its hS hdr => ?_
 refine as_ ?_
 refine dn ?_
 refine CV.ret ?_
 cases h2
 exact PV.ret (by simp) Tryz.results119 hS (RS.tmp rfl RS.nil) rfl
noncomputable def g120_k1 (ro : List HT) (y0 y1 y10 : AV) (T1 : HT) (n1 : Nat) : R :=
 condK 1200005 y10
 (
  .bad 1200006
 )
 (
  eeK Tryz.prog 253 25 (.tmp 17) (.tmp 18) 1200009 y0 y1 fun x19_2 =>
  .ok (.val x19_2) T1 n1
 )
noncomputable def g120 (ro : List HT) (a0 a1 : AV) (T : HT) (nx : Nat) : R :=
 bin0 Tryz.prog .eql 25 (.tmp 5) (.const (.nilIface)) 1200003 a0 (.lit (.nilIface)) fun x6_1 =>
 condK 1200011 x6_1
 (
  g120_k1 ro a0 a1 (.lit (.bool true)) T nx
 )
 (
  bin0 Tryz.prog .eql 25 (.tmp 8) (.const (.nilIface)) 1200014 a1 (.lit (.nilIface)) fun x9_3 =>
  g120_k1 ro a0 a1 x9_3 T nx
 )
theorem g120_ok (ro : List HT) (a0 a1 : AV) (T : HT) (nx : Nat) : GOk Tryz.prog envE 120 [a0, a1] ro T nx (g120 ro a0 a1 T nx) := by
 refine GOk.of_body Tryz.func120 rfl Tryz.ntmps120 (by kernel_rfl) rfl fun r T' n' h1 w0 base ρ0 its hS hP => ?_
 have X : CtxW envE ρ0 ro r T' n' := trivial
 unfold g120 at h1
 refine sr ?_
 refine as_ ?_
 refine dn ?_
 refine CV.seq ?_
 refine sr ?_
 refine mv ?_
 refine vy (V.bin0 h1 rfl rfl) fun x6_1 h2 => ?_
 refine mv ?_
 refine ls3 X 0 1 10 [(4, (.lit (.bool false)))] (g120_k1 ro) 3 ?_ ?_
 ·
  rcases condK_inv h2 with ⟨e, h6⟩ | ⟨e, h6⟩
  ·
   clear h1 h2
   subst e
   refine sk ?_
   refine sk ?_
   refine pu ?_
   exact la3 hS h6 ⟨rfl, rfl, rfl, rfl, trivial⟩
  ·
   clear h1 h2
   subst e
   refine mv ?_
   refine vy (V.bin0 h6 rfl rfl) fun x9_3 h7 => ?_
   refine pu ?_
   exact la3 hS h7 ⟨rfl, rfl, rfl, rfl, trivial⟩
 ·
  intro y0 y1 y10 T1 n1 ρ its hS h3
  unfold g120_k1 at h3
  clear h1 h2
  refine dn ?_
  refine CV.cond h3 rfl (fun e h4 => ?_) (fun e h4 => ?_)
  ·
   clear h3
   subst e
   cases h4
  ·
   clear h3
   subst e
   refine CV.skip ?_
   refine PV.thenN ?_
   refine sr ?_
   refine mv ?_
   refine mv ?_
   refine vy (V.ee hS h4 rfl rfl Pdf.ii25 Pdf.cp253) fun x19_2 h5 => ?_
   refine as_ ?_
   refine dn ?_
   refine CV.ret ?_
   cases h5
   exact PV.ret (by simp) Tryz.results120 hS (RS.tmp rfl RS.nil) rfl
noncomputable def g73_b1 (ro : List HT) (lp1 : AV → AV → AV → AV → HT → Nat → R) (y0 y2 y3 y4 : AV) (T2 : HT) (n2 : Nat) : R :=
 lenSK 730008 y3 fun x8_2 =>
 ltK Tryz.prog 3 (.tmp 6) (.tmp 8) 730009 y4 x8_2 fun x9_3 =>
 condK 730010 x9_3
 (
  iaK 730014 y3 y4 1 fun x15_4 =>
  ldK 730015 T2 ro x15_4 fun x16_5 =>
  callK (g120 ro y0 x16_5 T2 n2) fun x17_6 T3 n3 =>
  condK 730017 x17_6
  (
   addK Tryz.prog 3 (.const (.int .i64 (.ofNat 101))) (.tmp 18) 730019 (.lit (.int .i64 (.ofNat 101))) y4 fun x19_7 =>
   .ok (.val x19_7) T3 n3
  )
  (
   addK Tryz.prog 3 (.tmp 10) (.const (.int .i64 (.ofNat 1))) 730022 y4 (.lit (.int .i64 (.ofNat 1))) fun x11_8 =>
   lp1 y0 y2 y3 x11_8 T3 n3
  )
 )
 (
  .ok (.val (.lit (.int .i64 (.negSucc 0)))) T2 n2
 )
noncomputable def g73 (ro : List HT) (a0 : AV) (T : HT) (nx : Nat) : R :=
 callK (g119 ro T nx) fun x5_1 T1 n1 =>
 lpf4 730005 (g73_b1 ro) 100000 a0 (.lit (.int .i64 (.ofNat 0))) x5_1 (.lit (.int .i64 (.ofNat 0))) T1 n1
theorem g73_ok (ro : List HT) (a0 : AV) (T : HT) (nx : Nat) : GOk Tryz.prog envE 73 [a0] ro T nx (g73 ro a0 T nx) := by
 refine GOk.of_body Tryz.func73 rfl Tryz.ntmps73 (by kernel_rfl) rfl fun r T' n' h1 w0 base ρ0 its hS hP => ?_
 have X : CtxW envE ρ0 ro r T' n' := trivial
 unfold g73 at h1
 refine sr ?_
 refine as_ ?_
 refine dn ?_
 refine sr ?_
 refine LV.call hS h1 (g119_ok _ _ _ ) hP rfl rfl rfl rfl fun x5_1 T1 n1 h2 ρ its hS => ?_
 refine as_ ?_
 refine dn ?_
 refine CV.seq ?_
 refine sr ?_
 refine as_ ?_
 refine dn ?_
 refine CV.block ?_
 refine cl4 X 0 2 3 4 [] hS h2 ⟨rfl, rfl, rfl, rfl, trivial⟩ ?_
 intro f1 y0 y2 y3 y4 T2 n2 ρ its hS h3
 unfold g73_b1 at h3
 clear h1 h2
 refine CV.seq ?_
 refine sr ?_
 refine mv ?_
 refine mv ?_
 refine vy (V.lenS h3 rfl Pdf.ls179) fun x8_2 h4 => ?_
 refine vy (V.lt h4 rfl rfl) fun x9_3 h5 => ?_
 refine dn ?_
 refine CV.cond h5 rfl (fun e h6 => ?_) (fun e h6 => ?_)
 ·
  clear h3 h4 h5
  subst e
  refine CV.skip ?_
  refine PV.thenN ?_
  refine CV.seq ?_
  refine CV.block ?_
  refine sr ?_
  refine mv ?_
  refine mv ?_
  refine mv ?_
  refine vy (V.ia h6 rfl rfl Pdf.el179) fun x15_4 h7 => ?_
  refine vy (V.ld hS h7 rfl Pdf.one25) fun x16_5 h8 => ?_
  refine LV.call hS h8 (g120_ok _ _ _ _ _ ) hP rfl rfl rfl rfl fun x17_6 T3 n3 h9 ρ its hS => ?_
  refine dn ?_
  refine CV.cond h9 rfl (fun e h10 => ?_) (fun e h10 => ?_)
  ·
   clear h6 h7 h8 h9
   subst e
   refine sr ?_
   refine mv ?_
   refine vy (V.add h10 rfl rfl) fun x19_7 h11 => ?_
   refine as_ ?_
   refine dn ?_
   refine CV.ret ?_
   refine PV.blockR ?_
   refine PV.thenR ?_
   refine PV.thenR ?_
   refine PV.blockR ?_
   refine PV.thenR ?_
   cases h11
   exact PV.ret (by simp) Tryz.results73 hS (RS.tmp rfl RS.nil) rfl
  ·
   clear h6 h7 h8 h9
   subst e
   refine CV.skip ?_
   refine PV.blockN ?_
   refine PV.thenN ?_
   refine CV.region ?_
   refine mv ?_
   refine vy (V.add h10 rfl rfl) fun x11_8 h12 => ?_
   refine as_ ?_
   refine LV.done ?_
   exact pb4 hS h12 ⟨rfl, rfl, rfl, rfl, trivial⟩
 ·
  clear h3 h4 h5
  subst e
  refine CV.exit ?_
  refine PV.thenE ?_
  refine PV.thenE ?_
  refine PV.blockE ?_
  refine PV.thenN ?_
  refine sr ?_
  refine as_ ?_
  refine dn ?_
  refine CV.ret ?_
  cases h6
  exact PV.ret (by simp) Tryz.results73 hS (RS.tmp rfl RS.nil) rfl
noncomputable def g43_k1 (ro : List HT) (y2 y3 y23 : AV) (T2 : HT) (n2 : Nat) : R :=
 condK 430016 y23
 (
  .bad 430017
 )
 (
  ncK 430019 y3 fun x26_7 =>
  faK 430020 x26_7 1 fun x27_8 =>
  ldQK 430021 T2 ro [y3] x27_8 fun x28_9 =>
  ncK 430023 y3 fun x31_10 =>
  faK 430024 x31_10 0 fun x32_11 =>
  ldQK 430025 T2 ro [y3] x32_11 fun x33_12 =>
  callK (g73 ro x28_9 T2 n2) fun x29_13 T3 n3 =>
  keepK 430027 T2 T3 [y3] <|
  callK (g17 ro x29_13 x33_12 T3 n3) fun x34_14 T4 n4 =>
  stAK 430029 T4 y2 x34_14 5 fun T5 =>
  ldAK 430030 T5 ro y2 5 fun x2_15 =>
  .ok (.val x2_15) T5 n4
 )
noncomputable def g43 (ro : List HT) (a0 : AV) (T : HT) (nx : Nat) : R :=
 newK T nx (.obj [.lit (.int .i64 0), .lit (.bool false), .lit (.int .i64 0), .lit (.bool false), .lit (.string ⟨#[]⟩)] 36) fun x2_1 T1 n1 =>
 asK 430003 a0 72 (.tup [.lit (.pointer none), .lit (.bool false)]) fun x7_2 =>
 exK 430005 x7_2 0 fun x8_3 =>
 exK 430006 x7_2 1 fun x9_4 =>
 notK 430010 x9_4 fun x11_5 =>
 condK 430011 x11_5
 (
  .bad 430012
 )
 (
  bin0 Tryz.prog .eql 72 (.tmp 15) (.const (.pointer none)) 430014 x8_3 (.lit (.pointer none)) fun x16_6 =>
  condK 430031 x16_6
  (
   g43_k1 ro x2_1 x8_3 (.lit (.bool true)) T1 n1
  )
  (
   ncK 430034 x8_3 fun x19_16 =>
   faK 430035 x19_16 1 fun x20_17 =>
   ldK 430036 T1 ro x20_17 fun x21_18 =>
   bin0 Tryz.prog .eql 25 (.tmp 21) (.const (.nilIface)) 430037 x21_18 (.lit (.nilIface)) fun x22_19 =>
   g43_k1 ro x2_1 x8_3 x22_19 T1 n1
  )
 )
theorem g43_ok (ro : List HT) (a0 : AV) (T : HT) (nx : Nat) : GOk Tryz.prog envE 43 [a0] ro T nx (g43 ro a0 T nx) := by
 refine GOk.of_body Tryz.func43 rfl Tryz.ntmps43 (by kernel_rfl) rfl fun r T' n' h1 w0 base ρ0 its hS hP => ?_
 have X : CtxW envE ρ0 ro r T' n' := trivial
 unfold g43 at h1
 refine sr ?_
 refine LV.alloc hS h1 rfl Pdf.zr36 rfl rfl rfl fun x2_1 T1 n1 h2 ρ its hS hdr => ?_
 refine dn ?_
 refine sr ?_
 refine mv ?_
 refine vy (V.as h2 rfl Pdf.ni72 Pdf.za72) fun x7_2 h3 => ?_
 refine mv ?_
 refine vy (V.ex h3 rfl) fun x8_3 h4 => ?_
 refine vy (V.ex h4 rfl) fun x9_4 h5 => ?_
 refine as_ ?_
 refine as_ ?_
 refine dn ?_
 refine CV.seq ?_
 refine sr ?_
 refine mv ?_
 refine vy (V.not h5 rfl) fun x11_5 h6 => ?_
 refine dn ?_
 refine CV.cond h6 rfl (fun e h7 => ?_) (fun e h7 => ?_)
 ·
  clear h1 h2 h3 h4 h5 h6
  subst e
  cases h7
 ·
  clear h1 h2 h3 h4 h5 h6
  subst e
  refine CV.skip ?_
  refine PV.thenN ?_
  refine CV.seq ?_
  refine sr ?_
  refine mv ?_
  refine vy (V.bin0 h7 rfl rfl) fun x16_6 h8 => ?_
  refine mv ?_
  refine ls3 X 2 3 23 [] (g43_k1 ro) 6 ?_ ?_
  ·
   rcases condK_inv h8 with ⟨e, h22⟩ | ⟨e, h22⟩
   ·
    clear h7 h8
    subst e
    refine sk ?_
    refine sk ?_
    refine sk ?_
    refine sk ?_
    refine sk ?_
    refine pu ?_
    exact la3 hS h22 ⟨rfl, rfl, rfl, trivial⟩
   ·
    clear h7 h8
    subst e
    refine mv ?_
    refine vy (V.nc h22 rfl) fun x19_16 h23 => ?_
    refine vy (V.fa h23 rfl Pdf.fo74_1) fun x20_17 h24 => ?_
    refine vy (V.ld hS h24 rfl Pdf.one25) fun x21_18 h25 => ?_
    refine vy (V.bin0 h25 rfl rfl) fun x22_19 h26 => ?_
    refine pu ?_
    exact la3 hS h26 ⟨rfl, rfl, rfl, trivial⟩
  ·
   intro y2 y3 y23 T2 n2 ρ its hS h9
   unfold g43_k1 at h9
   clear h7 h8
   refine dn ?_
   refine CV.cond h9 rfl (fun e h10 => ?_) (fun e h10 => ?_)
   ·
    clear h9
    subst e
    cases h10
   ·
    clear h9
    subst e
    refine CV.skip ?_
    refine PV.thenN ?_
    refine CV.seq ?_
    refine CV.regionMS hS [y3] [(0, .anywhere), (1, .anywhere), (2, .anywhere), (3, .held), (5, .anywhere), (6, .anywhere), (7, .anywhere), (8, .held), (4, .alone), (9, .alone), (10, .alone)] rfl (fun c a a' w hd hq => PanicOk.root (P := Tryz.prog) (fn := Tryz.f43) (w0 := w0) (base := base) (E := envE) (ro := ro) (r := r) (T' := T') (n' := n') (ρ0 := ρ0) c a a' w hd hq) (by kernel_rfl) ?_
    have hK := KeepS.start [y3] hS
    have hR := hS
    have hP0 := hP
    replace hP := PK.up hR hP
    replace hS := hR.root
    refine MV.step0 (i := 0) rfl (VAL.move rfl) rfl rfl rfl ?_
    refine MV.lift0 (i := 1) rfl (V.nc h10 rfl) rfl rfl rfl fun x26_7 h11 => ?_
    refine MV.lift0 (i := 2) rfl (V.fa h11 rfl Pdf.fo74_1) rfl rfl rfl fun x27_8 h12 => ?_
    refine MV.lift1 (i := 3) rfl hK (V.ldQ hS h12 rfl Pdf.one25) rfl rfl rfl [] (by kernel_rfl) fun x28_9 h13 => ?_
    refine MV.step0 (i := 5) rfl (VAL.move rfl) rfl rfl rfl ?_
    refine MV.lift0 (i := 6) rfl (V.nc h13 rfl) rfl rfl rfl fun x31_10 h14 => ?_
    refine MV.lift0 (i := 7) rfl (V.fa h14 rfl Pdf.fo74_0) rfl rfl rfl fun x32_11 h15 => ?_
    refine MV.lift1 (i := 8) rfl hK (V.ldQ hS h15 rfl Pdf.one3) rfl rfl rfl [3] (by kernel_rfl) fun x33_12 h16 => ?_
    refine MV.force (i := 4) rfl ?_
    refine LV.call hS h16 (g73_ok _ _ _ _ ) hP rfl rfl rfl rfl fun x29_13 T3 n3 h17 ρ its hS => ?_
    obtain ⟨hK, h18⟩ := KeepS.step hR hS h17
    refine LV.nextM [8] (by kernel_rfl) (fun _ => hK) ?_
    refine MV.force (i := 9) rfl ?_
    refine LV.call hS h18 (g17_ok _ _ _ _ _ ) hP rfl rfl rfl rfl fun x34_14 T4 n4 h19 ρ its hS => ?_
    refine LV.nextM [] (by kernel_rfl) (fun z => absurd rfl z) ?_
    refine MV.force (i := 10) rfl ?_
    refine LV.stA hS h19 rfl rfl rfl Pdf.agg36 rfl rfl rfl fun T5 its h20 hS => ?_
    refine LV.nextM [] (by kernel_rfl) (fun z => absurd rfl z) ?_
    replace hS := hR.up hS
    replace hP := hP0
    refine mdn ?_
    refine CV.ret ?_
    refine PV.ldA (x := .tmp 2) (t := 36) hS h20 rfl Pdf.agg36 fun x2_15 h21 hVx2_15 => ?_
    cases h21
    exact PV.ret (by simp) Tryz.results43 hS (RS.cell hVx2_15 RS.nil) rfl
noncomputable def g15_k1 (ro : List HT) (y2 y3 y26 : AV) (T4 : HT) (n4 : Nat) : R :=
 condK 150023 y26
 (
  .bad 150024
 )
 (
  fldK 150026 T4 ro y3 1 fun x31_10 =>
  callK (g43 ro x31_10 T4 n4) fun x32_11 T5 n5 =>
  newK T5 n5 (.obj [.lit (.int .i64 0), .lit (.bool false), .lit (.int .i64 0), .lit (.bool false), .lit (.string ⟨#[]⟩)] 36) fun x5_12 T6 n6 =>
  stAK 150029 T6 x5_12 x32_11 5 fun T7 =>
  faK 150030 x5_12 0 fun x33_13 =>
  ldK 150031 T7 ro x33_13 fun x34_14 =>
  faK 150032 x5_12 1 fun x35_15 =>
  ldK 150033 T7 ro x35_15 fun x36_16 =>
  faK 150034 x5_12 2 fun x37_17 =>
  ldK 150035 T7 ro x37_17 fun x38_18 =>
  ncK 150037 y3 fun x40_19 =>
  faK 150038 x40_19 0 fun x41_20 =>
  ldK 150039 T7 ro x41_20 fun x42_21 =>
  optK 150040 (bld36 [(0, x34_14), (1, x36_16), (2, x38_18), (3, (.lit (.bool true))), (4, x42_21)]) fun x43_22 =>
  stAK 150041 T7 y2 x43_22 5 fun T8 =>
  ldAK 150042 T8 ro y2 5 fun x2_23 =>
  .ok (.val x2_23) T8 n6
 )
noncomputable def g15 (ro : List HT) (a0 : AV) (T : HT) (nx : Nat) : R :=
 newK T nx (.obj [.lit (.int .i64 0), .lit (.bool false), .lit (.int .i64 0), .lit (.bool false), .lit (.string ⟨#[]⟩)] 36) fun x2_1 T1 n1 =>
 bin0 Tryz.prog .eql 25 (.tmp 6) (.const (.nilIface)) 150003 a0 (.lit (.nilIface)) fun x7_2 =>
 condK 150004 x7_2
 (
  .bad 150005
 )
 (
  asK 150007 a0 80 (.tup [.lit (.pointer none), .lit (.bool false)]) fun x11_3 =>
  exK 150009 x11_3 0 fun x12_4 =>
  exK 150010 x11_3 1 fun x13_5 =>
  notK 150014 x13_5 fun x15_6 =>
  condK 150015 x15_6
  (
   callK (g43 ro a0 T1 n1) fun x17_7 T2 n2 =>
   stAK 150018 T2 x2_1 x17_7 5 fun T3 =>
   ldAK 150019 T3 ro x2_1 5 fun x2_8 =>
   .ok (.val x2_8) T3 n2
  )
  (
   bin0 Tryz.prog .eql 80 (.tmp 18) (.const (.pointer none)) 150021 x12_4 (.lit (.pointer none)) fun x19_9 =>
   condK 150043 x19_9
   (
    g15_k1 ro x2_1 x12_4 (.lit (.bool true)) T1 n1
   )
   (
    ncK 150046 x12_4 fun x22_24 =>
    faK 150047 x22_24 1 fun x23_25 =>
    ldK 150048 T1 ro x23_25 fun x24_26 =>
    bin0 Tryz.prog .eql 25 (.tmp 24) (.const (.nilIface)) 150049 x24_26 (.lit (.nilIface)) fun x25_27 =>
    g15_k1 ro x2_1 x12_4 x25_27 T1 n1
   )
  )
 )
theorem g15_ok (ro : List HT) (a0 : AV) (T : HT) (nx : Nat) : GOk Tryz.prog envE 15 [a0] ro T nx (g15 ro a0 T nx) := by
 refine GOk.of_body Tryz.func15 rfl Tryz.ntmps15 (by kernel_rfl) rfl fun r T' n' h1 w0 base ρ0 its hS hP => ?_
 have X : CtxW envE ρ0 ro r T' n' := trivial
 unfold g15 at h1
 refine sr ?_
 refine LV.alloc hS h1 rfl Pdf.zr36 rfl rfl rfl fun x2_1 T1 n1 h2 ρ its hS hdr => ?_
 refine dn ?_
 refine CV.seq ?_
 refine sr ?_
 refine mv ?_
 refine vy (V.bin0 h2 rfl rfl) fun x7_2 h3 => ?_
 refine dn ?_
 refine CV.cond h3 rfl (fun e h4 => ?_) (fun e h4 => ?_)
 ·
  clear h1 h2 h3
  subst e
  cases h4
 ·
  clear h1 h2 h3
  subst e
  refine CV.skip ?_
  refine PV.thenN ?_
  refine sr ?_
  refine mv ?_
  refine vy (V.as h4 rfl Pdf.ni80 Pdf.za80) fun x11_3 h5 => ?_
  refine mv ?_
  refine vy (V.ex h5 rfl) fun x12_4 h6 => ?_
  refine vy (V.ex h6 rfl) fun x13_5 h7 => ?_
  refine as_ ?_
  refine as_ ?_
  refine dn ?_
  refine CV.seq ?_
  refine sr ?_
  refine mv ?_
  refine vy (V.not h7 rfl) fun x15_6 h8 => ?_
  refine dn ?_
  refine CV.cond h8 rfl (fun e h9 => ?_) (fun e h9 => ?_)
  ·
   clear h4 h5 h6 h7 h8
   subst e
   refine sr ?_
   refine mv ?_
   refine LV.call hS h9 (g43_ok _ _ _ _ ) hP rfl rfl rfl rfl fun x17_7 T2 n2 h10 ρ its hS => ?_
   refine LV.stA hS h10 rfl rfl rfl Pdf.agg36 rfl rfl rfl fun T3 its h11 hS => ?_
   refine dn ?_
   refine CV.ret ?_
   refine PV.thenR ?_
   refine PV.ldA (x := .tmp 2) (t := 36) hS h11 rfl Pdf.agg36 fun x2_8 h12 hVx2_8 => ?_
   cases h12
   exact PV.ret (by simp) Tryz.results15 hS (RS.cell hVx2_8 RS.nil) rfl
  ·
   clear h4 h5 h6 h7 h8
   subst e
   refine CV.skip ?_
   refine PV.thenN ?_
   refine CV.seq ?_
   refine sr ?_
   refine mv ?_
   refine vy (V.bin0 h9 rfl rfl) fun x19_9 h13 => ?_
   refine mv ?_
   refine ls3 X 2 3 26 [] (g15_k1 ro) 6 ?_ ?_
   ·
    rcases condK_inv h13 with ⟨e, h32⟩ | ⟨e, h32⟩
    ·
     clear h9 h13
     subst e
     refine sk ?_
     refine sk ?_
     refine sk ?_
     refine sk ?_
     refine sk ?_
     refine pu ?_
     exact la3 hS h32 ⟨rfl, rfl, rfl, trivial⟩
    ·
     clear h9 h13
     subst e
     refine mv ?_
     refine vy (V.nc h32 rfl) fun x22_24 h33 => ?_
     refine vy (V.fa h33 rfl Pdf.fo83_1) fun x23_25 h34 => ?_
     refine vy (V.ld hS h34 rfl Pdf.one25) fun x24_26 h35 => ?_
     refine vy (V.bin0 h35 rfl rfl) fun x25_27 h36 => ?_
     refine pu ?_
     exact la3 hS h36 ⟨rfl, rfl, rfl, trivial⟩
   ·
    intro y2 y3 y26 T4 n4 ρ its hS h14
    unfold g15_k1 at h14
    clear h9 h13
    refine dn ?_
    refine CV.cond h14 rfl (fun e h15 => ?_) (fun e h15 => ?_)
    ·
     clear h14
     subst e
     cases h15
    ·
     clear h14
     subst e
     refine CV.skip ?_
     refine PV.thenN ?_
     refine sr ?_
     refine mv ?_
     refine fl hS h15 Pdf.fo83_1 Pdf.one25 fun x31_10 h16 => ?_
     refine LV.call hS h16 (g43_ok _ _ _ _ ) hP rfl rfl rfl rfl fun x32_11 T5 n5 h17 ρ its hS => ?_
     refine LV.alloc hS h17 rfl Pdf.zr36 rfl rfl rfl fun x5_12 T6 n6 h18 ρ its hS hdr => ?_
     refine LV.stA hS h18 rfl rfl rfl Pdf.agg36 rfl rfl rfl fun T7 its h19 hS => ?_
     refine dn ?_
     refine CV.seq ?_
     refine CV.regionM [(0, .anywhere), (1, .held), (2, .anywhere), (3, .held), (4, .anywhere), (5, .held), (6, .anywhere), (7, .anywhere), (8, .anywhere), (9, .held), (10, .held), (11, .alone)] rfl (fun c a a' w hd hq => PanicOk.root (P := Tryz.prog) (fn := Tryz.f15) (w0 := w0) (base := base) (E := envE) (ro := ro) (r := r) (T' := T') (n' := n') (ρ0 := ρ0) c a a' w hd hq) (by kernel_rfl) ?_
     refine MV.lift0 (i := 0) rfl (V.fa h19 rfl Pdf.fo36_0) rfl rfl rfl fun x33_13 h20 => ?_
     refine MV.lift1 (i := 1) rfl (fun _ z => z) (V.ld hS h20 rfl Pdf.one3) rfl rfl rfl [] (by kernel_rfl) fun x34_14 h21 => ?_
     refine MV.lift0 (i := 2) rfl (V.fa h21 rfl Pdf.fo36_1) rfl rfl rfl fun x35_15 h22 => ?_
     refine MV.lift1 (i := 3) rfl (fun _ z => z) (V.ld hS h22 rfl Pdf.one4) rfl rfl rfl [1] (by kernel_rfl) fun x36_16 h23 => ?_
     refine MV.lift0 (i := 4) rfl (V.fa h23 rfl Pdf.fo36_2) rfl rfl rfl fun x37_17 h24 => ?_
     refine MV.lift1 (i := 5) rfl (fun _ z => z) (V.ld hS h24 rfl Pdf.one3) rfl rfl rfl [3, 1] (by kernel_rfl) fun x38_18 h25 => ?_
     refine MV.step0 (i := 6) rfl (VAL.move rfl) rfl rfl rfl ?_
     refine MV.lift0 (i := 7) rfl (V.nc h25 rfl) rfl rfl rfl fun x40_19 h26 => ?_
     refine MV.lift0 (i := 8) rfl (V.fa h26 rfl Pdf.fo83_0) rfl rfl rfl fun x41_20 h27 => ?_
     refine MV.lift1 (i := 9) rfl (fun _ z => z) (V.ld hS h27 rfl Pdf.one9) rfl rfl rfl [5, 3, 1] (by kernel_rfl) fun x42_21 h28 => ?_
     refine MV.lift1 (i := 10) rfl (fun _ z => z) (V.bld h28 rfl) rfl rfl rfl [] (by kernel_rfl) fun x43_22 h29 => ?_
     refine MV.force (i := 11) rfl ?_
     refine LV.stA hS h29 rfl rfl rfl Pdf.agg36 rfl rfl rfl fun T8 its h30 hS => ?_
     refine LV.nextM [] (by kernel_rfl) (fun z => absurd rfl z) ?_
     refine mdn ?_
     refine CV.ret ?_
     refine PV.ldA (x := .tmp 2) (t := 36) hS h30 rfl Pdf.agg36 fun x2_23 h31 hVx2_23 => ?_
     cases h31
     exact PV.ret (by simp) Tryz.results15 hS (RS.cell hVx2_23 RS.nil) rfl

end Go.Proofs.YtdepmlcnllofiaaGreatDoor.Pd
