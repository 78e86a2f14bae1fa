/-
  Proved here: plain functions that do what the program's functions do, each with its proof.
-/
import Derived.Test.YtlljgagoboapaaaGreatDoorCnc
namespace Go.Proofs.YtlljgagoboapaaaGreatDoor.Cn
open Go.EY Go.EX Go.SX Go.RowKit
noncomputable def g158_k5 (ro : List HT) (y0 y3 y4 y5 y155 : AV) (T7 : HT) (n7 : Nat) : R :=
 .ok (.val y155) T7 n7
noncomputable def g158_k4 (ro : List HT) (y0 y3 y4 y5 y9 y55 : AV) (T6 : HT) (n6 : Nat) : R :=
 condK 1580028 y55
 (
  .bad 1580029
 )
 (
  eqK Tryz.prog 3 (.tmp 9) (.const (.int .i64 (.ofNat 10))) 1580030 y9 (.lit (.int .i64 (.ofNat 10))) fun x62_11 =>
  condK 1580032 x62_11
  (
   .bad 1580033
  )
  (
   eqK Tryz.prog 3 (.tmp 9) (.const (.int .i64 (.ofNat 14))) 1580034 y9 (.lit (.int .i64 (.ofNat 14))) fun x72_12 =>
   condK 1580036 x72_12
   (
    .bad 1580037
   )
   (
    eqK Tryz.prog 3 (.tmp 9) (.const (.int .i64 (.ofNat 34))) 1580038 y9 (.lit (.int .i64 (.ofNat 34))) fun x89_13 =>
    condK 1580040 x89_13
    (
     .bad 1580041
    )
    (
     eqK Tryz.prog 3 (.tmp 9) (.const (.int .i64 (.ofNat 42))) 1580042 y9 (.lit (.int .i64 (.ofNat 42))) fun x111_14 =>
     condK 1580044 x111_14
     (
      .bad 1580045
     )
     (
      eqK Tryz.prog 3 (.tmp 9) (.const (.int .i64 (.ofNat 45))) 1580046 y9 (.lit (.int .i64 (.ofNat 45))) fun x123_15 =>
      condK 1580048 x123_15
      (
       .bad 1580049
      )
      (
       eqK Tryz.prog 3 (.tmp 9) (.const (.int .i64 (.ofNat 47))) 1580050 y9 (.lit (.int .i64 (.ofNat 47))) fun x147_16 =>
       condK 1580052 x147_16
       (
        lenSK 1580054 y5 fun x149_17 =>
        gtK Tryz.prog 3 (.tmp 149) (.const (.int .i64 (.ofNat 0))) 1580055 x149_17 (.lit (.int .i64 (.ofNat 0))) fun x150_18 =>
        condK 1580058 x150_18
        (
         callK (g214 ro y0 y5 (.lit (.func (.func 221) #[] #[])) T6 n6) fun x154_19 T8 n8 =>
         g158_k5 ro y0 y3 y4 y5 x154_19 T8 n8
        )
        (
         g158_k5 ro y0 y3 y4 y5 (.lit (.bool false)) T6 n6
        )
       )
       (
        faK 1580065 y3 0 fun x157_20 =>
        ldK 1580066 T6 ro x157_20 fun x158_21 =>
        callK (g223 ro y0 x158_21 y5 T6 n6) fun x160_22 T9 n9 =>
        .ok (.val x160_22) T9 n9
       )
      )
     )
    )
   )
  )
 )
noncomputable def g158_k3 (ro : List HT) (y0 y3 y4 y5 y9 y41 : AV) (T4 : HT) (n4 : Nat) : R :=
 condK 1580019 y41
 (
  callK (g212 ro y0 y5 (.lit (.int .i64 (.ofNat 1))) (.lit (.int .i64 (.ofNat 1))) T4 n4) fun x49_9 T5 n5 =>
  .ok (.val x49_9) T5 n5
 )
 (
  eqK Tryz.prog 3 (.tmp 9) (.const (.int .i64 (.ofNat 20))) 1580024 y9 (.lit (.int .i64 (.ofNat 20))) fun x51_10 =>
  condK 1580026 x51_10
  (
   .bad 1580027
  )
  (
   eqK Tryz.prog 3 (.tmp 9) (.const (.int .i64 (.ofNat 41))) 1580070 y9 (.lit (.int .i64 (.ofNat 41))) fun x56_23 =>
   condK 1580072 x56_23
   (
    g158_k4 ro y0 y3 y4 y5 y9 (.lit (.bool true)) T4 n4
   )
   (
    eqK Tryz.prog 3 (.tmp 9) (.const (.int .i64 (.ofNat 46))) 1580073 y9 (.lit (.int .i64 (.ofNat 46))) fun x57_24 =>
    g158_k4 ro y0 y3 y4 y5 y9 x57_24 T4 n4
   )
  )
 )
noncomputable def g158_k2 (ro : List HT) (y0 y3 y4 y5 y9 y24 : AV) (T3 : HT) (n3 : Nat) : R :=
 condK 1580013 y24
 (
  .bad 1580014
 )
 (
  eqK Tryz.prog 3 (.tmp 9) (.const (.int .i64 (.ofNat 9))) 1580015 y9 (.lit (.int .i64 (.ofNat 9))) fun x31_8 =>
  condK 1580017 x31_8
  (
   .bad 1580018
  )
  (
   eqK Tryz.prog 3 (.tmp 9) (.const (.int .i64 (.ofNat 11))) 1580075 y9 (.lit (.int .i64 (.ofNat 11))) fun x42_25 =>
   condK 1580077 x42_25
   (
    g158_k3 ro y0 y3 y4 y5 y9 (.lit (.bool true)) T3 n3
   )
   (
    eqK Tryz.prog 3 (.tmp 9) (.const (.int .i64 (.ofNat 12))) 1580078 y9 (.lit (.int .i64 (.ofNat 12))) fun x43_26 =>
    condK 1580080 x43_26
    (
     g158_k3 ro y0 y3 y4 y5 y9 (.lit (.bool true)) T3 n3
    )
    (
     eqK Tryz.prog 3 (.tmp 9) (.const (.int .i64 (.ofNat 16))) 1580081 y9 (.lit (.int .i64 (.ofNat 16))) fun x44_27 =>
     condK 1580083 x44_27
     (
      g158_k3 ro y0 y3 y4 y5 y9 (.lit (.bool true)) T3 n3
     )
     (
      eqK Tryz.prog 3 (.tmp 9) (.const (.int .i64 (.ofNat 17))) 1580084 y9 (.lit (.int .i64 (.ofNat 17))) fun x45_28 =>
      condK 1580086 x45_28
      (
       g158_k3 ro y0 y3 y4 y5 y9 (.lit (.bool true)) T3 n3
      )
      (
       eqK Tryz.prog 3 (.tmp 9) (.const (.int .i64 (.ofNat 35))) 1580087 y9 (.lit (.int .i64 (.ofNat 35))) fun x46_29 =>
       g158_k3 ro y0 y3 y4 y5 y9 x46_29 T3 n3
      )
     )
    )
   )
  )
 )
noncomputable def g158_k1 (ro : List HT) (y0 y3 y4 y5 y9 y10 : AV) (T2 : HT) (n2 : Nat) : R :=
 condK 1580008 y10
 (
  lenSK 1580010 y5 fun x22_6 =>
  eqK Tryz.prog 3 (.tmp 22) (.const (.int .i64 (.ofNat 0))) 1580011 x22_6 (.lit (.int .i64 (.ofNat 0))) fun x23_7 =>
  .ok (.val x23_7) T2 n2
 )
 (
  eqK Tryz.prog 3 (.tmp 9) (.const (.int .i64 (.ofNat 7))) 1580089 y9 (.lit (.int .i64 (.ofNat 7))) fun x25_30 =>
  condK 1580091 x25_30
  (
   g158_k2 ro y0 y3 y4 y5 y9 (.lit (.bool true)) T2 n2
  )
  (
   eqK Tryz.prog 3 (.tmp 9) (.const (.int .i64 (.ofNat 8))) 1580092 y9 (.lit (.int .i64 (.ofNat 8))) fun x26_31 =>
   g158_k2 ro y0 y3 y4 y5 y9 x26_31 T2 n2
  )
 )
noncomputable def g158 (ro : List HT) (a0 a1 : AV) (T : HT) (nx : Nat) : R :=
 boxK 1580001 T nx a1 172 fun x3_1 T1 n1 =>
 faK 1580003 x3_1 4 fun x6_2 =>
 ldK 1580004 T1 ro x6_2 fun x7_3 =>
 faK 1580006 x3_1 0 fun x8_4 =>
 ldK 1580007 T1 ro x8_4 fun x9_5 =>
 eqK Tryz.prog 3 (.tmp 9) (.const (.int .i64 (.ofNat 1))) 1580094 x9_5 (.lit (.int .i64 (.ofNat 1))) fun x11_32 =>
 condK 1580096 x11_32
 (
  g158_k1 ro a0 x3_1 (.lit (.bool false)) x7_3 x9_5 (.lit (.bool true)) T1 n1
 )
 (
  eqK Tryz.prog 3 (.tmp 9) (.const (.int .i64 (.ofNat 2))) 1580097 x9_5 (.lit (.int .i64 (.ofNat 2))) fun x12_33 =>
  condK 1580099 x12_33
  (
   g158_k1 ro a0 x3_1 (.lit (.bool false)) x7_3 x9_5 (.lit (.bool true)) T1 n1
  )
  (
   eqK Tryz.prog 3 (.tmp 9) (.const (.int .i64 (.ofNat 3))) 1580100 x9_5 (.lit (.int .i64 (.ofNat 3))) fun x13_34 =>
   condK 1580102 x13_34
   (
    g158_k1 ro a0 x3_1 (.lit (.bool false)) x7_3 x9_5 (.lit (.bool true)) T1 n1
   )
   (
    eqK Tryz.prog 3 (.tmp 9) (.const (.int .i64 (.ofNat 4))) 1580103 x9_5 (.lit (.int .i64 (.ofNat 4))) fun x14_35 =>
    condK 1580105 x14_35
    (
     g158_k1 ro a0 x3_1 (.lit (.bool false)) x7_3 x9_5 (.lit (.bool true)) T1 n1
    )
    (
     eqK Tryz.prog 3 (.tmp 9) (.const (.int .i64 (.ofNat 5))) 1580106 x9_5 (.lit (.int .i64 (.ofNat 5))) fun x15_36 =>
     condK 1580108 x15_36
     (
      g158_k1 ro a0 x3_1 (.lit (.bool false)) x7_3 x9_5 (.lit (.bool true)) T1 n1
     )
     (
      eqK Tryz.prog 3 (.tmp 9) (.const (.int .i64 (.ofNat 6))) 1580109 x9_5 (.lit (.int .i64 (.ofNat 6))) fun x16_37 =>
      condK 1580111 x16_37
      (
       g158_k1 ro a0 x3_1 (.lit (.bool false)) x7_3 x9_5 (.lit (.bool true)) T1 n1
      )
      (
       eqK Tryz.prog 3 (.tmp 9) (.const (.int .i64 (.ofNat 15))) 1580112 x9_5 (.lit (.int .i64 (.ofNat 15))) fun x17_38 =>
       condK 1580114 x17_38
       (
        g158_k1 ro a0 x3_1 (.lit (.bool false)) x7_3 x9_5 (.lit (.bool true)) T1 n1
       )
       (
        eqK Tryz.prog 3 (.tmp 9) (.const (.int .i64 (.ofNat 38))) 1580115 x9_5 (.lit (.int .i64 (.ofNat 38))) fun x18_39 =>
        condK 1580117 x18_39
        (
         g158_k1 ro a0 x3_1 (.lit (.bool false)) x7_3 x9_5 (.lit (.bool true)) T1 n1
        )
        (
         eqK Tryz.prog 3 (.tmp 9) (.const (.int .i64 (.ofNat 39))) 1580118 x9_5 (.lit (.int .i64 (.ofNat 39))) fun x19_40 =>
         condK 1580120 x19_40
         (
          g158_k1 ro a0 x3_1 (.lit (.bool false)) x7_3 x9_5 (.lit (.bool true)) T1 n1
         )
         (
          eqK Tryz.prog 3 (.tmp 9) (.const (.int .i64 (.ofNat 40))) 1580121 x9_5 (.lit (.int .i64 (.ofNat 40))) fun x20_41 =>
          g158_k1 ro a0 x3_1 (.lit (.bool false)) x7_3 x9_5 x20_41 T1 n1
         )
        )
       )
      )
     )
    )
   )
  )
 )
theorem g158_ok (ro : List HT) (a0 a1 : AV) (T : HT) (nx : Nat) : GOk Tryz.prog envE 158 [a0, a1] ro T nx (g158 ro a0 a1 T nx) := by
 refine GOk.of_body Tryz.func158 rfl Tryz.ntmps158 (by kernel_rfl) rfl fun r T' n' h1 w0 base ρ0 its hS hP => ?_
 have X : CtxW envE ρ0 ro r T' n' := trivial
 unfold g158 at h1
 refine sr ?_
 refine LV.box hS h1 rfl rfl rfl rfl rfl fun x3_1 T1 n1 h2 ρ its hS hdr => ?_
 refine as_ ?_
 refine dn ?_
 refine sr ?_
 refine vy (V.fa h2 rfl Cnf.fo172_4) fun x6_2 h3 => ?_
 refine vy (V.ld hS h3 rfl Cnf.one170) fun x7_3 h4 => ?_
 refine as_ ?_
 refine dn ?_
 refine CV.seq ?_
 refine sr ?_
 refine vy (V.fa h4 rfl Cnf.fo172_0) fun x8_4 h5 => ?_
 refine vy (V.ld hS h5 rfl Cnf.one3) fun x9_5 h6 => ?_
 refine dn ?_
 refine CV.block ?_
 refine cs6 X 0 3 4 5 9 10 [] (g158_k1 ro) ?_ ?_
 ·
  refine sr ?_
  refine vy (V.eq h6 rfl rfl) fun x11_32 h57 => ?_
  refine as_ ?_
  refine dn ?_
  refine CV.cond h57 rfl (fun e h58 => ?_) (fun e h58 => ?_)
  ·
   clear h1 h2 h3 h4 h5 h6 h57
   subst e
   refine CV.skip ?_
   exact pa6 hS h58 ⟨rfl, rfl, rfl, rfl, rfl, rfl, trivial⟩
  ·
   clear h1 h2 h3 h4 h5 h6 h57
   subst e
   refine sr ?_
   refine vy (V.eq h58 rfl rfl) fun x12_33 h59 => ?_
   refine as_ ?_
   refine dn ?_
   refine CV.cond h59 rfl (fun e h60 => ?_) (fun e h60 => ?_)
   ·
    clear h58 h59
    subst e
    refine CV.skip ?_
    exact pa6 hS h60 ⟨rfl, rfl, rfl, rfl, rfl, rfl, trivial⟩
   ·
    clear h58 h59
    subst e
    refine sr ?_
    refine vy (V.eq h60 rfl rfl) fun x13_34 h61 => ?_
    refine as_ ?_
    refine dn ?_
    refine CV.cond h61 rfl (fun e h62 => ?_) (fun e h62 => ?_)
    ·
     clear h60 h61
     subst e
     refine CV.skip ?_
     exact pa6 hS h62 ⟨rfl, rfl, rfl, rfl, rfl, rfl, trivial⟩
    ·
     clear h60 h61
     subst e
     refine sr ?_
     refine vy (V.eq h62 rfl rfl) fun x14_35 h63 => ?_
     refine as_ ?_
     refine dn ?_
     refine CV.cond h63 rfl (fun e h64 => ?_) (fun e h64 => ?_)
     ·
      clear h62 h63
      subst e
      refine CV.skip ?_
      exact pa6 hS h64 ⟨rfl, rfl, rfl, rfl, rfl, rfl, trivial⟩
     ·
      clear h62 h63
      subst e
      refine sr ?_
      refine vy (V.eq h64 rfl rfl) fun x15_36 h65 => ?_
      refine as_ ?_
      refine dn ?_
      refine CV.cond h65 rfl (fun e h66 => ?_) (fun e h66 => ?_)
      ·
       clear h64 h65
       subst e
       refine CV.skip ?_
       exact pa6 hS h66 ⟨rfl, rfl, rfl, rfl, rfl, rfl, trivial⟩
      ·
       clear h64 h65
       subst e
       refine sr ?_
       refine vy (V.eq h66 rfl rfl) fun x16_37 h67 => ?_
       refine as_ ?_
       refine dn ?_
       refine CV.cond h67 rfl (fun e h68 => ?_) (fun e h68 => ?_)
       ·
        clear h66 h67
        subst e
        refine CV.skip ?_
        exact pa6 hS h68 ⟨rfl, rfl, rfl, rfl, rfl, rfl, trivial⟩
       ·
        clear h66 h67
        subst e
        refine sr ?_
        refine vy (V.eq h68 rfl rfl) fun x17_38 h69 => ?_
        refine as_ ?_
        refine dn ?_
        refine CV.cond h69 rfl (fun e h70 => ?_) (fun e h70 => ?_)
        ·
         clear h68 h69
         subst e
         refine CV.skip ?_
         exact pa6 hS h70 ⟨rfl, rfl, rfl, rfl, rfl, rfl, trivial⟩
        ·
         clear h68 h69
         subst e
         refine sr ?_
         refine vy (V.eq h70 rfl rfl) fun x18_39 h71 => ?_
         refine as_ ?_
         refine dn ?_
         refine CV.cond h71 rfl (fun e h72 => ?_) (fun e h72 => ?_)
         ·
          clear h70 h71
          subst e
          refine CV.skip ?_
          exact pa6 hS h72 ⟨rfl, rfl, rfl, rfl, rfl, rfl, trivial⟩
         ·
          clear h70 h71
          subst e
          refine sr ?_
          refine vy (V.eq h72 rfl rfl) fun x19_40 h73 => ?_
          refine as_ ?_
          refine dn ?_
          refine CV.cond h73 rfl (fun e h74 => ?_) (fun e h74 => ?_)
          ·
           clear h72 h73
           subst e
           refine CV.skip ?_
           exact pa6 hS h74 ⟨rfl, rfl, rfl, rfl, rfl, rfl, trivial⟩
          ·
           clear h72 h73
           subst e
           refine CV.region ?_
           refine vy (V.eq h74 rfl rfl) fun x20_41 h75 => ?_
           refine as_ ?_
           refine LV.done ?_
           exact pa6 hS h75 ⟨rfl, rfl, rfl, rfl, rfl, rfl, trivial⟩
 ·
  intro y0 y3 y4 y5 y9 y10 T2 n2 ρ its hS h7
  unfold g158_k1 at h7
  clear h1 h2 h3 h4 h5 h6
  refine CV.cond h7 rfl (fun e h8 => ?_) (fun e h8 => ?_)
  ·
   clear h7
   subst e
   refine sr ?_
   refine mv ?_
   refine vy (V.lenS h8 rfl Cnf.ls170) fun x22_6 h9 => ?_
   refine vy (V.eq h9 rfl rfl) fun x23_7 h10 => ?_
   refine as_ ?_
   refine dn ?_
   refine CV.ret ?_
   refine PV.blockR ?_
   refine PV.thenR ?_
   cases h10
   exact PV.ret (by simp) Tryz.results158 hS (RS.tmp rfl RS.nil) rfl
  ·
   clear h7
   subst e
   refine cs6 X 0 3 4 5 9 24 [] (g158_k2 ro) ?_ ?_
   ·
    refine sr ?_
    refine vy (V.eq h8 rfl rfl) fun x25_30 h54 => ?_
    refine as_ ?_
    refine dn ?_
    refine CV.cond h54 rfl (fun e h55 => ?_) (fun e h55 => ?_)
    ·
     clear h8 h54
     subst e
     refine CV.skip ?_
     exact pa6 hS h55 ⟨rfl, rfl, rfl, rfl, rfl, rfl, trivial⟩
    ·
     clear h8 h54
     subst e
     refine CV.region ?_
     refine vy (V.eq h55 rfl rfl) fun x26_31 h56 => ?_
     refine as_ ?_
     refine LV.done ?_
     exact pa6 hS h56 ⟨rfl, rfl, rfl, rfl, rfl, rfl, trivial⟩
   ·
    intro y0 y3 y4 y5 y9 y24 T3 n3 ρ its hS h11
    unfold g158_k2 at h11
    clear h8
    refine CV.cond h11 rfl (fun e h12 => ?_) (fun e h12 => ?_)
    ·
     clear h11
     subst e
     cases h12
    ·
     clear h11
     subst e
     refine sr ?_
     refine vy (V.eq h12 rfl rfl) fun x31_8 h13 => ?_
     refine as_ ?_
     refine dn ?_
     refine CV.cond h13 rfl (fun e h14 => ?_) (fun e h14 => ?_)
     ·
      clear h12 h13
      subst e
      cases h14
     ·
      clear h12 h13
      subst e
      refine cs6 X 0 3 4 5 9 41 [] (g158_k3 ro) ?_ ?_
      ·
       refine sr ?_
       refine vy (V.eq h14 rfl rfl) fun x42_25 h45 => ?_
       refine as_ ?_
       refine dn ?_
       refine CV.cond h45 rfl (fun e h46 => ?_) (fun e h46 => ?_)
       ·
        clear h14 h45
        subst e
        refine CV.skip ?_
        exact pa6 hS h46 ⟨rfl, rfl, rfl, rfl, rfl, rfl, trivial⟩
       ·
        clear h14 h45
        subst e
        refine sr ?_
        refine vy (V.eq h46 rfl rfl) fun x43_26 h47 => ?_
        refine as_ ?_
        refine dn ?_
        refine CV.cond h47 rfl (fun e h48 => ?_) (fun e h48 => ?_)
        ·
         clear h46 h47
         subst e
         refine CV.skip ?_
         exact pa6 hS h48 ⟨rfl, rfl, rfl, rfl, rfl, rfl, trivial⟩
        ·
         clear h46 h47
         subst e
         refine sr ?_
         refine vy (V.eq h48 rfl rfl) fun x44_27 h49 => ?_
         refine as_ ?_
         refine dn ?_
         refine CV.cond h49 rfl (fun e h50 => ?_) (fun e h50 => ?_)
         ·
          clear h48 h49
          subst e
          refine CV.skip ?_
          exact pa6 hS h50 ⟨rfl, rfl, rfl, rfl, rfl, rfl, trivial⟩
         ·
          clear h48 h49
          subst e
          refine sr ?_
          refine vy (V.eq h50 rfl rfl) fun x45_28 h51 => ?_
          refine as_ ?_
          refine dn ?_
          refine CV.cond h51 rfl (fun e h52 => ?_) (fun e h52 => ?_)
          ·
           clear h50 h51
           subst e
           refine CV.skip ?_
           exact pa6 hS h52 ⟨rfl, rfl, rfl, rfl, rfl, rfl, trivial⟩
          ·
           clear h50 h51
           subst e
           refine CV.region ?_
           refine vy (V.eq h52 rfl rfl) fun x46_29 h53 => ?_
           refine as_ ?_
           refine LV.done ?_
           exact pa6 hS h53 ⟨rfl, rfl, rfl, rfl, rfl, rfl, trivial⟩
      ·
       intro y0 y3 y4 y5 y9 y41 T4 n4 ρ its hS h15
       unfold g158_k3 at h15
       clear h14
       refine CV.cond h15 rfl (fun e h16 => ?_) (fun e h16 => ?_)
       ·
        clear h15
        subst e
        refine sr ?_
        refine mv ?_
        refine mv ?_
        refine LV.call hS h16 (g212_ok _ _ _ _ _ _ _ ) hP rfl rfl rfl rfl fun x49_9 T5 n5 h17 ρ its hS => ?_
        refine as_ ?_
        refine dn ?_
        refine CV.ret ?_
        refine PV.blockR ?_
        refine PV.thenR ?_
        cases h17
        exact PV.ret (by simp) Tryz.results158 hS (RS.tmp rfl RS.nil) rfl
       ·
        clear h15
        subst e
        refine sr ?_
        refine vy (V.eq h16 rfl rfl) fun x51_10 h18 => ?_
        refine as_ ?_
        refine dn ?_
        refine CV.cond h18 rfl (fun e h19 => ?_) (fun e h19 => ?_)
        ·
         clear h16 h18
         subst e
         cases h19
        ·
         clear h16 h18
         subst e
         refine cs6 X 0 3 4 5 9 55 [] (g158_k4 ro) ?_ ?_
         ·
          refine sr ?_
          refine vy (V.eq h19 rfl rfl) fun x56_23 h42 => ?_
          refine as_ ?_
          refine dn ?_
          refine CV.cond h42 rfl (fun e h43 => ?_) (fun e h43 => ?_)
          ·
           clear h19 h42
           subst e
           refine CV.skip ?_
           exact pa6 hS h43 ⟨rfl, rfl, rfl, rfl, rfl, rfl, trivial⟩
          ·
           clear h19 h42
           subst e
           refine CV.region ?_
           refine vy (V.eq h43 rfl rfl) fun x57_24 h44 => ?_
           refine as_ ?_
           refine LV.done ?_
           exact pa6 hS h44 ⟨rfl, rfl, rfl, rfl, rfl, rfl, trivial⟩
         ·
          intro y0 y3 y4 y5 y9 y55 T6 n6 ρ its hS h20
          unfold g158_k4 at h20
          clear h19
          refine CV.cond h20 rfl (fun e h21 => ?_) (fun e h21 => ?_)
          ·
           clear h20
           subst e
           cases h21
          ·
           clear h20
           subst e
           refine sr ?_
           refine vy (V.eq h21 rfl rfl) fun x62_11 h22 => ?_
           refine as_ ?_
           refine dn ?_
           refine CV.cond h22 rfl (fun e h23 => ?_) (fun e h23 => ?_)
           ·
            clear h21 h22
            subst e
            cases h23
           ·
            clear h21 h22
            subst e
            refine sr ?_
            refine vy (V.eq h23 rfl rfl) fun x72_12 h24 => ?_
            refine as_ ?_
            refine dn ?_
            refine CV.cond h24 rfl (fun e h25 => ?_) (fun e h25 => ?_)
            ·
             clear h23 h24
             subst e
             cases h25
            ·
             clear h23 h24
             subst e
             refine sr ?_
             refine vy (V.eq h25 rfl rfl) fun x89_13 h26 => ?_
             refine as_ ?_
             refine dn ?_
             refine CV.cond h26 rfl (fun e h27 => ?_) (fun e h27 => ?_)
             ·
              clear h25 h26
              subst e
              cases h27
             ·
              clear h25 h26
              subst e
              refine sr ?_
              refine vy (V.eq h27 rfl rfl) fun x111_14 h28 => ?_
              refine as_ ?_
              refine dn ?_
              refine CV.cond h28 rfl (fun e h29 => ?_) (fun e h29 => ?_)
              ·
               clear h27 h28
               subst e
               cases h29
              ·
               clear h27 h28
               subst e
               refine sr ?_
               refine vy (V.eq h29 rfl rfl) fun x123_15 h30 => ?_
               refine as_ ?_
               refine dn ?_
               refine CV.cond h30 rfl (fun e h31 => ?_) (fun e h31 => ?_)
               ·
                clear h29 h30
                subst e
                cases h31
               ·
                clear h29 h30
                subst e
                refine sr ?_
                refine vy (V.eq h31 rfl rfl) fun x147_16 h32 => ?_
                refine as_ ?_
                refine dn ?_
                refine CV.cond h32 rfl (fun e h33 => ?_) (fun e h33 => ?_)
                ·
                 clear h31 h32
                 subst e
                 refine sr ?_
                 refine mv ?_
                 refine vy (V.lenS h33 rfl Cnf.ls170) fun x149_17 h34 => ?_
                 refine vy (V.gt h34 rfl rfl) fun x150_18 h35 => ?_
                 refine mv ?_
                 refine ls5 X 0 3 4 5 155 [] (g158_k5 ro) 4 ?_ ?_
                 ·
                  rcases condK_inv h35 with ⟨e, h37⟩ | ⟨e, h37⟩
                  ·
                   clear h33 h34 h35
                   subst e
                   refine mv ?_
                   refine mv ?_
                   refine LV.call hS h37 (g214_ok _ _ _ _ _ _ ) hP rfl rfl rfl rfl fun x154_19 T8 n8 h38 ρ its hS => ?_
                   refine pu ?_
                   exact la5 hS h38 ⟨rfl, rfl, rfl, rfl, rfl, trivial⟩
                  ·
                   clear h33 h34 h35
                   subst e
                   refine sk ?_
                   refine sk ?_
                   refine sk ?_
                   refine pu ?_
                   exact la5 hS h37 ⟨rfl, rfl, rfl, rfl, rfl, trivial⟩
                 ·
                  intro y0 y3 y4 y5 y155 T7 n7 ρ its hS h36
                  unfold g158_k5 at h36
                  clear h33 h34 h35
                  refine as_ ?_
                  refine dn ?_
                  refine CV.ret ?_
                  refine PV.blockR ?_
                  refine PV.thenR ?_
                  cases h36
                  exact PV.ret (by simp) Tryz.results158 hS (RS.tmp rfl RS.nil) rfl
                ·
                 clear h31 h32
                 subst e
                 refine CV.skip ?_
                 refine PV.blockN ?_
                 refine PV.thenN ?_
                 refine sr ?_
                 refine mv ?_
                 refine vy (V.fa h33 rfl Cnf.fo172_0) fun x157_20 h39 => ?_
                 refine vy (V.ld hS h39 rfl Cnf.one3) fun x158_21 h40 => ?_
                 refine mv ?_
                 refine LV.call hS h40 (g223_ok _ _ _ _ _ _ ) hP rfl rfl rfl rfl fun x160_22 T9 n9 h41 ρ its hS => ?_
                 refine as_ ?_
                 refine dn ?_
                 refine CV.ret ?_
                 cases h41
                 exact PV.ret (by simp) Tryz.results158 hS (RS.tmp rfl RS.nil) rfl
noncomputable def g159_k2 (ro : List HT) (lp1 : AV → AV → AV → AV → HT → Nat → R) (y0 y2 y5 y6 y18 : AV) (T2 : HT) (n2 : Nat) : R :=
 condK 1590015 y18
 (
  .bad 1590016
 )
 (
  addK Tryz.prog 3 (.tmp 6) (.const (.int .i64 (.ofNat 1))) 1590017 y6 (.lit (.int .i64 (.ofNat 1))) fun x19_5 =>
  lp1 y0 y2 y5 x19_5 T2 n2
 )
noncomputable def g159_k3 (ro : List HT) (y2 y35 : AV) (T3 : HT) (n3 : Nat) : R :=
 .ok (.val y35) T3 n3
noncomputable def g159_k5 (ro : List HT) (y2 y34 : AV) (T5 : HT) (n5 : Nat) : R :=
 g159_k3 ro y2 y34 T5 n5
noncomputable def g159_k4 (ro : List HT) (y0 y2 y29 : AV) (T4 : HT) (n4 : Nat) : R :=
 condK 1590037 y29
 (
  lenTK 1590039 y0 fun x32_10 =>
  leK Tryz.prog 3 (.tmp 32) (.const (.int .i64 (.ofNat 600))) 1590040 x32_10 (.lit (.int .i64 (.ofNat 600))) fun x33_11 =>
  g159_k5 ro y2 x33_11 T4 n4
 )
 (
  g159_k5 ro y2 (.lit (.bool false)) T4 n4
 )
noncomputable def g159_b1 (ro : List HT) (lp1 : AV → AV → AV → AV → HT → Nat → R) (y0 y2 y5 y6 : AV) (T1 : HT) (n1 : Nat) : R :=
 ltK Tryz.prog 3 (.tmp 6) (.tmp 5) 1590006 y6 y5 fun x7_2 =>
 condK 1590007 x7_2
 (
  ixK 1590012 y0 y6 fun x11_3 =>
  ltK Tryz.prog 5 (.tmp 11) (.const (.int .u8 (.ofNat 48))) 1590013 x11_3 (.lit (.int .u8 (.ofNat 48))) fun x12_4 =>
  condK 1590019 x12_4
  (
   g159_k2 ro lp1 y0 y2 y5 y6 (.lit (.bool true)) T1 n1
  )
  (
   ixK 1590023 y0 y6 fun x16_6 =>
   gtK Tryz.prog 5 (.tmp 16) (.const (.int .u8 (.ofNat 57))) 1590024 x16_6 (.lit (.int .u8 (.ofNat 57))) fun x17_7 =>
   g159_k2 ro lp1 y0 y2 y5 y6 x17_7 T1 n1
  )
 )
 (
  eqSK Tryz.prog 9 (.tmp 20) (.const (.string ⟨⟨[48]⟩⟩)) 1590027 y0 (.lit (.string ⟨⟨[48]⟩⟩)) fun x21_8 =>
  condK 1590030 x21_8
  (
   g159_k3 ro y2 (.lit (.bool true)) T1 n1
  )
  (
   neSK Tryz.prog 9 (.tmp 23) (.const (.string ⟨⟨[]⟩⟩)) 1590033 y0 (.lit (.string ⟨⟨[]⟩⟩)) fun x24_9 =>
   condK 1590043 x24_9
   (
    ixK 1590045 y0 (.lit (.int .i64 (.ofNat 0))) fun x27_12 =>
    neK Tryz.prog 5 (.tmp 27) (.const (.int .u8 (.ofNat 48))) 1590046 x27_12 (.lit (.int .u8 (.ofNat 48))) fun x28_13 =>
    g159_k4 ro y0 y2 x28_13 T1 n1
   )
   (
    g159_k4 ro y0 y2 (.lit (.bool false)) T1 n1
   )
  )
 )
noncomputable def g159 (ro : List HT) (a0 : AV) (T : HT) (nx : Nat) : R :=
 lenTK 1590003 a0 fun x5_1 =>
 lpf4 1590005 (g159_b1 ro) 100000 a0 (.lit (.bool false)) x5_1 (.lit (.int .i64 (.ofNat 0))) T nx
theorem g159_ok (ro : List HT) (a0 : AV) (T : HT) (nx : Nat) : GOk Tryz.prog envE 159 [a0] ro T nx (g159 ro a0 T nx) := by
 refine GOk.of_body Tryz.func159 rfl Tryz.ntmps159 (by kernel_rfl) rfl fun r T' n' h1 w0 base ρ0 its hS hP => ?_
 have X : CtxW envE ρ0 ro r T' n' := trivial
 unfold g159 at h1
 refine sr ?_
 refine as_ ?_
 refine dn ?_
 refine CV.seq ?_
 refine sr ?_
 refine mv ?_
 refine vy (V.lenT h1 rfl Cnf.ls9) fun x5_1 h2 => ?_
 refine mv ?_
 refine dn ?_
 refine CV.block ?_
 refine cl4 X 0 2 5 6 [] hS h2 ⟨rfl, rfl, rfl, rfl, trivial⟩ ?_
 intro f1 y0 y2 y5 y6 T1 n1 ρ its hS h3
 unfold g159_b1 at h3
 clear h1 h2
 refine sr ?_
 refine vy (V.lt h3 rfl rfl) fun x7_2 h4 => ?_
 refine dn ?_
 refine CV.seq ?_
 refine CV.cond h4 rfl (fun e h5 => ?_) (fun e h5 => ?_)
 ·
  clear h3 h4
  subst e
  refine CV.skip ?_
  refine PV.thenN ?_
  refine CV.seq ?_
  refine CV.block ?_
  refine sr ?_
  refine mv ?_
  refine as_ ?_
  refine dn ?_
  refine sr ?_
  refine mv ?_
  refine mv ?_
  refine vy (V.ix h5 rfl rfl Cnf.st9) fun x11_3 h6 => ?_
  refine vy (V.lt h6 rfl rfl) fun x12_4 h7 => ?_
  refine mv ?_
  refine ls5 X 0 2 5 6 18 [] (g159_k2 ro (lpf4 1590005 (g159_b1 ro) f1)) 5 ?_ ?_
  ·
   rcases condK_inv h7 with ⟨e, h11⟩ | ⟨e, h11⟩
   ·
    clear h5 h6 h7
    subst e
    refine sk ?_
    refine sk ?_
    refine sk ?_
    refine sk ?_
    refine pu ?_
    exact la5 hS h11 ⟨rfl, rfl, rfl, rfl, rfl, trivial⟩
   ·
    clear h5 h6 h7
    subst e
    refine mv ?_
    refine mv ?_
    refine vy (V.ix h11 rfl rfl Cnf.st9) fun x16_6 h12 => ?_
    refine vy (V.gt h12 rfl rfl) fun x17_7 h13 => ?_
    refine pu ?_
    exact la5 hS h13 ⟨rfl, rfl, rfl, rfl, rfl, trivial⟩
  ·
   intro y0 y2 y5 y6 y18 T2 n2 ρ its hS h8
   unfold g159_k2 at h8
   clear h5 h6 h7
   refine dn ?_
   refine CV.cond h8 rfl (fun e h9 => ?_) (fun e h9 => ?_)
   ·
    clear h8
    subst e
    cases h9
   ·
    clear h8
    subst e
    refine CV.skip ?_
    refine PV.blockN ?_
    refine PV.thenN ?_
    refine CV.region ?_
    refine vy (V.add h9 rfl rfl) fun x19_5 h10 => ?_
    refine mv ?_
    refine LV.done ?_
    exact pb4 hS h10 ⟨rfl, rfl, rfl, rfl, trivial⟩
 ·
  clear h3 h4
  subst e
  refine CV.exit ?_
  refine PV.thenE ?_
  refine PV.thenE ?_
  refine PV.blockE ?_
  refine PV.thenN ?_
  refine sr ?_
  refine mv ?_
  refine vy (V.eqS h5 rfl rfl) fun x21_8 h14 => ?_
  refine mv ?_
  refine ls2 X 2 35 [] (g159_k3 ro) 13 ?_ ?_
  ·
   rcases condK_inv h14 with ⟨e, h16⟩ | ⟨e, h16⟩
   ·
    clear h5 h14
    subst e
    refine sk ?_
    refine sk ?_
    refine sk ?_
    refine sk ?_
    refine sk ?_
    refine sk ?_
    refine sk ?_
    refine sk ?_
    refine sk ?_
    refine sk ?_
    refine sk ?_
    refine sk ?_
    refine pu ?_
    exact la2 hS h16 ⟨rfl, rfl, trivial⟩
   ·
    clear h5 h14
    subst e
    refine mv ?_
    refine vy (V.neS h16 rfl rfl) fun x24_9 h17 => ?_
    refine mv ?_
    refine ls3 X 0 2 29 [(22, (.lit (.bool false)))] (g159_k4 ro) 4 ?_ ?_
    ·
     rcases condK_inv h17 with ⟨e, h23⟩ | ⟨e, h23⟩
     ·
      clear h16 h17
      subst e
      refine mv ?_
      refine vy (V.ix h23 rfl rfl Cnf.st9) fun x27_12 h24 => ?_
      refine vy (V.ne h24 rfl rfl) fun x28_13 h25 => ?_
      refine pu ?_
      exact la3 hS h25 ⟨rfl, rfl, rfl, rfl, trivial⟩
     ·
      clear h16 h17
      subst e
      refine sk ?_
      refine sk ?_
      refine sk ?_
      refine pu ?_
      exact la3 hS h23 ⟨rfl, rfl, rfl, rfl, trivial⟩
    ·
     intro y0 y2 y29 T4 n4 ρ its hS h18
     unfold g159_k4 at h18
     clear h16 h17
     refine mv ?_
     refine ls2 X 2 34 [(22, (.lit (.bool false)))] (g159_k5 ro) 4 ?_ ?_
     ·
      rcases condK_inv h18 with ⟨e, h20⟩ | ⟨e, h20⟩
      ·
       clear h18
       subst e
       refine mv ?_
       refine vy (V.lenT h20 rfl Cnf.ls9) fun x32_10 h21 => ?_
       refine vy (V.le h21 rfl rfl) fun x33_11 h22 => ?_
       refine pu ?_
       exact la2 hS h22 ⟨rfl, rfl, rfl, trivial⟩
      ·
       clear h18
       subst e
       refine sk ?_
       refine sk ?_
       refine sk ?_
       refine pu ?_
       exact la2 hS h20 ⟨rfl, rfl, rfl, trivial⟩
     ·
      intro y2 y34 T5 n5 ρ its hS h19
      unfold g159_k5 at h19
      clear h18
      refine pu ?_
      exact la2 hS h19 ⟨rfl, rfl, trivial⟩
  ·
   intro y2 y35 T3 n3 ρ its hS h15
   unfold g159_k3 at h15
   clear h5 h14
   refine as_ ?_
   refine dn ?_
   refine CV.ret ?_
   cases h15
   exact PV.ret (by simp) Tryz.results159 hS (RS.tmp rfl RS.nil) rfl
noncomputable def g118_k2 (ro : List HT) (y0 y3 y4 y20 : AV) (T4 : HT) (n4 : Nat) : R :=
 .ok (.val y20) T4 n4
noncomputable def g118_k3 (ro : List HT) (y0 y3 y4 y30 : AV) (T7 : HT) (n7 : Nat) : R :=
 .ok (.val y30) T7 n7
noncomputable def g118_k5 (ro : List HT) (y4 y44 : AV) (T10 : HT) (n10 : Nat) : R :=
 .ok (.val y44) T10 n10
noncomputable def g118_k4 (ro : List HT) (y0 y3 y4 y31 : AV) (T9 : HT) (n9 : Nat) : R :=
 condK 1180031 y31
 (
  .bad 1180032
 )
 (
  faK 1180033 y3 3 fun x37_15 =>
  ldK 1180034 T9 ro x37_15 fun x38_16 =>
  eqSK Tryz.prog 9 (.tmp 38) (.const (.string ⟨⟨[]⟩⟩)) 1180035 x38_16 (.lit (.string ⟨⟨[]⟩⟩)) fun x39_17 =>
  condK 1180038 x39_17
  (
   ldAK 1180040 T9 ro y3 5 fun x42_18 =>
   callK (g158 ro y0 x42_18 T9 n9) fun x43_19 T11 n11 =>
   g118_k5 ro y4 x43_19 T11 n11
  )
  (
   g118_k5 ro y4 (.lit (.bool false)) T9 n9
  )
 )
noncomputable def g118_k1 (ro : List HT) (y0 y3 y4 y6 y7 : AV) (T2 : HT) (n2 : Nat) : R :=
 condK 1180005 y7
 (
  faK 1180006 y3 3 fun x13_4 =>
  ldK 1180007 T2 ro x13_4 fun x14_5 =>
  callK (g157 ro x14_5 T2 n2) fun x15_6 T3 n3 =>
  condK 1180011 x15_6
  (
   ldAK 1180013 T3 ro y3 5 fun x18_7 =>
   callK (g158 ro y0 x18_7 T3 n3) fun x19_8 T5 n5 =>
   g118_k2 ro y0 y3 y4 x19_8 T5 n5
  )
  (
   g118_k2 ro y0 y3 y4 (.lit (.bool false)) T3 n3
  )
 )
 (
  eqK Tryz.prog 3 (.tmp 6) (.const (.int .i64 (.ofNat 4))) 1180017 y6 (.lit (.int .i64 (.ofNat 4))) fun x22_9 =>
  condK 1180019 x22_9
  (
   faK 1180020 y3 3 fun x23_10 =>
   ldK 1180021 T2 ro x23_10 fun x24_11 =>
   callK (g159 ro x24_11 T2 n2) fun x25_12 T6 n6 =>
   condK 1180025 x25_12
   (
    ldAK 1180027 T6 ro y3 5 fun x28_13 =>
    callK (g158 ro y0 x28_13 T6 n6) fun x29_14 T8 n8 =>
    g118_k3 ro y0 y3 y4 x29_14 T8 n8
   )
   (
    g118_k3 ro y0 y3 y4 (.lit (.bool false)) T6 n6
   )
  )
  (
   eqK Tryz.prog 3 (.tmp 6) (.const (.int .i64 (.ofNat 5))) 1180044 y6 (.lit (.int .i64 (.ofNat 5))) fun x32_20 =>
   condK 1180046 x32_20
   (
    g118_k4 ro y0 y3 y4 (.lit (.bool true)) T2 n2
   )
   (
    eqK Tryz.prog 3 (.tmp 6) (.const (.int .i64 (.ofNat 42))) 1180047 y6 (.lit (.int .i64 (.ofNat 42))) fun x33_21 =>
    g118_k4 ro y0 y3 y4 x33_21 T2 n2
   )
  )
 )
noncomputable def g118 (ro : List HT) (a0 a1 : AV) (T : HT) (nx : Nat) : R :=
 boxK 1180001 T nx a1 172 fun x3_1 T1 n1 =>
 faK 1180003 x3_1 0 fun x5_2 =>
 ldK 1180004 T1 ro x5_2 fun x6_3 =>
 eqK Tryz.prog 3 (.tmp 6) (.const (.int .i64 (.ofNat 6))) 1180049 x6_3 (.lit (.int .i64 (.ofNat 6))) fun x8_22 =>
 condK 1180051 x8_22
 (
  g118_k1 ro a0 x3_1 (.lit (.bool false)) x6_3 (.lit (.bool true)) T1 n1
 )
 (
  eqK Tryz.prog 3 (.tmp 6) (.const (.int .i64 (.ofNat 11))) 1180052 x6_3 (.lit (.int .i64 (.ofNat 11))) fun x9_23 =>
  condK 1180054 x9_23
  (
   g118_k1 ro a0 x3_1 (.lit (.bool false)) x6_3 (.lit (.bool true)) T1 n1
  )
  (
   eqK Tryz.prog 3 (.tmp 6) (.const (.int .i64 (.ofNat 12))) 1180055 x6_3 (.lit (.int .i64 (.ofNat 12))) fun x10_24 =>
   condK 1180057 x10_24
   (
    g118_k1 ro a0 x3_1 (.lit (.bool false)) x6_3 (.lit (.bool true)) T1 n1
   )
   (
    eqK Tryz.prog 3 (.tmp 6) (.const (.int .i64 (.ofNat 45))) 1180058 x6_3 (.lit (.int .i64 (.ofNat 45))) fun x11_25 =>
    condK 1180060 x11_25
    (
     g118_k1 ro a0 x3_1 (.lit (.bool false)) x6_3 (.lit (.bool true)) T1 n1
    )
    (
     eqK Tryz.prog 3 (.tmp 6) (.const (.int .i64 (.ofNat 46))) 1180061 x6_3 (.lit (.int .i64 (.ofNat 46))) fun x12_26 =>
     g118_k1 ro a0 x3_1 (.lit (.bool false)) x6_3 x12_26 T1 n1
    )
   )
  )
 )
theorem g118_ok (ro : List HT) (a0 a1 : AV) (T : HT) (nx : Nat) : GOk Tryz.prog envE 118 [a0, a1] ro T nx (g118 ro a0 a1 T nx) := by
 refine GOk.of_body Tryz.func118 rfl Tryz.ntmps118 (by kernel_rfl) rfl fun r T' n' h1 w0 base ρ0 its hS hP => ?_
 have X : CtxW envE ρ0 ro r T' n' := trivial
 unfold g118 at h1
 refine sr ?_
 refine LV.box hS h1 rfl rfl rfl rfl rfl fun x3_1 T1 n1 h2 ρ its hS hdr => ?_
 refine as_ ?_
 refine dn ?_
 refine CV.seq ?_
 refine sr ?_
 refine vy (V.fa h2 rfl Cnf.fo172_0) fun x5_2 h3 => ?_
 refine vy (V.ld hS h3 rfl Cnf.one3) fun x6_3 h4 => ?_
 refine dn ?_
 refine CV.block ?_
 refine cs5 X 0 3 4 6 7 [] (g118_k1 ro) ?_ ?_
 ·
  refine sr ?_
  refine vy (V.eq h4 rfl rfl) fun x8_22 h35 => ?_
  refine as_ ?_
  refine dn ?_
  refine CV.cond h35 rfl (fun e h36 => ?_) (fun e h36 => ?_)
  ·
   clear h1 h2 h3 h4 h35
   subst e
   refine CV.skip ?_
   exact pa5 hS h36 ⟨rfl, rfl, rfl, rfl, rfl, trivial⟩
  ·
   clear h1 h2 h3 h4 h35
   subst e
   refine sr ?_
   refine vy (V.eq h36 rfl rfl) fun x9_23 h37 => ?_
   refine as_ ?_
   refine dn ?_
   refine CV.cond h37 rfl (fun e h38 => ?_) (fun e h38 => ?_)
   ·
    clear h36 h37
    subst e
    refine CV.skip ?_
    exact pa5 hS h38 ⟨rfl, rfl, rfl, rfl, rfl, trivial⟩
   ·
    clear h36 h37
    subst e
    refine sr ?_
    refine vy (V.eq h38 rfl rfl) fun x10_24 h39 => ?_
    refine as_ ?_
    refine dn ?_
    refine CV.cond h39 rfl (fun e h40 => ?_) (fun e h40 => ?_)
    ·
     clear h38 h39
     subst e
     refine CV.skip ?_
     exact pa5 hS h40 ⟨rfl, rfl, rfl, rfl, rfl, trivial⟩
    ·
     clear h38 h39
     subst e
     refine sr ?_
     refine vy (V.eq h40 rfl rfl) fun x11_25 h41 => ?_
     refine as_ ?_
     refine dn ?_
     refine CV.cond h41 rfl (fun e h42 => ?_) (fun e h42 => ?_)
     ·
      clear h40 h41
      subst e
      refine CV.skip ?_
      exact pa5 hS h42 ⟨rfl, rfl, rfl, rfl, rfl, trivial⟩
     ·
      clear h40 h41
      subst e
      refine CV.region ?_
      refine vy (V.eq h42 rfl rfl) fun x12_26 h43 => ?_
      refine as_ ?_
      refine LV.done ?_
      exact pa5 hS h43 ⟨rfl, rfl, rfl, rfl, rfl, trivial⟩
 ·
  intro y0 y3 y4 y6 y7 T2 n2 ρ its hS h5
  unfold g118_k1 at h5
  clear h1 h2 h3 h4
  refine CV.cond h5 rfl (fun e h6 => ?_) (fun e h6 => ?_)
  ·
   clear h5
   subst e
   refine sr ?_
   refine vy (V.fa h6 rfl Cnf.fo172_3) fun x13_4 h7 => ?_
   refine vy (V.ld hS h7 rfl Cnf.one9) fun x14_5 h8 => ?_
   refine LV.call hS h8 (g157_ok _ _ _ _ ) hP rfl rfl rfl rfl fun x15_6 T3 n3 h9 ρ its hS => ?_
   refine mv ?_
   refine ls4 X 0 3 4 20 [] (g118_k2 ro) 4 ?_ ?_
   ·
    rcases condK_inv h9 with ⟨e, h11⟩ | ⟨e, h11⟩
    ·
     clear h6 h7 h8 h9
     subst e
     refine mv ?_
     refine vy (V.ldA hS h11 rfl Cnf.agg172) fun x18_7 h12 => ?_
     refine LV.call hS h12 (g158_ok _ _ _ _ _ ) hP rfl rfl rfl rfl fun x19_8 T5 n5 h13 ρ its hS => ?_
     refine pu ?_
     exact la4 hS h13 ⟨rfl, rfl, rfl, rfl, trivial⟩
    ·
     clear h6 h7 h8 h9
     subst e
     refine sk ?_
     refine sk ?_
     refine sk ?_
     refine pu ?_
     exact la4 hS h11 ⟨rfl, rfl, rfl, rfl, trivial⟩
   ·
    intro y0 y3 y4 y20 T4 n4 ρ its hS h10
    unfold g118_k2 at h10
    clear h6 h7 h8 h9
    refine as_ ?_
    refine dn ?_
    refine CV.ret ?_
    refine PV.blockR ?_
    refine PV.thenR ?_
    cases h10
    exact PV.ret (by simp) Tryz.results118 hS (RS.tmp rfl RS.nil) rfl
  ·
   clear h5
   subst e
   refine sr ?_
   refine vy (V.eq h6 rfl rfl) fun x22_9 h14 => ?_
   refine as_ ?_
   refine dn ?_
   refine CV.cond h14 rfl (fun e h15 => ?_) (fun e h15 => ?_)
   ·
    clear h6 h14
    subst e
    refine sr ?_
    refine vy (V.fa h15 rfl Cnf.fo172_3) fun x23_10 h16 => ?_
    refine vy (V.ld hS h16 rfl Cnf.one9) fun x24_11 h17 => ?_
    refine LV.call hS h17 (g159_ok _ _ _ _ ) hP rfl rfl rfl rfl fun x25_12 T6 n6 h18 ρ its hS => ?_
    refine mv ?_
    refine ls4 X 0 3 4 30 [] (g118_k3 ro) 4 ?_ ?_
    ·
     rcases condK_inv h18 with ⟨e, h20⟩ | ⟨e, h20⟩
     ·
      clear h15 h16 h17 h18
      subst e
      refine mv ?_
      refine vy (V.ldA hS h20 rfl Cnf.agg172) fun x28_13 h21 => ?_
      refine LV.call hS h21 (g158_ok _ _ _ _ _ ) hP rfl rfl rfl rfl fun x29_14 T8 n8 h22 ρ its hS => ?_
      refine pu ?_
      exact la4 hS h22 ⟨rfl, rfl, rfl, rfl, trivial⟩
     ·
      clear h15 h16 h17 h18
      subst e
      refine sk ?_
      refine sk ?_
      refine sk ?_
      refine pu ?_
      exact la4 hS h20 ⟨rfl, rfl, rfl, rfl, trivial⟩
    ·
     intro y0 y3 y4 y30 T7 n7 ρ its hS h19
     unfold g118_k3 at h19
     clear h15 h16 h17 h18
     refine as_ ?_
     refine dn ?_
     refine CV.ret ?_
     refine PV.blockR ?_
     refine PV.thenR ?_
     cases h19
     exact PV.ret (by simp) Tryz.results118 hS (RS.tmp rfl RS.nil) rfl
   ·
    clear h6 h14
    subst e
    refine cs4 X 0 3 4 31 [] (g118_k4 ro) ?_ ?_
    ·
     refine sr ?_
     refine vy (V.eq h15 rfl rfl) fun x32_20 h32 => ?_
     refine as_ ?_
     refine dn ?_
     refine CV.cond h32 rfl (fun e h33 => ?_) (fun e h33 => ?_)
     ·
      clear h15 h32
      subst e
      refine CV.skip ?_
      exact pa4 hS h33 ⟨rfl, rfl, rfl, rfl, trivial⟩
     ·
      clear h15 h32
      subst e
      refine CV.region ?_
      refine vy (V.eq h33 rfl rfl) fun x33_21 h34 => ?_
      refine as_ ?_
      refine LV.done ?_
      exact pa4 hS h34 ⟨rfl, rfl, rfl, rfl, trivial⟩
    ·
     intro y0 y3 y4 y31 T9 n9 ρ its hS h23
     unfold g118_k4 at h23
     clear h15
     refine CV.cond h23 rfl (fun e h24 => ?_) (fun e h24 => ?_)
     ·
      clear h23
      subst e
      cases h24
     ·
      clear h23
      subst e
      refine CV.skip ?_
      refine PV.blockN ?_
      refine PV.thenN ?_
      refine sr ?_
      refine vy (V.fa h24 rfl Cnf.fo172_3) fun x37_15 h25 => ?_
      refine vy (V.ld hS h25 rfl Cnf.one9) fun x38_16 h26 => ?_
      refine vy (V.eqS h26 rfl rfl) fun x39_17 h27 => ?_
      refine mv ?_
      refine ls2 X 4 44 [] (g118_k5 ro) 4 ?_ ?_
      ·
       rcases condK_inv h27 with ⟨e, h29⟩ | ⟨e, h29⟩
       ·
        clear h24 h25 h26 h27
        subst e
        refine mv ?_
        refine vy (V.ldA hS h29 rfl Cnf.agg172) fun x42_18 h30 => ?_
        refine LV.call hS h30 (g158_ok _ _ _ _ _ ) hP rfl rfl rfl rfl fun x43_19 T11 n11 h31 ρ its hS => ?_
        refine pu ?_
        exact la2 hS h31 ⟨rfl, rfl, trivial⟩
       ·
        clear h24 h25 h26 h27
        subst e
        refine sk ?_
        refine sk ?_
        refine sk ?_
        refine pu ?_
        exact la2 hS h29 ⟨rfl, rfl, trivial⟩
      ·
       intro y4 y44 T10 n10 ρ its hS h28
       unfold g118_k5 at h28
       clear h24 h25 h26 h27
       refine as_ ?_
       refine dn ?_
       refine CV.ret ?_
       cases h28
       exact PV.ret (by simp) Tryz.results118 hS (RS.tmp rfl RS.nil) rfl
noncomputable def g160_b1 (ro : List HT) (lp1 : AV → AV → AV → AV → AV → HT → Nat → R) (y0 y1 y4 y7 y8 : AV) (T1 : HT) (n1 : Nat) : R :=
 ltK Tryz.prog 3 (.tmp 8) (.tmp 7) 1600006 y8 y7 fun x9_2 =>
 condK 1600007 x9_2
 (
  iaK 1600013 y0 y8 1 fun x14_3 =>
  ldK 1600014 T1 ro x14_3 fun x15_4 =>
  bin0 Tryz.prog .eql 4 (.tmp 11) (.tmp 15) 1600015 y1 x15_4 fun x16_5 =>
  condK 1600016 x16_5
  (
   .ok (.val y8) T1 n1
  )
  (
   addK Tryz.prog 3 (.tmp 8) (.const (.int .i64 (.ofNat 1))) 1600019 y8 (.lit (.int .i64 (.ofNat 1))) fun x18_6 =>
   lp1 y0 y1 y4 y7 x18_6 T1 n1
  )
 )
 (
  .ok (.val (.lit (.int .i64 (.negSucc 0)))) T1 n1
 )
noncomputable def g160 (ro : List HT) (a0 a1 : AV) (T : HT) (nx : Nat) : R :=
 lenSK 1600003 a0 fun x7_1 =>
 lpf5 1600005 (g160_b1 ro) 100000 a0 a1 (.lit (.int .i64 (.ofNat 0))) x7_1 (.lit (.int .i64 (.ofNat 0))) T nx
theorem g160_ok (ro : List HT) (a0 a1 : AV) (T : HT) (nx : Nat) : GOk Tryz.prog envE 160 [a0, a1] ro T nx (g160 ro a0 a1 T nx) := by
 refine GOk.of_body Tryz.func160 rfl Tryz.ntmps160 (by kernel_rfl) rfl fun r T' n' h1 w0 base ρ0 its hS hP => ?_
 have X : CtxW envE ρ0 ro r T' n' := trivial
 unfold g160 at h1
 refine sr ?_
 refine as_ ?_
 refine dn ?_
 refine CV.seq ?_
 refine sr ?_
 refine mv ?_
 refine vy (V.lenS h1 rfl Cnf.ls235) fun x7_1 h2 => ?_
 refine mv ?_
 refine dn ?_
 refine CV.block ?_
 refine cl5 X 0 1 4 7 8 [] hS h2 ⟨rfl, rfl, rfl, rfl, rfl, trivial⟩ ?_
 intro f1 y0 y1 y4 y7 y8 T1 n1 ρ its hS h3
 unfold g160_b1 at h3
 clear h1 h2
 refine sr ?_
 refine vy (V.lt h3 rfl rfl) fun x9_2 h4 => ?_
 refine dn ?_
 refine CV.seq ?_
 refine CV.cond h4 rfl (fun e h5 => ?_) (fun e h5 => ?_)
 ·
  clear h3 h4
  subst e
  refine CV.skip ?_
  refine PV.thenN ?_
  refine CV.seq ?_
  refine CV.block ?_
  refine sr ?_
  refine mv ?_
  refine as_ ?_
  refine dn ?_
  refine sr ?_
  refine mv ?_
  refine mv ?_
  refine mv ?_
  refine vy (V.ia h5 rfl rfl Cnf.el235) fun x14_3 h6 => ?_
  refine vy (V.ld hS h6 rfl Cnf.one4) fun x15_4 h7 => ?_
  refine vy (V.bin0 h7 rfl rfl) fun x16_5 h8 => ?_
  refine dn ?_
  refine CV.cond h8 rfl (fun e h9 => ?_) (fun e h9 => ?_)
  ·
   clear h5 h6 h7 h8
   subst e
   refine sr ?_
   refine mv ?_
   refine as_ ?_
   refine dn ?_
   refine CV.ret ?_
   refine PV.blockR ?_
   refine PV.thenR ?_
   refine PV.thenR ?_
   refine PV.blockR ?_
   refine PV.thenR ?_
   cases h9
   exact PV.ret (by simp) Tryz.results160 hS (RS.tmp rfl RS.nil) rfl
  ·
   clear h5 h6 h7 h8
   subst e
   refine CV.skip ?_
   refine PV.blockN ?_
   refine PV.thenN ?_
   refine CV.region ?_
   refine vy (V.add h9 rfl rfl) fun x18_6 h10 => ?_
   refine mv ?_
   refine LV.done ?_
   exact pb5 hS h10 ⟨rfl, rfl, rfl, rfl, rfl, trivial⟩
 ·
  clear h3 h4
  subst e
  refine CV.exit ?_
  refine PV.thenE ?_
  refine PV.thenE ?_
  refine PV.blockE ?_
  refine PV.thenN ?_
  refine sr ?_
  refine as_ ?_
  refine dn ?_
  refine CV.ret ?_
  cases h5
  exact PV.ret (by simp) Tryz.results160 hS (RS.tmp rfl RS.nil) rfl
noncomputable def g119 (ro : List HT) (a0 a1 : AV) (T : HT) (nx : Nat) : R :=
 callK (g160 ro a0 a1 T nx) fun x7_1 T1 n1 =>
 geK Tryz.prog 3 (.tmp 7) (.const (.int .i64 (.ofNat 0))) 1190005 x7_1 (.lit (.int .i64 (.ofNat 0))) fun x8_2 =>
 .ok (.val x8_2) T1 n1
theorem g119_ok (ro : List HT) (a0 a1 : AV) (T : HT) (nx : Nat) : GOk Tryz.prog envE 119 [a0, a1] ro T nx (g119 ro a0 a1 T nx) := by
 refine GOk.of_body Tryz.func119 rfl Tryz.ntmps119 (by kernel_rfl) rfl fun r T' n' h1 w0 base ρ0 its hS hP => ?_
 have X : CtxW envE ρ0 ro r T' n' := trivial
 unfold g119 at h1
 refine sr ?_
 refine as_ ?_
 refine dn ?_
 refine sr ?_
 refine mv ?_
 refine mv ?_
 refine LV.call hS h1 (g160_ok _ _ _ _ _ ) hP rfl rfl rfl rfl fun x7_1 T1 n1 h2 ρ its hS => ?_
 refine vy (V.ge h2 rfl rfl) fun x8_2 h3 => ?_
 refine as_ ?_
 refine dn ?_
 refine CV.ret ?_
 cases h3
 exact PV.ret (by simp) Tryz.results119 hS (RS.tmp rfl RS.nil) rfl
noncomputable def g120_k1 (ih : FuncId → List HT → List AV → HT → Nat → R) (ro : List HT) (y10 : AV) (T3 : HT) (n3 : Nat) : R :=
 .ok (.val (.lit (.bool true))) T3 n3
noncomputable def g120_k6 (ih : FuncId → List HT → List AV → HT → Nat → R) (ro : List HT) (lp4 : AV → AV → AV → AV → AV → AV → AV → AV → AV → AV → HT → Nat → R) (y0 y1 y2 y3 y4 y10 y11 y39 y40 y41 y56 y57 y58 y59 y65 : AV) (T8 : HT) (n8 : Nat) : R :=
 callK (ih 120 ro [y56, y57, y58, y59, y65] T8 n8) fun x66_15 T9 n9 =>
 notK 1200043 x66_15 fun x67_16 =>
 condK 1200044 x67_16
 (
  .bad 1200045
 )
 (
  addK Tryz.prog 3 (.tmp 41) (.const (.int .i64 (.ofNat 1))) 1200046 y41 (.lit (.int .i64 (.ofNat 1))) fun x68_17 =>
  lp4 y0 y1 y2 y3 y4 y10 y11 y39 y40 x68_17 T9 n9
 )
noncomputable def g120_k5 (ih : FuncId → List HT → List AV → HT → Nat → R) (ro : List HT) (lp4 : AV → AV → AV → AV → AV → AV → AV → AV → AV → AV → HT → Nat → R) (y0 y1 y2 y3 y4 y10 y11 y13 y39 y40 y41 y55 : AV) (T7 : HT) (n7 : Nat) : R :=
 condK 1200048 y4
 (
  g120_k6 ih ro lp4 y0 y1 y2 y3 (.lit (.bool true)) y10 y11 y39 y40 y41 y0 y13 y55 y3 (.lit (.bool true)) T7 n7
 )
 (
  faK 1200050 y11 0 fun x62_18 =>
  ldK 1200051 T7 ro x62_18 fun x63_19 =>
  eqK Tryz.prog 3 (.tmp 63) (.const (.int .i64 (.ofNat 44))) 1200052 x63_19 (.lit (.int .i64 (.ofNat 44))) fun x64_20 =>
  g120_k6 ih ro lp4 y0 y1 y2 y3 (.lit (.bool false)) y10 y11 y39 y40 y41 y0 y13 y55 y3 x64_20 T7 n7
 )
noncomputable def g120_b4 (ih : FuncId → List HT → List AV → HT → Nat → R) (ro : List HT) (lp4 : AV → AV → AV → AV → AV → AV → AV → AV → AV → AV → HT → Nat → R) (y0 y1 y2 y3 y4 y10 y11 y39 y40 y41 : AV) (T6 : HT) (n6 : Nat) : R :=
 ltK Tryz.prog 3 (.tmp 41) (.tmp 40) 1200028 y41 y40 fun x42_12 =>
 condK 1200029 x42_12
 (
  iaK 1200030 y39 y41 1 fun x43_13 =>
  ldK 1200031 T6 ro x43_13 fun x44_14 =>
  condK 1200054 y2
  (
   ncK 1200057 y0 fun x49_21 =>
   faK 1200058 x49_21 0 fun x50_22 =>
   ldK 1200059 T6 ro x50_22 fun x51_23 =>
   lenSK 1200060 x51_23 fun x52_24 =>
   subK Tryz.prog 3 (.tmp 52) (.const (.int .i64 (.ofNat 1))) 1200061 x52_24 (.lit (.int .i64 (.ofNat 1))) fun x53_25 =>
   eqK Tryz.prog 3 (.tmp 47) (.tmp 53) 1200062 y1 x53_25 fun x54_26 =>
   g120_k5 ih ro lp4 y0 y1 (.lit (.bool true)) y3 y4 y10 y11 x44_14 y39 y40 y41 x54_26 T6 n6
  )
  (
   g120_k5 ih ro lp4 y0 y1 (.lit (.bool false)) y3 y4 y10 y11 x44_14 y39 y40 y41 (.lit (.bool false)) T6 n6
  )
 )
 (
  g120_k1 ih ro y10 T6 n6
 )
noncomputable def g120_k3 (ih : FuncId → List HT → List AV → HT → Nat → R) (ro : List HT) (y0 y1 y2 y3 y4 y10 y11 y23 y34 : AV) (T5 : HT) (n5 : Nat) : R :=
 condK 1200022 y34
 (
  faK 1200023 y11 4 fun x38_9 =>
  ldK 1200024 T5 ro x38_9 fun x39_10 =>
  lenSK 1200025 x39_10 fun x40_11 =>
  lpf10 1200027 (g120_b4 ih ro) 100000 y0 y1 y2 y3 y4 y10 y11 x39_10 x40_11 (.lit (.int .i64 (.ofNat 0))) T5 n5
 )
 (
  eqK Tryz.prog 3 (.tmp 23) (.const (.int .i64 (.ofNat 45))) 1200065 y23 (.lit (.int .i64 (.ofNat 45))) fun x70_27 =>
  condK 1200067 x70_27
  (
   .bad 1200068
  )
  (
   g120_k1 ih ro y10 T5 n5
  )
 )
noncomputable def g120_k2 (ih : FuncId → List HT → List AV → HT → Nat → R) (ro : List HT) (y0 y1 y2 y3 y4 y10 y11 y23 y24 : AV) (T4 : HT) (n4 : Nat) : R :=
 condK 1200012 y24
 (
  .bad 1200013
 )
 (
  eqK Tryz.prog 3 (.tmp 23) (.const (.int .i64 (.ofNat 41))) 1200014 y23 (.lit (.int .i64 (.ofNat 41))) fun x29_7 =>
  condK 1200016 x29_7
  (
   .bad 1200017
  )
  (
   eqK Tryz.prog 3 (.tmp 23) (.const (.int .i64 (.ofNat 42))) 1200018 y23 (.lit (.int .i64 (.ofNat 42))) fun x32_8 =>
   condK 1200020 x32_8
   (
    .bad 1200021
   )
   (
    eqK Tryz.prog 3 (.tmp 23) (.const (.int .i64 (.ofNat 47))) 1200069 y23 (.lit (.int .i64 (.ofNat 47))) fun x35_28 =>
    condK 1200071 x35_28
    (
     g120_k3 ih ro y0 y1 y2 y3 y4 y10 y11 y23 (.lit (.bool true)) T4 n4
    )
    (
     eqK Tryz.prog 3 (.tmp 23) (.const (.int .i64 (.ofNat 43))) 1200072 y23 (.lit (.int .i64 (.ofNat 43))) fun x36_29 =>
     condK 1200074 x36_29
     (
      g120_k3 ih ro y0 y1 y2 y3 y4 y10 y11 y23 (.lit (.bool true)) T4 n4
     )
     (
      eqK Tryz.prog 3 (.tmp 23) (.const (.int .i64 (.ofNat 44))) 1200075 y23 (.lit (.int .i64 (.ofNat 44))) fun x37_30 =>
      g120_k3 ih ro y0 y1 y2 y3 y4 y10 y11 y23 x37_30 T4 n4
     )
    )
   )
  )
 )
noncomputable def g120 (ih : FuncId → List HT → List AV → HT → Nat → R) (ro : List HT) (a0 a1 a2 a3 a4 : AV) (T : HT) (nx : Nat) : R :=
 fldK 1200003 T ro a0 0 fun x18_1 =>
 iaK 1200005 x18_1 a1 5 fun x20_2 =>
 ldAK 1200006 T ro x20_2 5 fun x21_3 =>
 newK T nx (.obj [.lit (.int .i64 0), .lit (.int .i64 0), .lit (.int .i64 0), .lit (.string ⟨#[]⟩), .lit (.slice none 0 0)] 172) fun x11_4 T1 n1 =>
 stAK 1200008 T1 x11_4 x21_3 5 fun T2 =>
 faK 1200010 x11_4 0 fun x22_5 =>
 ldK 1200011 T2 ro x22_5 fun x23_6 =>
 eqK Tryz.prog 3 (.tmp 23) (.const (.int .i64 (.ofNat 39))) 1200077 x23_6 (.lit (.int .i64 (.ofNat 39))) fun x25_31 =>
 condK 1200079 x25_31
 (
  g120_k2 ih ro a0 a1 a2 a3 a4 (.lit (.bool false)) x11_4 x23_6 (.lit (.bool true)) T2 n1
 )
 (
  eqK Tryz.prog 3 (.tmp 23) (.const (.int .i64 (.ofNat 40))) 1200080 x23_6 (.lit (.int .i64 (.ofNat 40))) fun x26_32 =>
  g120_k2 ih ro a0 a1 a2 a3 a4 (.lit (.bool false)) x11_4 x23_6 x26_32 T2 n1
 )
theorem g120_ok (ih : FuncId → List HT → List AV → HT → Nat → R) (hI : ∀ f ro args T nx, GOk Tryz.prog envE f args ro T nx (ih f ro args T nx)) (ro : List HT) (a0 a1 a2 a3 a4 : AV) (T : HT) (nx : Nat) : GOk Tryz.prog envE 120 [a0, a1, a2, a3, a4] ro T nx (g120 ih ro a0 a1 a2 a3 a4 T nx) := by
 refine GOk.of_body Tryz.func120 rfl Tryz.ntmps120 (by kernel_rfl) rfl fun r T' n' h1 w0 base ρ0 its hS hP => ?_
 have X : CtxW envE ρ0 ro r T' n' := trivial
 unfold g120 at h1
 refine sr ?_
 refine as_ ?_
 refine dn ?_
 refine sr ?_
 refine mv ?_
 refine fl hS h1 Cnf.fo237_0 Cnf.one109 fun x18_1 h2 => ?_
 refine mv ?_
 refine vy (V.ia h2 rfl rfl Cnf.el109) fun x20_2 h3 => ?_
 refine vy (V.ldA hS h3 rfl Cnf.agg172) fun x21_3 h4 => ?_
 refine LV.alloc hS h4 rfl Cnf.zr172 rfl rfl rfl fun x11_4 T1 n1 h5 ρ its hS hdr => ?_
 refine LV.stA hS h5 rfl rfl rfl Cnf.agg172 rfl rfl rfl fun T2 its h6 hS => ?_
 refine dn ?_
 refine cs1 X 10 [] (g120_k1 ih ro) ?_ ?_
 ·
  refine sr ?_
  refine vy (V.fa h6 rfl Cnf.fo172_0) fun x22_5 h8 => ?_
  refine vy (V.ld hS h8 rfl Cnf.one3) fun x23_6 h9 => ?_
  refine dn ?_
  refine CV.block ?_
  refine cs9 X 0 1 2 3 4 10 11 23 24 [] (g120_k2 ih ro) ?_ ?_
  ·
   refine sr ?_
   refine vy (V.eq h9 rfl rfl) fun x25_31 h50 => ?_
   refine as_ ?_
   refine dn ?_
   refine CV.cond h50 rfl (fun e h51 => ?_) (fun e h51 => ?_)
   ·
    clear h1 h2 h3 h4 h5 h6 h8 h9 h50
    subst e
    refine CV.skip ?_
    exact pa9 hS h51 ⟨rfl, rfl, rfl, rfl, rfl, rfl, rfl, rfl, rfl, trivial⟩
   ·
    clear h1 h2 h3 h4 h5 h6 h8 h9 h50
    subst e
    refine CV.region ?_
    refine vy (V.eq h51 rfl rfl) fun x26_32 h52 => ?_
    refine as_ ?_
    refine LV.done ?_
    exact pa9 hS h52 ⟨rfl, rfl, rfl, rfl, rfl, rfl, rfl, rfl, rfl, trivial⟩
  ·
   intro y0 y1 y2 y3 y4 y10 y11 y23 y24 T4 n4 ρ its hS h10
   unfold g120_k2 at h10
   clear h1 h2 h3 h4 h5 h6 h8 h9
   refine CV.cond h10 rfl (fun e h11 => ?_) (fun e h11 => ?_)
   ·
    clear h10
    subst e
    cases h11
   ·
    clear h10
    subst e
    refine sr ?_
    refine vy (V.eq h11 rfl rfl) fun x29_7 h12 => ?_
    refine as_ ?_
    refine dn ?_
    refine CV.cond h12 rfl (fun e h13 => ?_) (fun e h13 => ?_)
    ·
     clear h11 h12
     subst e
     cases h13
    ·
     clear h11 h12
     subst e
     refine sr ?_
     refine vy (V.eq h13 rfl rfl) fun x32_8 h14 => ?_
     refine as_ ?_
     refine dn ?_
     refine CV.cond h14 rfl (fun e h15 => ?_) (fun e h15 => ?_)
     ·
      clear h13 h14
      subst e
      cases h15
     ·
      clear h13 h14
      subst e
      refine cs9 X 0 1 2 3 4 10 11 23 34 [] (g120_k3 ih ro) ?_ ?_
      ·
       refine sr ?_
       refine vy (V.eq h15 rfl rfl) fun x35_28 h45 => ?_
       refine as_ ?_
       refine dn ?_
       refine CV.cond h45 rfl (fun e h46 => ?_) (fun e h46 => ?_)
       ·
        clear h15 h45
        subst e
        refine CV.skip ?_
        exact pa9 hS h46 ⟨rfl, rfl, rfl, rfl, rfl, rfl, rfl, rfl, rfl, trivial⟩
       ·
        clear h15 h45
        subst e
        refine sr ?_
        refine vy (V.eq h46 rfl rfl) fun x36_29 h47 => ?_
        refine as_ ?_
        refine dn ?_
        refine CV.cond h47 rfl (fun e h48 => ?_) (fun e h48 => ?_)
        ·
         clear h46 h47
         subst e
         refine CV.skip ?_
         exact pa9 hS h48 ⟨rfl, rfl, rfl, rfl, rfl, rfl, rfl, rfl, rfl, trivial⟩
        ·
         clear h46 h47
         subst e
         refine CV.region ?_
         refine vy (V.eq h48 rfl rfl) fun x37_30 h49 => ?_
         refine as_ ?_
         refine LV.done ?_
         exact pa9 hS h49 ⟨rfl, rfl, rfl, rfl, rfl, rfl, rfl, rfl, rfl, trivial⟩
      ·
       intro y0 y1 y2 y3 y4 y10 y11 y23 y34 T5 n5 ρ its hS h16
       unfold g120_k3 at h16
       clear h15
       refine CV.cond h16 rfl (fun e h17 => ?_) (fun e h17 => ?_)
       ·
        clear h16
        subst e
        refine sr ?_
        refine vy (V.fa h17 rfl Cnf.fo172_4) fun x38_9 h18 => ?_
        refine vy (V.ld hS h18 rfl Cnf.one170) fun x39_10 h19 => ?_
        refine vy (V.lenS h19 rfl Cnf.ls170) fun x40_11 h20 => ?_
        refine mv ?_
        refine dn ?_
        refine CV.block ?_
        refine cl10 X 0 1 2 3 4 10 11 39 40 41 [] hS h20 ⟨rfl, rfl, rfl, rfl, rfl, rfl, rfl, rfl, rfl, rfl, trivial⟩ ?_
        intro f4 y0 y1 y2 y3 y4 y10 y11 y39 y40 y41 T6 n6 ρ its hS h21
        unfold g120_b4 at h21
        clear h17 h18 h19 h20
        refine sr ?_
        refine vy (V.lt h21 rfl rfl) fun x42_12 h22 => ?_
        refine dn ?_
        refine CV.seq ?_
        refine CV.cond h22 rfl (fun e h23 => ?_) (fun e h23 => ?_)
        ·
         clear h21 h22
         subst e
         refine CV.skip ?_
         refine PV.thenN ?_
         refine CV.seq ?_
         refine CV.block ?_
         refine sr ?_
         refine vy (V.ia h23 rfl rfl Cnf.el170) fun x43_13 h24 => ?_
         refine vy (V.ld hS h24 rfl Cnf.one3) fun x44_14 h25 => ?_
         refine as_ ?_
         refine dn ?_
         refine sr ?_
         refine mv ?_
         refine mv ?_
         refine ls12 X 0 1 2 3 4 10 11 13 39 40 41 55 [] (g120_k5 ih ro (lpf10 1200027 (g120_b4 ih ro) f4)) 9 ?_ ?_
         ·
          rcases condK_inv h25 with ⟨e, h36⟩ | ⟨e, h36⟩
          ·
           clear h23 h24 h25
           subst e
           refine mv ?_
           refine mv ?_
           refine vy (V.nc h36 rfl) fun x49_21 h37 => ?_
           refine vy (V.fa h37 rfl Cnf.fo237_0) fun x50_22 h38 => ?_
           refine vy (V.ld hS h38 rfl Cnf.one109) fun x51_23 h39 => ?_
           refine vy (V.lenS h39 rfl Cnf.ls109) fun x52_24 h40 => ?_
           refine vy (V.sub h40 rfl rfl) fun x53_25 h41 => ?_
           refine vy (V.eq h41 rfl rfl) fun x54_26 h42 => ?_
           refine pu ?_
           exact la12 hS h42 ⟨rfl, rfl, rfl, rfl, rfl, rfl, rfl, rfl, rfl, rfl, rfl, rfl, trivial⟩
          ·
           clear h23 h24 h25
           subst e
           refine sk ?_
           refine sk ?_
           refine sk ?_
           refine sk ?_
           refine sk ?_
           refine sk ?_
           refine sk ?_
           refine sk ?_
           refine pu ?_
           exact la12 hS h36 ⟨rfl, rfl, rfl, rfl, rfl, rfl, rfl, rfl, rfl, rfl, rfl, rfl, trivial⟩
         ·
          intro y0 y1 y2 y3 y4 y10 y11 y13 y39 y40 y41 y55 T7 n7 ρ its hS h26
          unfold g120_k5 at h26
          clear h23 h24 h25
          refine as_ ?_
          refine dn ?_
          refine sr ?_
          refine mv ?_
          refine mv ?_
          refine mv ?_
          refine mv ?_
          refine mv ?_
          refine mv ?_
          refine ls15 X 0 1 2 3 4 10 11 39 40 41 56 57 58 59 65 [] (g120_k6 ih ro (lpf10 1200027 (g120_b4 ih ro) f4)) 4 ?_ ?_
          ·
           rcases condK_inv h26 with ⟨e, h32⟩ | ⟨e, h32⟩
           ·
            clear h26
            subst e
            refine sk ?_
            refine sk ?_
            refine sk ?_
            refine pu ?_
            exact la15 hS h32 ⟨rfl, rfl, rfl, rfl, rfl, rfl, rfl, rfl, rfl, rfl, rfl, rfl, rfl, rfl, rfl, trivial⟩
           ·
            clear h26
            subst e
            refine vy (V.fa h32 rfl Cnf.fo172_0) fun x62_18 h33 => ?_
            refine vy (V.ld hS h33 rfl Cnf.one3) fun x63_19 h34 => ?_
            refine vy (V.eq h34 rfl rfl) fun x64_20 h35 => ?_
            refine pu ?_
            exact la15 hS h35 ⟨rfl, rfl, rfl, rfl, rfl, rfl, rfl, rfl, rfl, rfl, rfl, rfl, rfl, rfl, rfl, trivial⟩
          ·
           intro y0 y1 y2 y3 y4 y10 y11 y39 y40 y41 y56 y57 y58 y59 y65 T8 n8 ρ its hS h27
           unfold g120_k6 at h27
           clear h26
           refine LV.call hS h27 (hI _ _ _ _ _) hP rfl rfl rfl rfl fun x66_15 T9 n9 h28 ρ its hS => ?_
           refine vy (V.not h28 rfl) fun x67_16 h29 => ?_
           refine dn ?_
           refine CV.cond h29 rfl (fun e h30 => ?_) (fun e h30 => ?_)
           ·
            clear h27 h28 h29
            subst e
            cases h30
           ·
            clear h27 h28 h29
            subst e
            refine CV.skip ?_
            refine PV.blockN ?_
            refine PV.thenN ?_
            refine CV.region ?_
            refine vy (V.add h30 rfl rfl) fun x68_17 h31 => ?_
            refine mv ?_
            refine LV.done ?_
            exact pb10 hS h31 ⟨rfl, rfl, rfl, rfl, rfl, rfl, rfl, rfl, rfl, rfl, trivial⟩
        ·
         clear h21 h22
         subst e
         refine CV.exit ?_
         refine PV.thenE ?_
         refine PV.thenE ?_
         refine PV.blockE ?_
         refine PV.blockN ?_
         exact pa1 hS h23 ⟨rfl, trivial⟩
       ·
        clear h16
        subst e
        refine sr ?_
        refine vy (V.eq h17 rfl rfl) fun x70_27 h43 => ?_
        refine as_ ?_
        refine dn ?_
        refine CV.cond h43 rfl (fun e h44 => ?_) (fun e h44 => ?_)
        ·
         clear h17 h43
         subst e
         cases h44
        ·
         clear h17 h43
         subst e
         refine CV.skip ?_
         refine PV.blockN ?_
         exact pa1 hS h44 ⟨rfl, trivial⟩
 ·
  intro y10 T3 n3 ρ its hS h7
  unfold g120_k1 at h7
  clear h1 h2 h3 h4 h5 h6
  refine sr ?_
  refine as_ ?_
  refine dn ?_
  refine CV.ret ?_
  cases h7
  exact PV.ret (by simp) Tryz.results120 hS (RS.tmp rfl RS.nil) rfl
noncomputable def ap5 (ih : FuncId → List HT → List AV → HT → Nat → R) (f : FuncId) (ro : List HT) (args : List AV) (T : HT) (nx : Nat) : R :=
  Bool.rec (motive := fun _ => R) (.bad 2) (List.rec (motive := fun _ => R) (.bad 1) (fun a0 l0 _ => List.rec (motive := fun _ => R) (.bad 1) (fun a1 l1 _ => List.rec (motive := fun _ => R) (.bad 1) (fun a2 l2 _ => List.rec (motive := fun _ => R) (.bad 1) (fun a3 l3 _ => List.rec (motive := fun _ => R) (.bad 1) (fun a4 l4 _ => List.rec (motive := fun _ => R) (g120 ih ro a0 a1 a2 a3 a4 T nx) (fun _ _ _ => .bad 1) l4) l3) l2) l1) l0) args) (Nat.beq f 120)
noncomputable def scc5 (fuel : Nat) : FuncId → List HT → List AV → HT → Nat → R :=
  Nat.rec (motive := fun _ => FuncId → List HT → List AV → HT → Nat → R) (fun _ _ _ _ _ => .bad 3) (fun _ ih => ap5 ih) fuel
theorem ap5_ok (ih : FuncId → List HT → List AV → HT → Nat → R) (hI : ∀ f ro args T nx, GOk Tryz.prog envE f args ro T nx (ih f ro args T nx)) (f : FuncId) (ro : List HT) (args : List AV) (T : HT) (nx : Nat) : GOk Tryz.prog envE f args ro T nx (ap5 ih f ro args T nx) := by
  unfold ap5
  refine recb_go (fun hb => ?_) (fun _ => ?_)
  · obtain rfl := beqT hb
    rcases args with _ | ⟨a0, l0⟩
    · exact GOk.bad
    rcases l0 with _ | ⟨a1, l1⟩
    · exact GOk.bad
    rcases l1 with _ | ⟨a2, l2⟩
    · exact GOk.bad
    rcases l2 with _ | ⟨a3, l3⟩
    · exact GOk.bad
    rcases l3 with _ | ⟨a4, l4⟩
    · exact GOk.bad
    rcases l4 with _ | ⟨_, _⟩
    · exact g120_ok _ hI _ _ _ _ _ _ _ _ 
    · exact GOk.bad
  · exact GOk.bad
theorem scc5_ok : ∀ (fuel : Nat) (f : FuncId) (ro : List HT) (args : List AV) (T : HT) (nx : Nat), GOk Tryz.prog envE f args ro T nx (scc5 fuel f ro args T nx)
  | 0, _, _, _, _, _ => GOk.bad
  | fuel + 1, f, ro, args, T, nx => ap5_ok (scc5 fuel) (scc5_ok fuel) f ro args T nx
noncomputable def g89_k2 (ro : List HT) (lp1 : AV → AV → AV → AV → AV → AV → HT → Nat → R) (y0 y2 y3 y17 y18 y19 y43 : AV) (T6 : HT) (n6 : Nat) : R :=
 condK 890026 y43
 (
  .bad 890027
 )
 (
  addK Tryz.prog 3 (.tmp 19) (.const (.int .i64 (.ofNat 1))) 890028 y19 (.lit (.int .i64 (.ofNat 1))) fun x49_12 =>
  lp1 y0 y2 y3 y17 y18 x49_12 T6 n6
 )
noncomputable def g89_k5 (ro : List HT) (y2 y77 : AV) (T11 : HT) (n11 : Nat) : R :=
 condK 890066 y77
 (
  .bad 890067
 )
 (
  .ok (.val (.lit (.nilIface))) T11 n11
 )
noncomputable def g89_k4 (ro : List HT) (y2 y3 y6 y71 : AV) (T10 : HT) (n10 : Nat) : R :=
 condK 890069 y71
 (
  g89_k5 ro y2 (.lit (.bool true)) T10 n10
 )
 (
  callK (scc5 4000 120 ro [y3, y6, (.lit (.bool true)), (.lit (.bool false)), (.lit (.bool false))] T10 n10) fun x75_29 T12 n12 =>
  notK 890074 x75_29 fun x76_30 =>
  g89_k5 ro y2 x76_30 T12 n12
 )
noncomputable def g89_k3 (ro : List HT) (y2 y3 y6 y62 : AV) (T9 : HT) (n9 : Nat) : R :=
 condK 890076 y62
 (
  g89_k4 ro y2 y3 y6 (.lit (.bool true)) T9 n9
 )
 (
  ncK 890079 y3 fun x65_31 =>
  faK 890080 x65_31 1 fun x66_32 =>
  ldK 890081 T9 ro x66_32 fun x67_33 =>
  cutHiK 890083 T9 ro x67_33 y6 fun x69_34 =>
  callK (g119 ro x69_34 (.lit (.bool false)) T9 n9) fun x70_35 T13 n13 =>
  g89_k4 ro y2 y3 y6 x70_35 T13 n13
 )
noncomputable def g89_b1 (ro : List HT) (lp1 : AV → AV → AV → AV → AV → AV → HT → Nat → R) (y0 y2 y3 y17 y18 y19 : AV) (T3 : HT) (n3 : Nat) : R :=
 ltK Tryz.prog 3 (.tmp 19) (.tmp 18) 890018 y19 y18 fun x20_8 =>
 condK 890019 x20_8
 (
  iaK 890021 y17 y19 5 fun x22_9 =>
  ldAK 890022 T3 ro x22_9 5 fun x23_10 =>
  newK T3 n3 (.obj [.lit (.int .i64 0), .lit (.int .i64 0), .lit (.int .i64 0), .lit (.string ⟨#[]⟩), .lit (.slice none 0 0)] 172) fun x5_11 T4 n4 =>
  stAK 890025 T4 x5_11 x23_10 5 fun T5 =>
  faK 890030 x5_11 4 fun x24_13 =>
  ldK 890031 T5 ro x24_13 fun x25_14 =>
  ncK 890034 y3 fun x28_15 =>
  faK 890035 x28_15 1 fun x29_16 =>
  ldK 890036 T5 ro x29_16 fun x30_17 =>
  callK (g117 ro x25_14 y19 x30_17 T5 n4) fun x31_18 T7 n7 =>
  notK 890038 x31_18 fun x32_19 =>
  condK 890040 x32_19
  (
   condK 890043 (.lit (.bool true))
   (
    g89_k2 ro lp1 y0 y2 y3 y17 y18 y19 (.lit (.bool true)) T7 n7
   )
   (
    .bad 0
   )
  )
  (
   faK 890045 x5_11 1 fun x34_20 =>
   ldK 890046 T7 ro x34_20 fun x35_21 =>
   neK Tryz.prog 3 (.tmp 35) (.const (.int .i64 (.ofNat 0))) 890047 x35_21 (.lit (.int .i64 (.ofNat 0))) fun x36_22 =>
   condK 890050 x36_22
   (
    g89_k2 ro lp1 y0 y2 y3 y17 y18 y19 (.lit (.bool true)) T7 n7
   )
   (
    ldAK 890053 T7 ro x5_11 5 fun x40_23 =>
    callK (g118 ro y3 x40_23 T7 n7) fun x41_24 T8 n8 =>
    notK 890055 x41_24 fun x42_25 =>
    g89_k2 ro lp1 y0 y2 y3 y17 y18 y19 x42_25 T8 n8
   )
  )
 )
 (
  lenSK 890058 y0 fun x51_26 =>
  subK Tryz.prog 3 (.tmp 51) (.const (.int .i64 (.ofNat 1))) 890059 x51_26 (.lit (.int .i64 (.ofNat 1))) fun x52_27 =>
  ltK Tryz.prog 3 (.tmp 53) (.const (.int .i64 (.ofNat 0))) 890062 x52_27 (.lit (.int .i64 (.ofNat 0))) fun x54_28 =>
  condK 890086 x54_28
  (
   g89_k3 ro y2 y3 x52_27 (.lit (.bool true)) T3 n3
  )
  (
   iaK 890090 y0 x52_27 5 fun x58_36 =>
   faK 890091 x58_36 0 fun x59_37 =>
   ldK 890092 T3 ro x59_37 fun x60_38 =>
   neK Tryz.prog 3 (.tmp 60) (.const (.int .i64 (.ofNat 47))) 890093 x60_38 (.lit (.int .i64 (.ofNat 47))) fun x61_39 =>
   g89_k3 ro y2 y3 x52_27 x61_39 T3 n3
  )
 )
noncomputable def g89 (ro : List HT) (a0 : AV) (T : HT) (nx : Nat) : R :=
 lenSK 890003 a0 fun x8_1 =>
 gtK Tryz.prog 3 (.tmp 8) (.const (.int .i64 (.ofNat 1048576))) 890004 x8_1 (.lit (.int .i64 (.ofNat 1048576))) fun x9_2 =>
 condK 890005 x9_2
 (
  .bad 890006
 )
 (
  lenSK 890009 a0 fun x13_3 =>
  mkK 890010 T nx 4 1 (.lit (.bool false)) x13_3 fun x14_4 T1 n1 =>
  optK 890011 (bld237 [(0, a0), (1, x14_4)]) fun x15_5 =>
  boxK 890012 T1 n1 x15_5 237 fun x16_6 T2 n2 =>
  lenSK 890015 a0 fun x18_7 =>
  lpf6 890017 (g89_b1 ro) 100000 a0 (.lit (.nilIface)) x16_6 a0 x18_7 (.lit (.int .i64 (.ofNat 0))) T2 n2
 )
theorem g89_ok (ro : List HT) (a0 : AV) (T : HT) (nx : Nat) : GOk Tryz.prog envE 89 [a0] ro T nx (g89 ro a0 T nx) := by
 refine GOk.of_body Tryz.func89 rfl Tryz.ntmps89 (by kernel_rfl) rfl fun r T' n' h1 w0 base ρ0 its hS hP => ?_
 have X : CtxW envE ρ0 ro r T' n' := trivial
 unfold g89 at h1
 refine sr ?_
 refine as_ ?_
 refine dn ?_
 refine CV.seq ?_
 refine sr ?_
 refine mv ?_
 refine vy (V.lenS h1 rfl Cnf.ls109) fun x8_1 h2 => ?_
 refine vy (V.gt h2 rfl rfl) fun x9_2 h3 => ?_
 refine dn ?_
 refine CV.cond h3 rfl (fun e h4 => ?_) (fun e h4 => ?_)
 ·
  clear h1 h2 h3
  subst e
  cases h4
 ·
  clear h1 h2 h3
  subst e
  refine CV.skip ?_
  refine PV.thenN ?_
  refine sr ?_
  refine mv ?_
  refine mv ?_
  refine vy (V.lenS h4 rfl Cnf.ls109) fun x13_3 h5 => ?_
  refine LV.mk hS h5 rfl rfl rfl Cnf.el235 rfl rfl rfl rfl fun x14_4 T1 n1 h6 ρ its hS hdr => ?_
  refine vy (V.bld h6 rfl) fun x15_5 h7 => ?_
  refine LV.box hS h7 rfl rfl rfl rfl rfl fun x16_6 T2 n2 h8 ρ its hS hdr => ?_
  refine as_ ?_
  refine dn ?_
  refine CV.seq ?_
  refine sr ?_
  refine mv ?_
  refine vy (V.lenS h8 rfl Cnf.ls109) fun x18_7 h9 => ?_
  refine mv ?_
  refine dn ?_
  refine CV.block ?_
  refine cl6 X 0 2 3 17 18 19 [] hS h9 ⟨rfl, rfl, rfl, rfl, rfl, rfl, trivial⟩ ?_
  intro f1 y0 y2 y3 y17 y18 y19 T3 n3 ρ its hS h10
  unfold g89_b1 at h10
  clear h4 h5 h6 h7 h8 h9
  refine sr ?_
  refine vy (V.lt h10 rfl rfl) fun x20_8 h11 => ?_
  refine dn ?_
  refine CV.seq ?_
  refine CV.cond h11 rfl (fun e h12 => ?_) (fun e h12 => ?_)
  ·
   clear h10 h11
   subst e
   refine CV.skip ?_
   refine PV.thenN ?_
   refine CV.seq ?_
   refine CV.block ?_
   refine sr ?_
   refine mv ?_
   refine vy (V.ia h12 rfl rfl Cnf.el109) fun x22_9 h13 => ?_
   refine vy (V.ldA hS h13 rfl Cnf.agg172) fun x23_10 h14 => ?_
   refine LV.alloc hS h14 rfl Cnf.zr172 rfl rfl rfl fun x5_11 T4 n4 h15 ρ its hS hdr => ?_
   refine as_ ?_
   refine LV.stA hS h15 rfl rfl rfl Cnf.agg172 rfl rfl rfl fun T5 its h16 hS => ?_
   refine dn ?_
   refine cs7 X 0 2 3 17 18 19 43 [] (g89_k2 ro (lpf6 890017 (g89_b1 ro) f1)) ?_ ?_
   ·
    refine CV.regionM [(0, .anywhere), (1, .held), (2, .anywhere), (3, .anywhere), (4, .anywhere), (5, .anywhere), (6, .held), (7, .alone), (8, .alone), (9, .alone), (10, .alone), (11, .alone), (12, .alone), (13, .alone), (14, .alone), (15, .anywhere), (16, .alone), (17, .alone), (18, .alone), (19, .alone)] rfl (fun c a a' w hd hq => PanicOk.root (P := Tryz.prog) (fn := Tryz.f89) (w0 := w0) (base := base) (E := envE) (ro := ro) (r := r) (T' := T') (n' := n') (ρ0 := ρ0) c a a' w hd hq) (by kernel_rfl) ?_
    refine MV.lift0 (i := 0) rfl (V.fa h16 rfl Cnf.fo172_4) rfl rfl rfl fun x24_13 h20 => ?_
    refine MV.lift1 (i := 1) rfl (fun _ z => z) (V.ld hS h20 rfl Cnf.one170) rfl rfl rfl [] (by kernel_rfl) fun x25_14 h21 => ?_
    refine MV.step0 (i := 2) rfl (VAL.move rfl) rfl rfl rfl ?_
    refine MV.step0 (i := 3) rfl (VAL.move rfl) rfl rfl rfl ?_
    refine MV.lift0 (i := 4) rfl (V.nc h21 rfl) rfl rfl rfl fun x28_15 h22 => ?_
    refine MV.lift0 (i := 5) rfl (V.fa h22 rfl Cnf.fo237_1) rfl rfl rfl fun x29_16 h23 => ?_
    refine MV.lift1 (i := 6) rfl (fun _ z => z) (V.ld hS h23 rfl Cnf.one235) rfl rfl rfl [1] (by kernel_rfl) fun x30_17 h24 => ?_
    refine MV.force (i := 7) rfl ?_
    refine LV.call hS h24 (g117_ok _ _ _ _ _ _ ) hP rfl rfl rfl rfl fun x31_18 T7 n7 h25 ρ its hS => ?_
    refine LV.nextM [] (by kernel_rfl) (fun z => absurd rfl z) ?_
    refine MV.force (i := 8) rfl ?_
    refine vy (V.not h25 rfl) fun x32_19 h26 => ?_
    refine LV.nextM [] (by kernel_rfl) (fun z => absurd rfl z) ?_
    refine MV.force (i := 9) rfl ?_
    refine mv ?_
    refine LV.nextM [] (by kernel_rfl) (fun z => absurd rfl z) ?_
    rcases condK_inv h26 with ⟨e, h27⟩ | ⟨e, h27⟩
    ·
     clear h12 h13 h14 h15 h16 h20 h21 h22 h23 h24 h25 h26
     subst e
     refine MV.force (i := 10) rfl ?_
     refine sk ?_
     refine LV.nextM [] (by kernel_rfl) (fun z => absurd rfl z) ?_
     refine MV.force (i := 11) rfl ?_
     refine sk ?_
     refine LV.nextM [] (by kernel_rfl) (fun z => absurd rfl z) ?_
     refine MV.force (i := 12) rfl ?_
     refine sk ?_
     refine LV.nextM [] (by kernel_rfl) (fun z => absurd rfl z) ?_
     refine MV.force (i := 13) rfl ?_
     refine pu ?_
     refine LV.nextM [] (by kernel_rfl) (fun z => absurd rfl z) ?_
     refine MV.force (i := 14) rfl ?_
     refine mv ?_
     refine LV.nextM [] (by kernel_rfl) (fun z => absurd rfl z) ?_
     rcases condK_inv h27 with ⟨e, h28⟩ | ⟨e, h28⟩
     ·
      clear h27
      refine MV.skip0 (i := 15) rfl rfl rfl rfl ?_
      refine MV.force (i := 16) rfl ?_
      refine sk ?_
      refine LV.nextM [] (by kernel_rfl) (fun z => absurd rfl z) ?_
      refine MV.force (i := 17) rfl ?_
      refine sk ?_
      refine LV.nextM [] (by kernel_rfl) (fun z => absurd rfl z) ?_
      refine MV.force (i := 18) rfl ?_
      refine sk ?_
      refine LV.nextM [] (by kernel_rfl) (fun z => absurd rfl z) ?_
      refine MV.force (i := 19) rfl ?_
      refine pu ?_
      refine LV.nextM [] (by kernel_rfl) (fun z => absurd rfl z) ?_
      refine MV.done ?_
      exact pa7 hS h28 ⟨rfl, rfl, rfl, rfl, rfl, rfl, rfl, trivial⟩
     ·
      clear h27
      cases e
    ·
     clear h12 h13 h14 h15 h16 h20 h21 h22 h23 h24 h25 h26
     subst e
     refine MV.force (i := 10) rfl ?_
     refine vy (V.fa h27 rfl Cnf.fo172_1) fun x34_20 h29 => ?_
     refine LV.nextM [] (by kernel_rfl) (fun z => absurd rfl z) ?_
     refine MV.force (i := 11) rfl ?_
     refine vy (V.ld hS h29 rfl Cnf.one3) fun x35_21 h30 => ?_
     refine LV.nextM [] (by kernel_rfl) (fun z => absurd rfl z) ?_
     refine MV.force (i := 12) rfl ?_
     refine vy (V.ne h30 rfl rfl) fun x36_22 h31 => ?_
     refine LV.nextM [] (by kernel_rfl) (fun z => absurd rfl z) ?_
     refine MV.force (i := 13) rfl ?_
     refine pu ?_
     refine LV.nextM [] (by kernel_rfl) (fun z => absurd rfl z) ?_
     refine MV.force (i := 14) rfl ?_
     refine mv ?_
     refine LV.nextM [] (by kernel_rfl) (fun z => absurd rfl z) ?_
     rcases condK_inv h31 with ⟨e, h32⟩ | ⟨e, h32⟩
     ·
      clear h27 h29 h30 h31
      subst e
      refine MV.skip0 (i := 15) rfl rfl rfl rfl ?_
      refine MV.force (i := 16) rfl ?_
      refine sk ?_
      refine LV.nextM [] (by kernel_rfl) (fun z => absurd rfl z) ?_
      refine MV.force (i := 17) rfl ?_
      refine sk ?_
      refine LV.nextM [] (by kernel_rfl) (fun z => absurd rfl z) ?_
      refine MV.force (i := 18) rfl ?_
      refine sk ?_
      refine LV.nextM [] (by kernel_rfl) (fun z => absurd rfl z) ?_
      refine MV.force (i := 19) rfl ?_
      refine pu ?_
      refine LV.nextM [] (by kernel_rfl) (fun z => absurd rfl z) ?_
      refine MV.done ?_
      exact pa7 hS h32 ⟨rfl, rfl, rfl, rfl, rfl, rfl, rfl, trivial⟩
     ·
      clear h27 h29 h30 h31
      subst e
      refine MV.step0 (i := 15) rfl (VAL.move rfl) rfl rfl rfl ?_
      refine MV.force (i := 16) rfl ?_
      refine vy (V.ldA hS h32 rfl Cnf.agg172) fun x40_23 h33 => ?_
      refine LV.nextM [] (by kernel_rfl) (fun z => absurd rfl z) ?_
      refine MV.force (i := 17) rfl ?_
      refine LV.call hS h33 (g118_ok _ _ _ _ _ ) hP rfl rfl rfl rfl fun x41_24 T8 n8 h34 ρ its hS => ?_
      refine LV.nextM [] (by kernel_rfl) (fun z => absurd rfl z) ?_
      refine MV.force (i := 18) rfl ?_
      refine vy (V.not h34 rfl) fun x42_25 h35 => ?_
      refine LV.nextM [] (by kernel_rfl) (fun z => absurd rfl z) ?_
      refine MV.force (i := 19) rfl ?_
      refine pu ?_
      refine LV.nextM [] (by kernel_rfl) (fun z => absurd rfl z) ?_
      refine MV.done ?_
      exact pa7 hS h35 ⟨rfl, rfl, rfl, rfl, rfl, rfl, rfl, trivial⟩
   ·
    intro y0 y2 y3 y17 y18 y19 y43 T6 n6 ρ its hS h17
    unfold g89_k2 at h17
    clear h12 h13 h14 h15 h16
    refine CV.cond h17 rfl (fun e h18 => ?_) (fun e h18 => ?_)
    ·
     clear h17
     subst e
     cases h18
    ·
     clear h17
     subst e
     refine CV.skip ?_
     refine PV.blockN ?_
     refine PV.thenN ?_
     refine CV.region ?_
     refine vy (V.add h18 rfl rfl) fun x49_12 h19 => ?_
     refine mv ?_
     refine LV.done ?_
     exact pb6 hS h19 ⟨rfl, rfl, rfl, rfl, rfl, rfl, trivial⟩
  ·
   clear h10 h11
   subst e
   refine CV.exit ?_
   refine PV.thenE ?_
   refine PV.thenE ?_
   refine PV.blockE ?_
   refine PV.thenN ?_
   refine sr ?_
   refine mv ?_
   refine vy (V.lenS h12 rfl Cnf.ls109) fun x51_26 h36 => ?_
   refine vy (V.sub h36 rfl rfl) fun x52_27 h37 => ?_
   refine as_ ?_
   refine dn ?_
   refine CV.seq ?_
   refine sr ?_
   refine mv ?_
   refine vy (V.lt h37 rfl rfl) fun x54_28 h38 => ?_
   refine mv ?_
   refine ls4 X 2 3 6 62 [] (g89_k3 ro) 7 ?_ ?_
   ·
    rcases condK_inv h38 with ⟨e, h52⟩ | ⟨e, h52⟩
    ·
     clear h12 h36 h37 h38
     subst e
     refine sk ?_
     refine sk ?_
     refine sk ?_
     refine sk ?_
     refine sk ?_
     refine sk ?_
     refine pu ?_
     exact la4 hS h52 ⟨rfl, rfl, rfl, rfl, trivial⟩
    ·
     clear h12 h36 h37 h38
     subst e
     refine mv ?_
     refine mv ?_
     refine vy (V.ia h52 rfl rfl Cnf.el109) fun x58_36 h53 => ?_
     refine vy (V.fa h53 rfl Cnf.fo172_0) fun x59_37 h54 => ?_
     refine vy (V.ld hS h54 rfl Cnf.one3) fun x60_38 h55 => ?_
     refine vy (V.ne h55 rfl rfl) fun x61_39 h56 => ?_
     refine pu ?_
     exact la4 hS h56 ⟨rfl, rfl, rfl, rfl, trivial⟩
   ·
    intro y2 y3 y6 y62 T9 n9 ρ its hS h39
    unfold g89_k3 at h39
    clear h12 h36 h37 h38
    refine mv ?_
    refine ls4 X 2 3 6 71 [] (g89_k4 ro) 8 ?_ ?_
    ·
     rcases condK_inv h39 with ⟨e, h46⟩ | ⟨e, h46⟩
     ·
      clear h39
      subst e
      refine sk ?_
      refine sk ?_
      refine sk ?_
      refine sk ?_
      refine sk ?_
      refine sk ?_
      refine sk ?_
      refine pu ?_
      exact la4 hS h46 ⟨rfl, rfl, rfl, rfl, trivial⟩
     ·
      clear h39
      subst e
      refine mv ?_
      refine vy (V.nc h46 rfl) fun x65_31 h47 => ?_
      refine vy (V.fa h47 rfl Cnf.fo237_1) fun x66_32 h48 => ?_
      refine vy (V.ld hS h48 rfl Cnf.one235) fun x67_33 h49 => ?_
      refine mv ?_
      refine vy (V.cutHi hS h49 rfl rfl Cnf.el235) fun x69_34 h50 => ?_
      refine LV.call hS h50 (g119_ok _ _ _ _ _ ) hP rfl rfl rfl rfl fun x70_35 T13 n13 h51 ρ its hS => ?_
      refine pu ?_
      exact la4 hS h51 ⟨rfl, rfl, rfl, rfl, trivial⟩
    ·
     intro y2 y3 y6 y71 T10 n10 ρ its hS h40
     unfold g89_k4 at h40
     clear h39
     refine mv ?_
     refine ls2 X 2 77 [] (g89_k5 ro) 5 ?_ ?_
     ·
      rcases condK_inv h40 with ⟨e, h43⟩ | ⟨e, h43⟩
      ·
       clear h40
       subst e
       refine sk ?_
       refine sk ?_
       refine sk ?_
       refine sk ?_
       refine pu ?_
       exact la2 hS h43 ⟨rfl, rfl, trivial⟩
      ·
       clear h40
       subst e
       refine mv ?_
       refine mv ?_
       refine LV.call hS h43 (scc5_ok _ _ _ _ _ _) hP rfl rfl rfl rfl fun x75_29 T12 n12 h44 ρ its hS => ?_
       refine vy (V.not h44 rfl) fun x76_30 h45 => ?_
       refine pu ?_
       exact la2 hS h45 ⟨rfl, rfl, trivial⟩
     ·
      intro y2 y77 T11 n11 ρ its hS h41
      unfold g89_k5 at h41
      clear h40
      refine dn ?_
      refine CV.cond h41 rfl (fun e h42 => ?_) (fun e h42 => ?_)
      ·
       clear h41
       subst e
       cases h42
      ·
       clear h41
       subst e
       refine CV.skip ?_
       refine PV.thenN ?_
       refine sr ?_
       refine as_ ?_
       refine dn ?_
       refine CV.ret ?_
       cases h42
       exact PV.ret (by simp) Tryz.results89 hS (RS.tmp rfl RS.nil) rfl
noncomputable def g186 (ro : List HT) (a0 a1 a2 : AV) (T : HT) (nx : Nat) : R :=
 fldK 1860002 T ro a0 0 fun x12_1 =>
 iaK 1860004 x12_1 a1 5 fun x14_2 =>
 ldAK 1860005 T ro x14_2 5 fun x15_3 =>
 newK T nx (.obj [.lit (.int .i64 0), .lit (.int .i64 0), .lit (.int .i64 0), .lit (.string ⟨#[]⟩), .lit (.slice none 0 0)] 172) fun x6_4 T1 n1 =>
 stAK 1860007 T1 x6_4 x15_3 5 fun T2 =>
 faK 1860008 x6_4 0 fun x16_5 =>
 ldK 1860009 T2 ro x16_5 fun x17_6 =>
 eqK Tryz.prog 3 (.tmp 17) (.const (.int .i64 (.ofNat 6))) 1860010 x17_6 (.lit (.int .i64 (.ofNat 6))) fun x19_7 =>
 condK 1860012 x19_7
 (
  ncK 1860015 a2 fun x22_8 =>
  ldK 1860016 T2 ro x22_8 fun x23_9 =>
  faK 1860018 x6_4 3 fun x25_10 =>
  ldK 1860019 T2 ro x25_10 fun x26_11 =>
  optK 1860020 (bld264 [(0, a1), (1, x26_11)]) fun x27_12 =>
  bsK 1860021 T2 n1 1 264 2 [(0, x27_12)] fun x28_13 T3 n3 =>
  shrK 1860023 T3 x23_9 fun T4 =>
  appEK 1860022 T4 ro n3 264 2 24 x23_9 x28_13 fun x29_14 T5 n5 =>
  ncK 1860024 a2 fun x30_15 =>
  stK 1860025 T5 x30_15 x29_14 fun T6 =>
  .ok (.val (.tup [])) T6 n5
 )
 (
  eqK Tryz.prog 3 (.tmp 17) (.const (.int .i64 (.ofNat 8))) 1860026 x17_6 (.lit (.int .i64 (.ofNat 8))) fun x32_16 =>
  condK 1860028 x32_16
  (
   .bad 1860029
  )
  (
   .ok (.val (.tup [])) T2 n1
  )
 )
theorem g186_ok (ro : List HT) (a0 a1 a2 : AV) (T : HT) (nx : Nat) : GOk Tryz.prog envE 186 [a0, a1, a2] ro T nx (g186 ro a0 a1 a2 T nx) := by
 refine GOk.of_body Tryz.func186 rfl Tryz.ntmps186 (by kernel_rfl) rfl fun r T' n' h1 w0 base ρ0 its hS hP => ?_
 have X : CtxW envE ρ0 ro r T' n' := trivial
 unfold g186 at h1
 refine sr ?_
 refine mv ?_
 refine fl hS h1 Cnf.fo213_0 Cnf.one109 fun x12_1 h2 => ?_
 refine mv ?_
 refine vy (V.ia h2 rfl rfl Cnf.el109) fun x14_2 h3 => ?_
 refine vy (V.ldA hS h3 rfl Cnf.agg172) fun x15_3 h4 => ?_
 refine LV.alloc hS h4 rfl Cnf.zr172 rfl rfl rfl fun x6_4 T1 n1 h5 ρ its hS hdr => ?_
 refine LV.stA hS h5 rfl rfl rfl Cnf.agg172 rfl rfl rfl fun T2 its h6 hS => ?_
 refine dn ?_
 refine sr ?_
 refine vy (V.fa h6 rfl Cnf.fo172_0) fun x16_5 h7 => ?_
 refine vy (V.ld hS h7 rfl Cnf.one3) fun x17_6 h8 => ?_
 refine dn ?_
 refine CV.block ?_
 refine sr ?_
 refine vy (V.eq h8 rfl rfl) fun x19_7 h9 => ?_
 refine as_ ?_
 refine dn ?_
 refine CV.cond h9 rfl (fun e h10 => ?_) (fun e h10 => ?_)
 ·
  clear h1 h2 h3 h4 h5 h6 h7 h8 h9
  subst e
  refine CV.regionM [(0, .anywhere), (1, .anywhere), (2, .anywhere), (3, .held), (4, .anywhere), (5, .anywhere), (6, .held), (7, .held), (8, .alone), (9, .alone), (10, .alone), (11, .alone)] rfl (fun c a a' w hd hq => PanicOk.root (P := Tryz.prog) (fn := Tryz.f186) (w0 := w0) (base := base) (E := envE) (ro := ro) (r := r) (T' := T') (n' := n') (ρ0 := ρ0) c a a' w hd hq) (by kernel_rfl) ?_
  refine MV.step0 (i := 0) rfl (VAL.move rfl) rfl rfl rfl ?_
  refine MV.step0 (i := 1) rfl (VAL.move rfl) rfl rfl rfl ?_
  refine MV.lift0 (i := 2) rfl (V.nc h10 rfl) rfl rfl rfl fun x22_8 h11 => ?_
  refine MV.lift1 (i := 3) rfl (fun _ z => z) (V.ld hS h11 rfl Cnf.one259) rfl rfl rfl [] (by kernel_rfl) fun x23_9 h12 => ?_
  refine MV.step0 (i := 4) rfl (VAL.move rfl) rfl rfl rfl ?_
  refine MV.lift0 (i := 5) rfl (V.fa h12 rfl Cnf.fo172_3) rfl rfl rfl fun x25_10 h13 => ?_
  refine MV.lift1 (i := 6) rfl (fun _ z => z) (V.ld hS h13 rfl Cnf.one9) rfl rfl rfl [3] (by kernel_rfl) fun x26_11 h14 => ?_
  refine MV.lift1 (i := 7) rfl (fun _ z => z) (V.bld h14 rfl) rfl rfl rfl [3] (by kernel_rfl) fun x27_12 h15 => ?_
  refine MV.force (i := 8) rfl ?_
  refine LV.bslice hS h15 rfl rfl Cnf.el259 rfl rfl rfl rfl fun x28_13 T3 n3 h16 ρ its hS hdr => ?_
  refine LV.nextM [3] (by kernel_rfl) (fun _ => hdr) ?_
  refine MV.force (i := 9) rfl ?_
  obtain ⟨T4, its1, h17, hS, hW⟩ := shrK_inv hS h16
  refine LV.world hW ?_
  refine LV.appE hS h17 rfl rfl rfl rfl Cnf.el259 rfl rfl rfl fun x29_14 T5 n5 h18 ρ its hS => ?_
  refine LV.nextM [] (by kernel_rfl) (fun z => absurd rfl z) ?_
  refine MV.force (i := 10) rfl ?_
  refine vy (V.nc h18 rfl) fun x30_15 h19 => ?_
  refine LV.nextM [] (by kernel_rfl) (fun z => absurd rfl z) ?_
  refine MV.force (i := 11) rfl ?_
  refine LV.st hS h19 rfl rfl rfl Cnf.siz259 rfl rfl fun T6 its h20 hS => ?_
  refine LV.nextM [] (by kernel_rfl) (fun z => absurd rfl z) ?_
  refine MV.done ?_
  refine PV.blockN ?_
  cases h20
  exact PV.ret (by simp) Tryz.results186 hS RS.nil rfl
 ·
  clear h1 h2 h3 h4 h5 h6 h7 h8 h9
  subst e
  refine sr ?_
  refine vy (V.eq h10 rfl rfl) fun x32_16 h21 => ?_
  refine as_ ?_
  refine dn ?_
  refine CV.cond h21 rfl (fun e h22 => ?_) (fun e h22 => ?_)
  ·
   clear h10 h21
   subst e
   cases h22
  ·
   clear h10 h21
   subst e
   refine CV.skip ?_
   refine PV.blockN ?_
   cases h22
   exact PV.ret (by simp) Tryz.results186 hS RS.nil rfl
noncomputable def g139_b2 (ih : FuncId → List HT → List AV → HT → Nat → R) (ro : List HT) (lp2 : AV → AV → AV → AV → AV → HT → Nat → R) (y0 y2 y91 y92 y93 : AV) (T5 : HT) (n5 : Nat) : R :=
 ltK Tryz.prog 3 (.tmp 93) (.tmp 92) 1390038 y93 y92 fun x94_19 =>
 condK 1390039 x94_19
 (
  iaK 1390040 y91 y93 1 fun x95_20 =>
  ldK 1390041 T5 ro x95_20 fun x96_21 =>
  callK (ih 139 ro [y0, x96_21, y2] T5 n5) fun x100_22 T6 n6 =>
  addK Tryz.prog 3 (.tmp 93) (.const (.int .i64 (.ofNat 1))) 1390047 y93 (.lit (.int .i64 (.ofNat 1))) fun x101_23 =>
  lp2 y0 y2 y91 y92 x101_23 T6 n6
 )
 (
  .ok (.val (.tup [])) T5 n5
 )
noncomputable def g139_k1 (ih : FuncId → List HT → List AV → HT → Nat → R) (ro : List HT) (y0 y2 y6 y21 y22 : AV) (T3 : HT) (n3 : Nat) : R :=
 condK 1390010 y22
 (
  faK 1390012 y6 4 fun x26_7 =>
  ldK 1390013 T3 ro x26_7 fun x27_8 =>
  iaK 1390014 x27_8 (.lit (.int .i64 (.ofNat 0))) 1 fun x28_9 =>
  ldK 1390015 T3 ro x28_9 fun x29_10 =>
  callK (g186 ro y0 x29_10 y2 T3 n3) fun x31_11 T4 n4 =>
  .ok (.val (.tup [])) T4 n4
 )
 (
  eqK Tryz.prog 3 (.tmp 21) (.const (.int .i64 (.ofNat 44))) 1390018 y21 (.lit (.int .i64 (.ofNat 44))) fun x33_12 =>
  condK 1390020 x33_12
  (
   .bad 1390021
  )
  (
   eqK Tryz.prog 3 (.tmp 21) (.const (.int .i64 (.ofNat 45))) 1390022 y21 (.lit (.int .i64 (.ofNat 45))) fun x49_13 =>
   condK 1390024 x49_13
   (
    .bad 1390025
   )
   (
    eqK Tryz.prog 3 (.tmp 21) (.const (.int .i64 (.ofNat 42))) 1390026 y21 (.lit (.int .i64 (.ofNat 42))) fun x62_14 =>
    condK 1390028 x62_14
    (
     .bad 1390029
    )
    (
     eqK Tryz.prog 3 (.tmp 21) (.const (.int .i64 (.ofNat 47))) 1390030 y21 (.lit (.int .i64 (.ofNat 47))) fun x89_15 =>
     condK 1390032 x89_15
     (
      faK 1390033 y6 4 fun x90_16 =>
      ldK 1390034 T3 ro x90_16 fun x91_17 =>
      lenSK 1390035 x91_17 fun x92_18 =>
      lpf5 1390037 (g139_b2 ih ro) 100000 y0 y2 x91_17 x92_18 (.lit (.int .i64 (.ofNat 0))) T3 n3
     )
     (
      eqK Tryz.prog 3 (.tmp 21) (.const (.int .i64 (.ofNat 43))) 1390049 y21 (.lit (.int .i64 (.ofNat 43))) fun x103_24 =>
      condK 1390051 x103_24
      (
       .bad 1390052
      )
      (
       .ok (.val (.tup [])) T3 n3
      )
     )
    )
   )
  )
 )
noncomputable def g139 (ih : FuncId → List HT → List AV → HT → Nat → R) (ro : List HT) (a0 a1 a2 : AV) (T : HT) (nx : Nat) : R :=
 fldK 1390002 T ro a0 0 fun x16_1 =>
 iaK 1390004 x16_1 a1 5 fun x18_2 =>
 ldAK 1390005 T ro x18_2 5 fun x19_3 =>
 newK T nx (.obj [.lit (.int .i64 0), .lit (.int .i64 0), .lit (.int .i64 0), .lit (.string ⟨#[]⟩), .lit (.slice none 0 0)] 172) fun x6_4 T1 n1 =>
 stAK 1390007 T1 x6_4 x19_3 5 fun T2 =>
 faK 1390008 x6_4 0 fun x20_5 =>
 ldK 1390009 T2 ro x20_5 fun x21_6 =>
 eqK Tryz.prog 3 (.tmp 21) (.const (.int .i64 (.ofNat 36))) 1390053 x21_6 (.lit (.int .i64 (.ofNat 36))) fun x23_25 =>
 condK 1390055 x23_25
 (
  g139_k1 ih ro a0 a2 x6_4 x21_6 (.lit (.bool true)) T2 n1
 )
 (
  eqK Tryz.prog 3 (.tmp 21) (.const (.int .i64 (.ofNat 37))) 1390056 x21_6 (.lit (.int .i64 (.ofNat 37))) fun x24_26 =>
  g139_k1 ih ro a0 a2 x6_4 x21_6 x24_26 T2 n1
 )
theorem g139_ok (ih : FuncId → List HT → List AV → HT → Nat → R) (hI : ∀ f ro args T nx, GOk Tryz.prog envE f args ro T nx (ih f ro args T nx)) (ro : List HT) (a0 a1 a2 : AV) (T : HT) (nx : Nat) : GOk Tryz.prog envE 139 [a0, a1, a2] ro T nx (g139 ih ro a0 a1 a2 T nx) := by
 refine GOk.of_body Tryz.func139 rfl Tryz.ntmps139 (by kernel_rfl) rfl fun r T' n' h1 w0 base ρ0 its hS hP => ?_
 have X : CtxW envE ρ0 ro r T' n' := trivial
 unfold g139 at h1
 refine sr ?_
 refine mv ?_
 refine fl hS h1 Cnf.fo213_0 Cnf.one109 fun x16_1 h2 => ?_
 refine mv ?_
 refine vy (V.ia h2 rfl rfl Cnf.el109) fun x18_2 h3 => ?_
 refine vy (V.ldA hS h3 rfl Cnf.agg172) fun x19_3 h4 => ?_
 refine LV.alloc hS h4 rfl Cnf.zr172 rfl rfl rfl fun x6_4 T1 n1 h5 ρ its hS hdr => ?_
 refine LV.stA hS h5 rfl rfl rfl Cnf.agg172 rfl rfl rfl fun T2 its h6 hS => ?_
 refine dn ?_
 refine sr ?_
 refine vy (V.fa h6 rfl Cnf.fo172_0) fun x20_5 h7 => ?_
 refine vy (V.ld hS h7 rfl Cnf.one3) fun x21_6 h8 => ?_
 refine dn ?_
 refine CV.block ?_
 refine cs5 X 0 2 6 21 22 [] (g139_k1 ih ro) ?_ ?_
 ·
  refine sr ?_
  refine vy (V.eq h8 rfl rfl) fun x23_25 h36 => ?_
  refine as_ ?_
  refine dn ?_
  refine CV.cond h36 rfl (fun e h37 => ?_) (fun e h37 => ?_)
  ·
   clear h1 h2 h3 h4 h5 h6 h7 h8 h36
   subst e
   refine CV.skip ?_
   exact pa5 hS h37 ⟨rfl, rfl, rfl, rfl, rfl, trivial⟩
  ·
   clear h1 h2 h3 h4 h5 h6 h7 h8 h36
   subst e
   refine CV.region ?_
   refine vy (V.eq h37 rfl rfl) fun x24_26 h38 => ?_
   refine as_ ?_
   refine LV.done ?_
   exact pa5 hS h38 ⟨rfl, rfl, rfl, rfl, rfl, trivial⟩
 ·
  intro y0 y2 y6 y21 y22 T3 n3 ρ its hS h9
  unfold g139_k1 at h9
  clear h1 h2 h3 h4 h5 h6 h7 h8
  refine CV.cond h9 rfl (fun e h10 => ?_) (fun e h10 => ?_)
  ·
   clear h9
   subst e
   refine CV.region ?_
   refine mv ?_
   refine vy (V.fa h10 rfl Cnf.fo172_4) fun x26_7 h11 => ?_
   refine vy (V.ld hS h11 rfl Cnf.one170) fun x27_8 h12 => ?_
   refine vy (V.ia h12 rfl rfl Cnf.el170) fun x28_9 h13 => ?_
   refine vy (V.ld hS h13 rfl Cnf.one3) fun x29_10 h14 => ?_
   refine mv ?_
   refine LV.call hS h14 (g186_ok _ _ _ _ _ _ ) hP rfl rfl rfl rfl fun x31_11 T4 n4 h15 ρ its hS => ?_
   refine LV.done ?_
   refine PV.blockN ?_
   cases h15
   exact PV.ret (by simp) Tryz.results139 hS RS.nil rfl
  ·
   clear h9
   subst e
   refine sr ?_
   refine vy (V.eq h10 rfl rfl) fun x33_12 h16 => ?_
   refine as_ ?_
   refine dn ?_
   refine CV.cond h16 rfl (fun e h17 => ?_) (fun e h17 => ?_)
   ·
    clear h10 h16
    subst e
    cases h17
   ·
    clear h10 h16
    subst e
    refine sr ?_
    refine vy (V.eq h17 rfl rfl) fun x49_13 h18 => ?_
    refine as_ ?_
    refine dn ?_
    refine CV.cond h18 rfl (fun e h19 => ?_) (fun e h19 => ?_)
    ·
     clear h17 h18
     subst e
     cases h19
    ·
     clear h17 h18
     subst e
     refine sr ?_
     refine vy (V.eq h19 rfl rfl) fun x62_14 h20 => ?_
     refine as_ ?_
     refine dn ?_
     refine CV.cond h20 rfl (fun e h21 => ?_) (fun e h21 => ?_)
     ·
      clear h19 h20
      subst e
      cases h21
     ·
      clear h19 h20
      subst e
      refine sr ?_
      refine vy (V.eq h21 rfl rfl) fun x89_15 h22 => ?_
      refine as_ ?_
      refine dn ?_
      refine CV.cond h22 rfl (fun e h23 => ?_) (fun e h23 => ?_)
      ·
       clear h21 h22
       subst e
       refine sr ?_
       refine vy (V.fa h23 rfl Cnf.fo172_4) fun x90_16 h24 => ?_
       refine vy (V.ld hS h24 rfl Cnf.one170) fun x91_17 h25 => ?_
       refine vy (V.lenS h25 rfl Cnf.ls170) fun x92_18 h26 => ?_
       refine mv ?_
       refine dn ?_
       refine CV.block ?_
       refine cl5 X 0 2 91 92 93 [] hS h26 ⟨rfl, rfl, rfl, rfl, rfl, trivial⟩ ?_
       intro f2 y0 y2 y91 y92 y93 T5 n5 ρ its hS h27
       unfold g139_b2 at h27
       clear h23 h24 h25 h26
       refine sr ?_
       refine vy (V.lt h27 rfl rfl) fun x94_19 h28 => ?_
       refine dn ?_
       refine CV.seq ?_
       refine CV.cond h28 rfl (fun e h29 => ?_) (fun e h29 => ?_)
       ·
        clear h27 h28
        subst e
        refine CV.skip ?_
        refine PV.thenN ?_
        refine CV.seq ?_
        refine CV.block ?_
        refine sr ?_
        refine vy (V.ia h29 rfl rfl Cnf.el170) fun x95_20 h30 => ?_
        refine vy (V.ld hS h30 rfl Cnf.one3) fun x96_21 h31 => ?_
        refine as_ ?_
        refine dn ?_
        refine CV.region ?_
        refine mv ?_
        refine mv ?_
        refine mv ?_
        refine LV.call hS h31 (hI _ _ _ _ _) hP rfl rfl rfl rfl fun x100_22 T6 n6 h32 ρ its hS => ?_
        refine LV.done ?_
        refine PV.blockN ?_
        refine PV.thenN ?_
        refine CV.region ?_
        refine vy (V.add h32 rfl rfl) fun x101_23 h33 => ?_
        refine mv ?_
        refine LV.done ?_
        exact pb5 hS h33 ⟨rfl, rfl, rfl, rfl, rfl, trivial⟩
       ·
        clear h27 h28
        subst e
        refine CV.exit ?_
        refine PV.thenE ?_
        refine PV.thenE ?_
        refine PV.blockE ?_
        refine PV.blockN ?_
        cases h29
        exact PV.ret (by simp) Tryz.results139 hS RS.nil rfl
      ·
       clear h21 h22
       subst e
       refine sr ?_
       refine vy (V.eq h23 rfl rfl) fun x103_24 h34 => ?_
       refine as_ ?_
       refine dn ?_
       refine CV.cond h34 rfl (fun e h35 => ?_) (fun e h35 => ?_)
       ·
        clear h23 h34
        subst e
        cases h35
       ·
        clear h23 h34
        subst e
        refine CV.skip ?_
        refine PV.blockN ?_
        cases h35
        exact PV.ret (by simp) Tryz.results139 hS RS.nil rfl
noncomputable def ap6 (ih : FuncId → List HT → List AV → HT → Nat → R) (f : FuncId) (ro : List HT) (args : List AV) (T : HT) (nx : Nat) : R :=
  Bool.rec (motive := fun _ => R) (.bad 2) (List.rec (motive := fun _ => R) (.bad 1) (fun a0 l0 _ => List.rec (motive := fun _ => R) (.bad 1) (fun a1 l1 _ => List.rec (motive := fun _ => R) (.bad 1) (fun a2 l2 _ => List.rec (motive := fun _ => R) (g139 ih ro a0 a1 a2 T nx) (fun _ _ _ => .bad 1) l2) l1) l0) args) (Nat.beq f 139)
noncomputable def scc6 (fuel : Nat) : FuncId → List HT → List AV → HT → Nat → R :=
  Nat.rec (motive := fun _ => FuncId → List HT → List AV → HT → Nat → R) (fun _ _ _ _ _ => .bad 3) (fun _ ih => ap6 ih) fuel
theorem ap6_ok (ih : FuncId → List HT → List AV → HT → Nat → R) (hI : ∀ f ro args T nx, GOk Tryz.prog envE f args ro T nx (ih f ro args T nx)) (f : FuncId) (ro : List HT) (args : List AV) (T : HT) (nx : Nat) : GOk Tryz.prog envE f args ro T nx (ap6 ih f ro args T nx) := by
  unfold ap6
  refine recb_go (fun hb => ?_) (fun _ => ?_)
  · obtain rfl := beqT hb
    rcases args with _ | ⟨a0, l0⟩
    · exact GOk.bad
    rcases l0 with _ | ⟨a1, l1⟩
    · exact GOk.bad
    rcases l1 with _ | ⟨a2, l2⟩
    · exact GOk.bad
    rcases l2 with _ | ⟨_, _⟩
    · exact g139_ok _ hI _ _ _ _ _ _ 
    · exact GOk.bad
  · exact GOk.bad
theorem scc6_ok : ∀ (fuel : Nat) (f : FuncId) (ro : List HT) (args : List AV) (T : HT) (nx : Nat), GOk Tryz.prog envE f args ro T nx (scc6 fuel f ro args T nx)
  | 0, _, _, _, _, _ => GOk.bad
  | fuel + 1, f, ro, args, T, nx => ap6_ok (scc6 fuel) (scc6_ok fuel) f ro args T nx
noncomputable def g201_k2 (ro : List HT) (y0 y2 : AV) (T2 : HT) (n2 : Nat) : R :=
 optK 2010004 (convV Tryz.prog 69 5 y0) fun x15_1 =>
 ixK 2010005 (.lit (.string ⟨⟨[0, 1, 2, 2, 3, 3, 3, 3, 4, 4, 4, 4, 4, 4, 4, 4, 5, 5, 5, 5, 5, 5, 5, 5, 5, 5, 5, 5, 5, 5, 5, 5, 6, 6, 6, 6, 6, 6, 6, 6, 6, 6, 6, 6, 6, 6, 6, 6, 6, 6, 6, 6, 6, 6, 6, 6, 6, 6, 6, 6, 6, 6, 6, 6, 7, 7, 7, 7, 7, 7, 7, 7, 7, 7, 7, 7, 7, 7, 7, 7, 7, 7, 7, 7, 7, 7, 7, 7, 7, 7, 7, 7, 7, 7, 7, 7, 7, 7, 7, 7, 7, 7, 7, 7, 7, 7, 7, 7, 7, 7, 7, 7, 7, 7, 7, 7, 7, 7, 7, 7, 7, 7, 7, 7, 7, 7, 7, 7, 8, 8, 8, 8, 8, 8, 8, 8, 8, 8, 8, 8, 8, 8, 8, 8, 8, 8, 8, 8, 8, 8, 8, 8, 8, 8, 8, 8, 8, 8, 8, 8, 8, 8, 8, 8, 8, 8, 8, 8, 8, 8, 8, 8, 8, 8, 8, 8, 8, 8, 8, 8, 8, 8, 8, 8, 8, 8, 8, 8, 8, 8, 8, 8, 8, 8, 8, 8, 8, 8, 8, 8, 8, 8, 8, 8, 8, 8, 8, 8, 8, 8, 8, 8, 8, 8, 8, 8, 8, 8, 8, 8, 8, 8, 8, 8, 8, 8, 8, 8, 8, 8, 8, 8, 8, 8, 8, 8, 8, 8, 8, 8, 8, 8, 8, 8, 8, 8, 8, 8, 8, 8, 8, 8, 8, 8, 8, 8]⟩⟩)) x15_1 fun x16_2 =>
 optK 2010006 (convV Tryz.prog 5 3 x16_2) fun x17_3 =>
 addK Tryz.prog 3 (.tmp 13) (.tmp 17) 2010007 y2 x17_3 fun x18_4 =>
 .ok (.val x18_4) T2 n2
noncomputable def g201_k1 (ro : List HT) (y0 y2 : AV) (T1 : HT) (n1 : Nat) : R :=
 geK Tryz.prog 69 (.tmp 7) (.const (.int .u32 (.ofNat 256))) 2010010 y0 (.lit (.int .u32 (.ofNat 256))) fun x8_5 =>
 condK 2010011 x8_5
 (
  bin0 Tryz.prog .shr 69 (.tmp 9) (.const (.int .u64 (.ofNat 8))) 2010013 y0 (.lit (.int .u64 (.ofNat 8))) fun x10_6 =>
  addK Tryz.prog 3 (.tmp 11) (.const (.int .i64 (.ofNat 8))) 2010016 y2 (.lit (.int .i64 (.ofNat 8))) fun x12_7 =>
  g201_k2 ro x10_6 x12_7 T1 n1
 )
 (
  g201_k2 ro y0 y2 T1 n1
 )
noncomputable def g201 (ro : List HT) (a0 : AV) (T : HT) (nx : Nat) : R :=
 geK Tryz.prog 69 (.tmp 3) (.const (.int .u32 (.ofNat 65536))) 2010019 a0 (.lit (.int .u32 (.ofNat 65536))) fun x4_8 =>
 condK 2010020 x4_8
 (
  bin0 Tryz.prog .shr 69 (.tmp 5) (.const (.int .u64 (.ofNat 16))) 2010022 a0 (.lit (.int .u64 (.ofNat 16))) fun x6_9 =>
  g201_k1 ro x6_9 (.lit (.int .i64 (.ofNat 16))) T nx
 )
 (
  g201_k1 ro a0 (.lit (.int .i64 (.ofNat 0))) T nx
 )
theorem g201_ok (ro : List HT) (a0 : AV) (T : HT) (nx : Nat) : GOk Tryz.prog envE 201 [a0] ro T nx (g201 ro a0 T nx) := by
 refine GOk.of_body Tryz.func201 rfl Tryz.ntmps201 (by kernel_rfl) rfl fun r T' n' h1 w0 base ρ0 its hS hP => ?_
 have X : CtxW envE ρ0 ro r T' n' := trivial
 unfold g201 at h1
 refine sr ?_
 refine as_ ?_
 refine dn ?_
 refine cs2 X 0 2 [] (g201_k1 ro) ?_ ?_
 ·
  refine sr ?_
  refine mv ?_
  refine vy (V.ge h1 rfl rfl) fun x4_8 h12 => ?_
  refine dn ?_
  refine CV.cond h12 rfl (fun e h13 => ?_) (fun e h13 => ?_)
  ·
   clear h1 h12
   subst e
   refine sr ?_
   refine mv ?_
   refine vy (V.bin0 h13 rfl rfl) fun x6_9 h14 => ?_
   refine as_ ?_
   refine dn ?_
   refine CV.region ?_
   refine as_ ?_
   refine LV.done ?_
   exact pa2 hS h14 ⟨rfl, rfl, trivial⟩
  ·
   clear h1 h12
   subst e
   refine CV.skip ?_
   exact pa2 hS h13 ⟨rfl, rfl, trivial⟩
 ·
  intro y0 y2 T1 n1 ρ its hS h2
  unfold g201_k1 at h2
  clear h1
  refine cs2 X 0 2 [] (g201_k2 ro) ?_ ?_
  ·
   refine sr ?_
   refine mv ?_
   refine vy (V.ge h2 rfl rfl) fun x8_5 h8 => ?_
   refine dn ?_
   refine CV.cond h8 rfl (fun e h9 => ?_) (fun e h9 => ?_)
   ·
    clear h2 h8
    subst e
    refine sr ?_
    refine mv ?_
    refine vy (V.bin0 h9 rfl rfl) fun x10_6 h10 => ?_
    refine as_ ?_
    refine dn ?_
    refine CV.region ?_
    refine mv ?_
    refine vy (V.add h10 rfl rfl) fun x12_7 h11 => ?_
    refine as_ ?_
    refine LV.done ?_
    exact pa2 hS h11 ⟨rfl, rfl, trivial⟩
   ·
    clear h2 h8
    subst e
    refine CV.skip ?_
    exact pa2 hS h9 ⟨rfl, rfl, trivial⟩
  ·
   intro y0 y2 T2 n2 ρ its hS h3
   unfold g201_k2 at h3
   clear h2
   refine sr ?_
   refine mv ?_
   refine mv ?_
   refine vy (V.conv h3 rfl) fun x15_1 h4 => ?_
   refine vy (V.ix h4 rfl rfl Cnf.st9) fun x16_2 h5 => ?_
   refine vy (V.conv h5 rfl) fun x17_3 h6 => ?_
   refine vy (V.add h6 rfl rfl) fun x18_4 h7 => ?_
   refine as_ ?_
   refine dn ?_
   refine CV.ret ?_
   cases h7
   exact PV.ret (by simp) Tryz.results201 hS (RS.tmp rfl RS.nil) rfl
noncomputable def g202_k3 (ro : List HT) (y0 y2 : AV) (T3 : HT) (n3 : Nat) : R :=
 optK 2020004 (convV Tryz.prog 68 5 y0) fun x21_1 =>
 ixK 2020005 (.lit (.string ⟨⟨[0, 1, 2, 2, 3, 3, 3, 3, 4, 4, 4, 4, 4, 4, 4, 4, 5, 5, 5, 5, 5, 5, 5, 5, 5, 5, 5, 5, 5, 5, 5, 5, 6, 6, 6, 6, 6, 6, 6, 6, 6, 6, 6, 6, 6, 6, 6, 6, 6, 6, 6, 6, 6, 6, 6, 6, 6, 6, 6, 6, 6, 6, 6, 6, 7, 7, 7, 7, 7, 7, 7, 7, 7, 7, 7, 7, 7, 7, 7, 7, 7, 7, 7, 7, 7, 7, 7, 7, 7, 7, 7, 7, 7, 7, 7, 7, 7, 7, 7, 7, 7, 7, 7, 7, 7, 7, 7, 7, 7, 7, 7, 7, 7, 7, 7, 7, 7, 7, 7, 7, 7, 7, 7, 7, 7, 7, 7, 7, 8, 8, 8, 8, 8, 8, 8, 8, 8, 8, 8, 8, 8, 8, 8, 8, 8, 8, 8, 8, 8, 8, 8, 8, 8, 8, 8, 8, 8, 8, 8, 8, 8, 8, 8, 8, 8, 8, 8, 8, 8, 8, 8, 8, 8, 8, 8, 8, 8, 8, 8, 8, 8, 8, 8, 8, 8, 8, 8, 8, 8, 8, 8, 8, 8, 8, 8, 8, 8, 8, 8, 8, 8, 8, 8, 8, 8, 8, 8, 8, 8, 8, 8, 8, 8, 8, 8, 8, 8, 8, 8, 8, 8, 8, 8, 8, 8, 8, 8, 8, 8, 8, 8, 8, 8, 8, 8, 8, 8, 8, 8, 8, 8, 8, 8, 8, 8, 8, 8, 8, 8, 8, 8, 8, 8, 8, 8, 8]⟩⟩)) x21_1 fun x22_2 =>
 optK 2020006 (convV Tryz.prog 5 3 x22_2) fun x23_3 =>
 addK Tryz.prog 3 (.tmp 19) (.tmp 23) 2020007 y2 x23_3 fun x24_4 =>
 .ok (.val x24_4) T3 n3
noncomputable def g202_k2 (ro : List HT) (y0 y2 : AV) (T2 : HT) (n2 : Nat) : R :=
 geK Tryz.prog 68 (.tmp 13) (.const (.int .u64 (.ofNat 256))) 2020010 y0 (.lit (.int .u64 (.ofNat 256))) fun x14_5 =>
 condK 2020011 x14_5
 (
  bin0 Tryz.prog .shr 68 (.tmp 15) (.const (.int .u64 (.ofNat 8))) 2020013 y0 (.lit (.int .u64 (.ofNat 8))) fun x16_6 =>
  addK Tryz.prog 3 (.tmp 17) (.const (.int .i64 (.ofNat 8))) 2020016 y2 (.lit (.int .i64 (.ofNat 8))) fun x18_7 =>
  g202_k3 ro x16_6 x18_7 T2 n2
 )
 (
  g202_k3 ro y0 y2 T2 n2
 )
noncomputable def g202_k1 (ro : List HT) (y0 y2 : AV) (T1 : HT) (n1 : Nat) : R :=
 geK Tryz.prog 68 (.tmp 7) (.const (.int .u64 (.ofNat 65536))) 2020019 y0 (.lit (.int .u64 (.ofNat 65536))) fun x8_8 =>
 condK 2020020 x8_8
 (
  bin0 Tryz.prog .shr 68 (.tmp 9) (.const (.int .u64 (.ofNat 16))) 2020022 y0 (.lit (.int .u64 (.ofNat 16))) fun x10_9 =>
  addK Tryz.prog 3 (.tmp 11) (.const (.int .i64 (.ofNat 16))) 2020025 y2 (.lit (.int .i64 (.ofNat 16))) fun x12_10 =>
  g202_k2 ro x10_9 x12_10 T1 n1
 )
 (
  g202_k2 ro y0 y2 T1 n1
 )
noncomputable def g202 (ro : List HT) (a0 : AV) (T : HT) (nx : Nat) : R :=
 geK Tryz.prog 68 (.tmp 3) (.const (.int .u64 (.ofNat 4294967296))) 2020028 a0 (.lit (.int .u64 (.ofNat 4294967296))) fun x4_11 =>
 condK 2020029 x4_11
 (
  bin0 Tryz.prog .shr 68 (.tmp 5) (.const (.int .u64 (.ofNat 32))) 2020031 a0 (.lit (.int .u64 (.ofNat 32))) fun x6_12 =>
  g202_k1 ro x6_12 (.lit (.int .i64 (.ofNat 32))) T nx
 )
 (
  g202_k1 ro a0 (.lit (.int .i64 (.ofNat 0))) T nx
 )
theorem g202_ok (ro : List HT) (a0 : AV) (T : HT) (nx : Nat) : GOk Tryz.prog envE 202 [a0] ro T nx (g202 ro a0 T nx) := by
 refine GOk.of_body Tryz.func202 rfl Tryz.ntmps202 (by kernel_rfl) rfl fun r T' n' h1 w0 base ρ0 its hS hP => ?_
 have X : CtxW envE ρ0 ro r T' n' := trivial
 unfold g202 at h1
 refine sr ?_
 refine as_ ?_
 refine dn ?_
 refine cs2 X 0 2 [] (g202_k1 ro) ?_ ?_
 ·
  refine sr ?_
  refine mv ?_
  refine vy (V.ge h1 rfl rfl) fun x4_11 h17 => ?_
  refine dn ?_
  refine CV.cond h17 rfl (fun e h18 => ?_) (fun e h18 => ?_)
  ·
   clear h1 h17
   subst e
   refine sr ?_
   refine mv ?_
   refine vy (V.bin0 h18 rfl rfl) fun x6_12 h19 => ?_
   refine as_ ?_
   refine dn ?_
   refine CV.region ?_
   refine as_ ?_
   refine LV.done ?_
   exact pa2 hS h19 ⟨rfl, rfl, trivial⟩
  ·
   clear h1 h17
   subst e
   refine CV.skip ?_
   exact pa2 hS h18 ⟨rfl, rfl, trivial⟩
 ·
  intro y0 y2 T1 n1 ρ its hS h2
  unfold g202_k1 at h2
  clear h1
  refine cs2 X 0 2 [] (g202_k2 ro) ?_ ?_
  ·
   refine sr ?_
   refine mv ?_
   refine vy (V.ge h2 rfl rfl) fun x8_8 h13 => ?_
   refine dn ?_
   refine CV.cond h13 rfl (fun e h14 => ?_) (fun e h14 => ?_)
   ·
    clear h2 h13
    subst e
    refine sr ?_
    refine mv ?_
    refine vy (V.bin0 h14 rfl rfl) fun x10_9 h15 => ?_
    refine as_ ?_
    refine dn ?_
    refine CV.region ?_
    refine mv ?_
    refine vy (V.add h15 rfl rfl) fun x12_10 h16 => ?_
    refine as_ ?_
    refine LV.done ?_
    exact pa2 hS h16 ⟨rfl, rfl, trivial⟩
   ·
    clear h2 h13
    subst e
    refine CV.skip ?_
    exact pa2 hS h14 ⟨rfl, rfl, trivial⟩
  ·
   intro y0 y2 T2 n2 ρ its hS h3
   unfold g202_k2 at h3
   clear h2
   refine cs2 X 0 2 [] (g202_k3 ro) ?_ ?_
   ·
    refine sr ?_
    refine mv ?_
    refine vy (V.ge h3 rfl rfl) fun x14_5 h9 => ?_
    refine dn ?_
    refine CV.cond h9 rfl (fun e h10 => ?_) (fun e h10 => ?_)
    ·
     clear h3 h9
     subst e
     refine sr ?_
     refine mv ?_
     refine vy (V.bin0 h10 rfl rfl) fun x16_6 h11 => ?_
     refine as_ ?_
     refine dn ?_
     refine CV.region ?_
     refine mv ?_
     refine vy (V.add h11 rfl rfl) fun x18_7 h12 => ?_
     refine as_ ?_
     refine LV.done ?_
     exact pa2 hS h12 ⟨rfl, rfl, trivial⟩
    ·
     clear h3 h9
     subst e
     refine CV.skip ?_
     exact pa2 hS h10 ⟨rfl, rfl, trivial⟩
   ·
    intro y0 y2 T3 n3 ρ its hS h4
    unfold g202_k3 at h4
    clear h3
    refine sr ?_
    refine mv ?_
    refine mv ?_
    refine vy (V.conv h4 rfl) fun x21_1 h5 => ?_
    refine vy (V.ix h5 rfl rfl Cnf.st9) fun x22_2 h6 => ?_
    refine vy (V.conv h6 rfl) fun x23_3 h7 => ?_
    refine vy (V.add h7 rfl rfl) fun x24_4 h8 => ?_
    refine as_ ?_
    refine dn ?_
    refine CV.ret ?_
    cases h8
    exact PV.ret (by simp) Tryz.results202 hS (RS.tmp rfl RS.nil) rfl
noncomputable def g147 (ro : List HT) (a0 : AV) (T : HT) (nx : Nat) : R :=
 condK 1470002 (.lit (.bool false))
 (
  .bad 0
 )
 (
  callK (g202 ro a0 T nx) fun x7_1 T1 n1 =>
  .ok (.val x7_1) T1 n1
 )
theorem g147_ok (ro : List HT) (a0 : AV) (T : HT) (nx : Nat) : GOk Tryz.prog envE 147 [a0] ro T nx (g147 ro a0 T nx) := by
 refine GOk.of_body Tryz.func147 rfl Tryz.ntmps147 (by kernel_rfl) rfl fun r T' n' h1 w0 base ρ0 its hS hP => ?_
 have X : CtxW envE ρ0 ro r T' n' := trivial
 unfold g147 at h1
 refine sr ?_
 refine as_ ?_
 refine dn ?_
 refine CV.seq ?_
 refine CV.cond h1 rfl (fun e h2 => ?_) (fun e h2 => ?_)
 ·
  clear h1
  cases e
 ·
  clear h1
  refine CV.skip ?_
  refine PV.thenN ?_
  refine sr ?_
  refine mv ?_
  refine LV.call hS h2 (g202_ok _ _ _ _ ) hP rfl rfl rfl rfl fun x7_1 T1 n1 h3 ρ its hS => ?_
  refine as_ ?_
  refine dn ?_
  refine CV.ret ?_
  cases h3
  exact PV.ret (by simp) Tryz.results147 hS (RS.tmp rfl RS.nil) rfl

end Go.Proofs.YtlljgagoboapaaaGreatDoor.Cn
