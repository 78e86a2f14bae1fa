/-
  Proved here: plain functions that do what the program's functions do, each with its proof.
-/
import Derived.Test.YtlljgagoboapaaaGreatDoorVdd
namespace Go.Proofs.YtlljgagoboapaaaGreatDoor.Vd
open Go.EY Go.EX Go.SX Go.RowKit
noncomputable def g158_k3 (ro : List HT) (y0 y3 y4 y5 y40 : AV) (T5 : HT) (n5 : Nat) : R :=
 .ok (.val y40) T5 n5
noncomputable def g158_k6 (ro : List HT) (y0 y3 y4 y5 y155 : AV) (T10 : HT) (n10 : Nat) : R :=
 .ok (.val y155) T10 n10
noncomputable def g158_k5 (ro : List HT) (y0 y3 y4 y5 y9 y55 : AV) (T9 : HT) (n9 : Nat) : R :=
 condK 1580042 y55
 (
  .bad 1580043
 )
 (
  eqK Tryz.prog 3 (.tmp 9) (.const (.int .i64 (.ofNat 10))) 1580044 y9 (.lit (.int .i64 (.ofNat 10))) fun x62_16 =>
  condK 1580046 x62_16
  (
   .bad 1580047
  )
  (
   eqK Tryz.prog 3 (.tmp 9) (.const (.int .i64 (.ofNat 14))) 1580048 y9 (.lit (.int .i64 (.ofNat 14))) fun x72_17 =>
   condK 1580050 x72_17
   (
    .bad 1580051
   )
   (
    eqK Tryz.prog 3 (.tmp 9) (.const (.int .i64 (.ofNat 34))) 1580052 y9 (.lit (.int .i64 (.ofNat 34))) fun x89_18 =>
    condK 1580054 x89_18
    (
     .bad 1580055
    )
    (
     eqK Tryz.prog 3 (.tmp 9) (.const (.int .i64 (.ofNat 42))) 1580056 y9 (.lit (.int .i64 (.ofNat 42))) fun x111_19 =>
     condK 1580058 x111_19
     (
      .bad 1580059
     )
     (
      eqK Tryz.prog 3 (.tmp 9) (.const (.int .i64 (.ofNat 45))) 1580060 y9 (.lit (.int .i64 (.ofNat 45))) fun x123_20 =>
      condK 1580062 x123_20
      (
       .bad 1580063
      )
      (
       eqK Tryz.prog 3 (.tmp 9) (.const (.int .i64 (.ofNat 47))) 1580064 y9 (.lit (.int .i64 (.ofNat 47))) fun x147_21 =>
       condK 1580066 x147_21
       (
        lenSK 1580068 y5 fun x149_22 =>
        gtK Tryz.prog 3 (.tmp 149) (.const (.int .i64 (.ofNat 0))) 1580069 x149_22 (.lit (.int .i64 (.ofNat 0))) fun x150_23 =>
        condK 1580072 x150_23
        (
         callK (g214 ro y0 y5 (.lit (.func (.func 221) #[] #[])) T9 n9) fun x154_24 T11 n11 =>
         g158_k6 ro y0 y3 y4 y5 x154_24 T11 n11
        )
        (
         g158_k6 ro y0 y3 y4 y5 (.lit (.bool false)) T9 n9
        )
       )
       (
        faK 1580079 y3 0 fun x157_25 =>
        ldK 1580080 T9 ro x157_25 fun x158_26 =>
        callK (g223 ro y0 x158_26 y5 T9 n9) fun x160_27 T12 n12 =>
        .ok (.val x160_27) T12 n12
       )
      )
     )
    )
   )
  )
 )
noncomputable def g158_k4 (ro : List HT) (y0 y3 y4 y5 y9 y41 : AV) (T7 : HT) (n7 : Nat) : R :=
 condK 1580033 y41
 (
  callK (g212 ro y0 y5 (.lit (.int .i64 (.ofNat 1))) (.lit (.int .i64 (.ofNat 1))) T7 n7) fun x49_14 T8 n8 =>
  .ok (.val x49_14) T8 n8
 )
 (
  eqK Tryz.prog 3 (.tmp 9) (.const (.int .i64 (.ofNat 20))) 1580038 y9 (.lit (.int .i64 (.ofNat 20))) fun x51_15 =>
  condK 1580040 x51_15
  (
   .bad 1580041
  )
  (
   eqK Tryz.prog 3 (.tmp 9) (.const (.int .i64 (.ofNat 41))) 1580084 y9 (.lit (.int .i64 (.ofNat 41))) fun x56_28 =>
   condK 1580086 x56_28
   (
    g158_k5 ro y0 y3 y4 y5 y9 (.lit (.bool true)) T7 n7
   )
   (
    eqK Tryz.prog 3 (.tmp 9) (.const (.int .i64 (.ofNat 46))) 1580087 y9 (.lit (.int .i64 (.ofNat 46))) fun x57_29 =>
    g158_k5 ro y0 y3 y4 y5 y9 x57_29 T7 n7
   )
  )
 )
noncomputable def g158_k2 (ro : List HT) (y0 y3 y4 y5 y9 y24 : AV) (T3 : HT) (n3 : Nat) : R :=
 condK 1580013 y24
 (
  callK (g212 ro y0 y5 (.lit (.int .i64 (.ofNat 0))) (.lit (.int .i64 (.ofNat 1048576))) T3 n3) fun x29_8 T4 n4 =>
  .ok (.val x29_8) T4 n4
 )
 (
  eqK Tryz.prog 3 (.tmp 9) (.const (.int .i64 (.ofNat 9))) 1580018 y9 (.lit (.int .i64 (.ofNat 9))) fun x31_9 =>
  condK 1580020 x31_9
  (
   lenSK 1580022 y5 fun x33_10 =>
   bin0 Tryz.prog .rem 3 (.tmp 33) (.const (.int .i64 (.ofNat 2))) 1580023 x33_10 (.lit (.int .i64 (.ofNat 2))) fun x34_11 =>
   eqK Tryz.prog 3 (.tmp 34) (.const (.int .i64 (.ofNat 0))) 1580024 x34_11 (.lit (.int .i64 (.ofNat 0))) fun x35_12 =>
   condK 1580027 x35_12
   (
    callK (g212 ro y0 y5 (.lit (.int .i64 (.ofNat 0))) (.lit (.int .i64 (.ofNat 1048576))) T3 n3) fun x39_13 T6 n6 =>
    g158_k3 ro y0 y3 y4 y5 x39_13 T6 n6
   )
   (
    g158_k3 ro y0 y3 y4 y5 (.lit (.bool false)) T3 n3
   )
  )
  (
   eqK Tryz.prog 3 (.tmp 9) (.const (.int .i64 (.ofNat 11))) 1580089 y9 (.lit (.int .i64 (.ofNat 11))) fun x42_30 =>
   condK 1580091 x42_30
   (
    g158_k4 ro y0 y3 y4 y5 y9 (.lit (.bool true)) T3 n3
   )
   (
    eqK Tryz.prog 3 (.tmp 9) (.const (.int .i64 (.ofNat 12))) 1580092 y9 (.lit (.int .i64 (.ofNat 12))) fun x43_31 =>
    condK 1580094 x43_31
    (
     g158_k4 ro y0 y3 y4 y5 y9 (.lit (.bool true)) T3 n3
    )
    (
     eqK Tryz.prog 3 (.tmp 9) (.const (.int .i64 (.ofNat 16))) 1580095 y9 (.lit (.int .i64 (.ofNat 16))) fun x44_32 =>
     condK 1580097 x44_32
     (
      g158_k4 ro y0 y3 y4 y5 y9 (.lit (.bool true)) T3 n3
     )
     (
      eqK Tryz.prog 3 (.tmp 9) (.const (.int .i64 (.ofNat 17))) 1580098 y9 (.lit (.int .i64 (.ofNat 17))) fun x45_33 =>
      condK 1580100 x45_33
      (
       g158_k4 ro y0 y3 y4 y5 y9 (.lit (.bool true)) T3 n3
      )
      (
       eqK Tryz.prog 3 (.tmp 9) (.const (.int .i64 (.ofNat 35))) 1580101 y9 (.lit (.int .i64 (.ofNat 35))) fun x46_34 =>
       g158_k4 ro y0 y3 y4 y5 y9 x46_34 T3 n3
      )
     )
    )
   )
  )
 )
noncomputable def g158_k1 (ro : List HT) (y0 y3 y4 y5 y9 y10 : AV) (T2 : HT) (n2 : Nat) : R :=
 condK 1580008 y10
 (
  lenSK 1580010 y5 fun x22_6 =>
  eqK Tryz.prog 3 (.tmp 22) (.const (.int .i64 (.ofNat 0))) 1580011 x22_6 (.lit (.int .i64 (.ofNat 0))) fun x23_7 =>
  .ok (.val x23_7) T2 n2
 )
 (
  eqK Tryz.prog 3 (.tmp 9) (.const (.int .i64 (.ofNat 7))) 1580103 y9 (.lit (.int .i64 (.ofNat 7))) fun x25_35 =>
  condK 1580105 x25_35
  (
   g158_k2 ro y0 y3 y4 y5 y9 (.lit (.bool true)) T2 n2
  )
  (
   eqK Tryz.prog 3 (.tmp 9) (.const (.int .i64 (.ofNat 8))) 1580106 y9 (.lit (.int .i64 (.ofNat 8))) fun x26_36 =>
   g158_k2 ro y0 y3 y4 y5 y9 x26_36 T2 n2
  )
 )
noncomputable def g158 (ro : List HT) (a0 a1 : AV) (T : HT) (nx : Nat) : R :=
 boxK 1580001 T nx a1 172 fun x3_1 T1 n1 =>
 faK 1580003 x3_1 4 fun x6_2 =>
 ldK 1580004 T1 ro x6_2 fun x7_3 =>
 faK 1580006 x3_1 0 fun x8_4 =>
 ldK 1580007 T1 ro x8_4 fun x9_5 =>
 eqK Tryz.prog 3 (.tmp 9) (.const (.int .i64 (.ofNat 1))) 1580108 x9_5 (.lit (.int .i64 (.ofNat 1))) fun x11_37 =>
 condK 1580110 x11_37
 (
  g158_k1 ro a0 x3_1 (.lit (.bool false)) x7_3 x9_5 (.lit (.bool true)) T1 n1
 )
 (
  eqK Tryz.prog 3 (.tmp 9) (.const (.int .i64 (.ofNat 2))) 1580111 x9_5 (.lit (.int .i64 (.ofNat 2))) fun x12_38 =>
  condK 1580113 x12_38
  (
   g158_k1 ro a0 x3_1 (.lit (.bool false)) x7_3 x9_5 (.lit (.bool true)) T1 n1
  )
  (
   eqK Tryz.prog 3 (.tmp 9) (.const (.int .i64 (.ofNat 3))) 1580114 x9_5 (.lit (.int .i64 (.ofNat 3))) fun x13_39 =>
   condK 1580116 x13_39
   (
    g158_k1 ro a0 x3_1 (.lit (.bool false)) x7_3 x9_5 (.lit (.bool true)) T1 n1
   )
   (
    eqK Tryz.prog 3 (.tmp 9) (.const (.int .i64 (.ofNat 4))) 1580117 x9_5 (.lit (.int .i64 (.ofNat 4))) fun x14_40 =>
    condK 1580119 x14_40
    (
     g158_k1 ro a0 x3_1 (.lit (.bool false)) x7_3 x9_5 (.lit (.bool true)) T1 n1
    )
    (
     eqK Tryz.prog 3 (.tmp 9) (.const (.int .i64 (.ofNat 5))) 1580120 x9_5 (.lit (.int .i64 (.ofNat 5))) fun x15_41 =>
     condK 1580122 x15_41
     (
      g158_k1 ro a0 x3_1 (.lit (.bool false)) x7_3 x9_5 (.lit (.bool true)) T1 n1
     )
     (
      eqK Tryz.prog 3 (.tmp 9) (.const (.int .i64 (.ofNat 6))) 1580123 x9_5 (.lit (.int .i64 (.ofNat 6))) fun x16_42 =>
      condK 1580125 x16_42
      (
       g158_k1 ro a0 x3_1 (.lit (.bool false)) x7_3 x9_5 (.lit (.bool true)) T1 n1
      )
      (
       eqK Tryz.prog 3 (.tmp 9) (.const (.int .i64 (.ofNat 15))) 1580126 x9_5 (.lit (.int .i64 (.ofNat 15))) fun x17_43 =>
       condK 1580128 x17_43
       (
        g158_k1 ro a0 x3_1 (.lit (.bool false)) x7_3 x9_5 (.lit (.bool true)) T1 n1
       )
       (
        eqK Tryz.prog 3 (.tmp 9) (.const (.int .i64 (.ofNat 38))) 1580129 x9_5 (.lit (.int .i64 (.ofNat 38))) fun x18_44 =>
        condK 1580131 x18_44
        (
         g158_k1 ro a0 x3_1 (.lit (.bool false)) x7_3 x9_5 (.lit (.bool true)) T1 n1
        )
        (
         eqK Tryz.prog 3 (.tmp 9) (.const (.int .i64 (.ofNat 39))) 1580132 x9_5 (.lit (.int .i64 (.ofNat 39))) fun x19_45 =>
         condK 1580134 x19_45
         (
          g158_k1 ro a0 x3_1 (.lit (.bool false)) x7_3 x9_5 (.lit (.bool true)) T1 n1
         )
         (
          eqK Tryz.prog 3 (.tmp 9) (.const (.int .i64 (.ofNat 40))) 1580135 x9_5 (.lit (.int .i64 (.ofNat 40))) fun x20_46 =>
          g158_k1 ro a0 x3_1 (.lit (.bool false)) x7_3 x9_5 x20_46 T1 n1
         )
        )
       )
      )
     )
    )
   )
  )
 )
theorem g158_ok (ro : List HT) (a0 a1 : AV) (T : HT) (nx : Nat) : GOk Tryz.prog envE 158 [a0, a1] ro T nx (g158 ro a0 a1 T nx) := by
 refine GOk.of_body Tryz.func158 rfl Tryz.ntmps158 (by kernel_rfl) rfl fun r T' n' h1 w0 base ρ0 its hS hP => ?_
 have X : CtxW envE ρ0 ro r T' n' := trivial
 unfold g158 at h1
 refine sr ?_
 refine LV.box hS h1 rfl rfl rfl rfl rfl fun x3_1 T1 n1 h2 ρ its hS hdr => ?_
 refine as_ ?_
 refine dn ?_
 refine sr ?_
 refine vy (V.fa h2 rfl Vdf.fo172_4) fun x6_2 h3 => ?_
 refine vy (V.ld hS h3 rfl Vdf.one170) fun x7_3 h4 => ?_
 refine as_ ?_
 refine dn ?_
 refine CV.seq ?_
 refine sr ?_
 refine vy (V.fa h4 rfl Vdf.fo172_0) fun x8_4 h5 => ?_
 refine vy (V.ld hS h5 rfl Vdf.one3) fun x9_5 h6 => ?_
 refine dn ?_
 refine CV.block ?_
 refine cs6 X 0 3 4 5 9 10 [] (g158_k1 ro) ?_ ?_
 ·
  refine sr ?_
  refine vy (V.eq h6 rfl rfl) fun x11_37 h64 => ?_
  refine as_ ?_
  refine dn ?_
  refine CV.cond h64 rfl (fun e h65 => ?_) (fun e h65 => ?_)
  ·
   clear h1 h2 h3 h4 h5 h6 h64
   subst e
   refine CV.skip ?_
   exact pa6 hS h65 ⟨rfl, rfl, rfl, rfl, rfl, rfl, trivial⟩
  ·
   clear h1 h2 h3 h4 h5 h6 h64
   subst e
   refine sr ?_
   refine vy (V.eq h65 rfl rfl) fun x12_38 h66 => ?_
   refine as_ ?_
   refine dn ?_
   refine CV.cond h66 rfl (fun e h67 => ?_) (fun e h67 => ?_)
   ·
    clear h65 h66
    subst e
    refine CV.skip ?_
    exact pa6 hS h67 ⟨rfl, rfl, rfl, rfl, rfl, rfl, trivial⟩
   ·
    clear h65 h66
    subst e
    refine sr ?_
    refine vy (V.eq h67 rfl rfl) fun x13_39 h68 => ?_
    refine as_ ?_
    refine dn ?_
    refine CV.cond h68 rfl (fun e h69 => ?_) (fun e h69 => ?_)
    ·
     clear h67 h68
     subst e
     refine CV.skip ?_
     exact pa6 hS h69 ⟨rfl, rfl, rfl, rfl, rfl, rfl, trivial⟩
    ·
     clear h67 h68
     subst e
     refine sr ?_
     refine vy (V.eq h69 rfl rfl) fun x14_40 h70 => ?_
     refine as_ ?_
     refine dn ?_
     refine CV.cond h70 rfl (fun e h71 => ?_) (fun e h71 => ?_)
     ·
      clear h69 h70
      subst e
      refine CV.skip ?_
      exact pa6 hS h71 ⟨rfl, rfl, rfl, rfl, rfl, rfl, trivial⟩
     ·
      clear h69 h70
      subst e
      refine sr ?_
      refine vy (V.eq h71 rfl rfl) fun x15_41 h72 => ?_
      refine as_ ?_
      refine dn ?_
      refine CV.cond h72 rfl (fun e h73 => ?_) (fun e h73 => ?_)
      ·
       clear h71 h72
       subst e
       refine CV.skip ?_
       exact pa6 hS h73 ⟨rfl, rfl, rfl, rfl, rfl, rfl, trivial⟩
      ·
       clear h71 h72
       subst e
       refine sr ?_
       refine vy (V.eq h73 rfl rfl) fun x16_42 h74 => ?_
       refine as_ ?_
       refine dn ?_
       refine CV.cond h74 rfl (fun e h75 => ?_) (fun e h75 => ?_)
       ·
        clear h73 h74
        subst e
        refine CV.skip ?_
        exact pa6 hS h75 ⟨rfl, rfl, rfl, rfl, rfl, rfl, trivial⟩
       ·
        clear h73 h74
        subst e
        refine sr ?_
        refine vy (V.eq h75 rfl rfl) fun x17_43 h76 => ?_
        refine as_ ?_
        refine dn ?_
        refine CV.cond h76 rfl (fun e h77 => ?_) (fun e h77 => ?_)
        ·
         clear h75 h76
         subst e
         refine CV.skip ?_
         exact pa6 hS h77 ⟨rfl, rfl, rfl, rfl, rfl, rfl, trivial⟩
        ·
         clear h75 h76
         subst e
         refine sr ?_
         refine vy (V.eq h77 rfl rfl) fun x18_44 h78 => ?_
         refine as_ ?_
         refine dn ?_
         refine CV.cond h78 rfl (fun e h79 => ?_) (fun e h79 => ?_)
         ·
          clear h77 h78
          subst e
          refine CV.skip ?_
          exact pa6 hS h79 ⟨rfl, rfl, rfl, rfl, rfl, rfl, trivial⟩
         ·
          clear h77 h78
          subst e
          refine sr ?_
          refine vy (V.eq h79 rfl rfl) fun x19_45 h80 => ?_
          refine as_ ?_
          refine dn ?_
          refine CV.cond h80 rfl (fun e h81 => ?_) (fun e h81 => ?_)
          ·
           clear h79 h80
           subst e
           refine CV.skip ?_
           exact pa6 hS h81 ⟨rfl, rfl, rfl, rfl, rfl, rfl, trivial⟩
          ·
           clear h79 h80
           subst e
           refine CV.region ?_
           refine vy (V.eq h81 rfl rfl) fun x20_46 h82 => ?_
           refine as_ ?_
           refine LV.done ?_
           exact pa6 hS h82 ⟨rfl, rfl, rfl, rfl, rfl, rfl, trivial⟩
 ·
  intro y0 y3 y4 y5 y9 y10 T2 n2 ρ its hS h7
  unfold g158_k1 at h7
  clear h1 h2 h3 h4 h5 h6
  refine CV.cond h7 rfl (fun e h8 => ?_) (fun e h8 => ?_)
  ·
   clear h7
   subst e
   refine sr ?_
   refine mv ?_
   refine vy (V.lenS h8 rfl Vdf.ls170) fun x22_6 h9 => ?_
   refine vy (V.eq h9 rfl rfl) fun x23_7 h10 => ?_
   refine as_ ?_
   refine dn ?_
   refine CV.ret ?_
   refine PV.blockR ?_
   refine PV.thenR ?_
   cases h10
   exact PV.ret (by simp) Tryz.results158 hS (RS.tmp rfl RS.nil) rfl
  ·
   clear h7
   subst e
   refine cs6 X 0 3 4 5 9 24 [] (g158_k2 ro) ?_ ?_
   ·
    refine sr ?_
    refine vy (V.eq h8 rfl rfl) fun x25_35 h61 => ?_
    refine as_ ?_
    refine dn ?_
    refine CV.cond h61 rfl (fun e h62 => ?_) (fun e h62 => ?_)
    ·
     clear h8 h61
     subst e
     refine CV.skip ?_
     exact pa6 hS h62 ⟨rfl, rfl, rfl, rfl, rfl, rfl, trivial⟩
    ·
     clear h8 h61
     subst e
     refine CV.region ?_
     refine vy (V.eq h62 rfl rfl) fun x26_36 h63 => ?_
     refine as_ ?_
     refine LV.done ?_
     exact pa6 hS h63 ⟨rfl, rfl, rfl, rfl, rfl, rfl, trivial⟩
   ·
    intro y0 y3 y4 y5 y9 y24 T3 n3 ρ its hS h11
    unfold g158_k2 at h11
    clear h8
    refine CV.cond h11 rfl (fun e h12 => ?_) (fun e h12 => ?_)
    ·
     clear h11
     subst e
     refine sr ?_
     refine mv ?_
     refine mv ?_
     refine LV.call hS h12 (g212_ok _ _ _ _ _ _ _ ) hP rfl rfl rfl rfl fun x29_8 T4 n4 h13 ρ its hS => ?_
     refine as_ ?_
     refine dn ?_
     refine CV.ret ?_
     refine PV.blockR ?_
     refine PV.thenR ?_
     cases h13
     exact PV.ret (by simp) Tryz.results158 hS (RS.tmp rfl RS.nil) rfl
    ·
     clear h11
     subst e
     refine sr ?_
     refine vy (V.eq h12 rfl rfl) fun x31_9 h14 => ?_
     refine as_ ?_
     refine dn ?_
     refine CV.cond h14 rfl (fun e h15 => ?_) (fun e h15 => ?_)
     ·
      clear h12 h14
      subst e
      refine sr ?_
      refine mv ?_
      refine vy (V.lenS h15 rfl Vdf.ls170) fun x33_10 h16 => ?_
      refine vy (V.bin0 h16 rfl rfl) fun x34_11 h17 => ?_
      refine vy (V.eq h17 rfl rfl) fun x35_12 h18 => ?_
      refine mv ?_
      refine ls5 X 0 3 4 5 40 [] (g158_k3 ro) 4 ?_ ?_
      ·
       rcases condK_inv h18 with ⟨e, h20⟩ | ⟨e, h20⟩
       ·
        clear h15 h16 h17 h18
        subst e
        refine mv ?_
        refine mv ?_
        refine LV.call hS h20 (g212_ok _ _ _ _ _ _ _ ) hP rfl rfl rfl rfl fun x39_13 T6 n6 h21 ρ its hS => ?_
        refine pu ?_
        exact la5 hS h21 ⟨rfl, rfl, rfl, rfl, rfl, trivial⟩
       ·
        clear h15 h16 h17 h18
        subst e
        refine sk ?_
        refine sk ?_
        refine sk ?_
        refine pu ?_
        exact la5 hS h20 ⟨rfl, rfl, rfl, rfl, rfl, trivial⟩
      ·
       intro y0 y3 y4 y5 y40 T5 n5 ρ its hS h19
       unfold g158_k3 at h19
       clear h15 h16 h17 h18
       refine as_ ?_
       refine dn ?_
       refine CV.ret ?_
       refine PV.blockR ?_
       refine PV.thenR ?_
       cases h19
       exact PV.ret (by simp) Tryz.results158 hS (RS.tmp rfl RS.nil) rfl
     ·
      clear h12 h14
      subst e
      refine cs6 X 0 3 4 5 9 41 [] (g158_k4 ro) ?_ ?_
      ·
       refine sr ?_
       refine vy (V.eq h15 rfl rfl) fun x42_30 h52 => ?_
       refine as_ ?_
       refine dn ?_
       refine CV.cond h52 rfl (fun e h53 => ?_) (fun e h53 => ?_)
       ·
        clear h15 h52
        subst e
        refine CV.skip ?_
        exact pa6 hS h53 ⟨rfl, rfl, rfl, rfl, rfl, rfl, trivial⟩
       ·
        clear h15 h52
        subst e
        refine sr ?_
        refine vy (V.eq h53 rfl rfl) fun x43_31 h54 => ?_
        refine as_ ?_
        refine dn ?_
        refine CV.cond h54 rfl (fun e h55 => ?_) (fun e h55 => ?_)
        ·
         clear h53 h54
         subst e
         refine CV.skip ?_
         exact pa6 hS h55 ⟨rfl, rfl, rfl, rfl, rfl, rfl, trivial⟩
        ·
         clear h53 h54
         subst e
         refine sr ?_
         refine vy (V.eq h55 rfl rfl) fun x44_32 h56 => ?_
         refine as_ ?_
         refine dn ?_
         refine CV.cond h56 rfl (fun e h57 => ?_) (fun e h57 => ?_)
         ·
          clear h55 h56
          subst e
          refine CV.skip ?_
          exact pa6 hS h57 ⟨rfl, rfl, rfl, rfl, rfl, rfl, trivial⟩
         ·
          clear h55 h56
          subst e
          refine sr ?_
          refine vy (V.eq h57 rfl rfl) fun x45_33 h58 => ?_
          refine as_ ?_
          refine dn ?_
          refine CV.cond h58 rfl (fun e h59 => ?_) (fun e h59 => ?_)
          ·
           clear h57 h58
           subst e
           refine CV.skip ?_
           exact pa6 hS h59 ⟨rfl, rfl, rfl, rfl, rfl, rfl, trivial⟩
          ·
           clear h57 h58
           subst e
           refine CV.region ?_
           refine vy (V.eq h59 rfl rfl) fun x46_34 h60 => ?_
           refine as_ ?_
           refine LV.done ?_
           exact pa6 hS h60 ⟨rfl, rfl, rfl, rfl, rfl, rfl, trivial⟩
      ·
       intro y0 y3 y4 y5 y9 y41 T7 n7 ρ its hS h22
       unfold g158_k4 at h22
       clear h15
       refine CV.cond h22 rfl (fun e h23 => ?_) (fun e h23 => ?_)
       ·
        clear h22
        subst e
        refine sr ?_
        refine mv ?_
        refine mv ?_
        refine LV.call hS h23 (g212_ok _ _ _ _ _ _ _ ) hP rfl rfl rfl rfl fun x49_14 T8 n8 h24 ρ its hS => ?_
        refine as_ ?_
        refine dn ?_
        refine CV.ret ?_
        refine PV.blockR ?_
        refine PV.thenR ?_
        cases h24
        exact PV.ret (by simp) Tryz.results158 hS (RS.tmp rfl RS.nil) rfl
       ·
        clear h22
        subst e
        refine sr ?_
        refine vy (V.eq h23 rfl rfl) fun x51_15 h25 => ?_
        refine as_ ?_
        refine dn ?_
        refine CV.cond h25 rfl (fun e h26 => ?_) (fun e h26 => ?_)
        ·
         clear h23 h25
         subst e
         cases h26
        ·
         clear h23 h25
         subst e
         refine cs6 X 0 3 4 5 9 55 [] (g158_k5 ro) ?_ ?_
         ·
          refine sr ?_
          refine vy (V.eq h26 rfl rfl) fun x56_28 h49 => ?_
          refine as_ ?_
          refine dn ?_
          refine CV.cond h49 rfl (fun e h50 => ?_) (fun e h50 => ?_)
          ·
           clear h26 h49
           subst e
           refine CV.skip ?_
           exact pa6 hS h50 ⟨rfl, rfl, rfl, rfl, rfl, rfl, trivial⟩
          ·
           clear h26 h49
           subst e
           refine CV.region ?_
           refine vy (V.eq h50 rfl rfl) fun x57_29 h51 => ?_
           refine as_ ?_
           refine LV.done ?_
           exact pa6 hS h51 ⟨rfl, rfl, rfl, rfl, rfl, rfl, trivial⟩
         ·
          intro y0 y3 y4 y5 y9 y55 T9 n9 ρ its hS h27
          unfold g158_k5 at h27
          clear h26
          refine CV.cond h27 rfl (fun e h28 => ?_) (fun e h28 => ?_)
          ·
           clear h27
           subst e
           cases h28
          ·
           clear h27
           subst e
           refine sr ?_
           refine vy (V.eq h28 rfl rfl) fun x62_16 h29 => ?_
           refine as_ ?_
           refine dn ?_
           refine CV.cond h29 rfl (fun e h30 => ?_) (fun e h30 => ?_)
           ·
            clear h28 h29
            subst e
            cases h30
           ·
            clear h28 h29
            subst e
            refine sr ?_
            refine vy (V.eq h30 rfl rfl) fun x72_17 h31 => ?_
            refine as_ ?_
            refine dn ?_
            refine CV.cond h31 rfl (fun e h32 => ?_) (fun e h32 => ?_)
            ·
             clear h30 h31
             subst e
             cases h32
            ·
             clear h30 h31
             subst e
             refine sr ?_
             refine vy (V.eq h32 rfl rfl) fun x89_18 h33 => ?_
             refine as_ ?_
             refine dn ?_
             refine CV.cond h33 rfl (fun e h34 => ?_) (fun e h34 => ?_)
             ·
              clear h32 h33
              subst e
              cases h34
             ·
              clear h32 h33
              subst e
              refine sr ?_
              refine vy (V.eq h34 rfl rfl) fun x111_19 h35 => ?_
              refine as_ ?_
              refine dn ?_
              refine CV.cond h35 rfl (fun e h36 => ?_) (fun e h36 => ?_)
              ·
               clear h34 h35
               subst e
               cases h36
              ·
               clear h34 h35
               subst e
               refine sr ?_
               refine vy (V.eq h36 rfl rfl) fun x123_20 h37 => ?_
               refine as_ ?_
               refine dn ?_
               refine CV.cond h37 rfl (fun e h38 => ?_) (fun e h38 => ?_)
               ·
                clear h36 h37
                subst e
                cases h38
               ·
                clear h36 h37
                subst e
                refine sr ?_
                refine vy (V.eq h38 rfl rfl) fun x147_21 h39 => ?_
                refine as_ ?_
                refine dn ?_
                refine CV.cond h39 rfl (fun e h40 => ?_) (fun e h40 => ?_)
                ·
                 clear h38 h39
                 subst e
                 refine sr ?_
                 refine mv ?_
                 refine vy (V.lenS h40 rfl Vdf.ls170) fun x149_22 h41 => ?_
                 refine vy (V.gt h41 rfl rfl) fun x150_23 h42 => ?_
                 refine mv ?_
                 refine ls5 X 0 3 4 5 155 [] (g158_k6 ro) 4 ?_ ?_
                 ·
                  rcases condK_inv h42 with ⟨e, h44⟩ | ⟨e, h44⟩
                  ·
                   clear h40 h41 h42
                   subst e
                   refine mv ?_
                   refine mv ?_
                   refine LV.call hS h44 (g214_ok _ _ _ _ _ _ ) hP rfl rfl rfl rfl fun x154_24 T11 n11 h45 ρ its hS => ?_
                   refine pu ?_
                   exact la5 hS h45 ⟨rfl, rfl, rfl, rfl, rfl, trivial⟩
                  ·
                   clear h40 h41 h42
                   subst e
                   refine sk ?_
                   refine sk ?_
                   refine sk ?_
                   refine pu ?_
                   exact la5 hS h44 ⟨rfl, rfl, rfl, rfl, rfl, trivial⟩
                 ·
                  intro y0 y3 y4 y5 y155 T10 n10 ρ its hS h43
                  unfold g158_k6 at h43
                  clear h40 h41 h42
                  refine as_ ?_
                  refine dn ?_
                  refine CV.ret ?_
                  refine PV.blockR ?_
                  refine PV.thenR ?_
                  cases h43
                  exact PV.ret (by simp) Tryz.results158 hS (RS.tmp rfl RS.nil) rfl
                ·
                 clear h38 h39
                 subst e
                 refine CV.skip ?_
                 refine PV.blockN ?_
                 refine PV.thenN ?_
                 refine sr ?_
                 refine mv ?_
                 refine vy (V.fa h40 rfl Vdf.fo172_0) fun x157_25 h46 => ?_
                 refine vy (V.ld hS h46 rfl Vdf.one3) fun x158_26 h47 => ?_
                 refine mv ?_
                 refine LV.call hS h47 (g223_ok _ _ _ _ _ _ ) hP rfl rfl rfl rfl fun x160_27 T12 n12 h48 ρ its hS => ?_
                 refine as_ ?_
                 refine dn ?_
                 refine CV.ret ?_
                 cases h48
                 exact PV.ret (by simp) Tryz.results158 hS (RS.tmp rfl RS.nil) rfl
noncomputable def g159_k2 (ro : List HT) (lp1 : AV → AV → AV → AV → HT → Nat → R) (y0 y2 y5 y6 y18 : AV) (T2 : HT) (n2 : Nat) : R :=
 condK 1590015 y18
 (
  .bad 1590016
 )
 (
  addK Tryz.prog 3 (.tmp 6) (.const (.int .i64 (.ofNat 1))) 1590017 y6 (.lit (.int .i64 (.ofNat 1))) fun x19_5 =>
  lp1 y0 y2 y5 x19_5 T2 n2
 )
noncomputable def g159_k3 (ro : List HT) (y2 y35 : AV) (T3 : HT) (n3 : Nat) : R :=
 .ok (.val y35) T3 n3
noncomputable def g159_k5 (ro : List HT) (y2 y34 : AV) (T5 : HT) (n5 : Nat) : R :=
 g159_k3 ro y2 y34 T5 n5
noncomputable def g159_k4 (ro : List HT) (y0 y2 y29 : AV) (T4 : HT) (n4 : Nat) : R :=
 condK 1590037 y29
 (
  lenTK 1590039 y0 fun x32_10 =>
  leK Tryz.prog 3 (.tmp 32) (.const (.int .i64 (.ofNat 600))) 1590040 x32_10 (.lit (.int .i64 (.ofNat 600))) fun x33_11 =>
  g159_k5 ro y2 x33_11 T4 n4
 )
 (
  g159_k5 ro y2 (.lit (.bool false)) T4 n4
 )
noncomputable def g159_b1 (ro : List HT) (lp1 : AV → AV → AV → AV → HT → Nat → R) (y0 y2 y5 y6 : AV) (T1 : HT) (n1 : Nat) : R :=
 ltK Tryz.prog 3 (.tmp 6) (.tmp 5) 1590006 y6 y5 fun x7_2 =>
 condK 1590007 x7_2
 (
  ixK 1590012 y0 y6 fun x11_3 =>
  ltK Tryz.prog 5 (.tmp 11) (.const (.int .u8 (.ofNat 48))) 1590013 x11_3 (.lit (.int .u8 (.ofNat 48))) fun x12_4 =>
  condK 1590019 x12_4
  (
   g159_k2 ro lp1 y0 y2 y5 y6 (.lit (.bool true)) T1 n1
  )
  (
   ixK 1590023 y0 y6 fun x16_6 =>
   gtK Tryz.prog 5 (.tmp 16) (.const (.int .u8 (.ofNat 57))) 1590024 x16_6 (.lit (.int .u8 (.ofNat 57))) fun x17_7 =>
   g159_k2 ro lp1 y0 y2 y5 y6 x17_7 T1 n1
  )
 )
 (
  eqSK Tryz.prog 9 (.tmp 20) (.const (.string ⟨⟨[48]⟩⟩)) 1590027 y0 (.lit (.string ⟨⟨[48]⟩⟩)) fun x21_8 =>
  condK 1590030 x21_8
  (
   g159_k3 ro y2 (.lit (.bool true)) T1 n1
  )
  (
   neSK Tryz.prog 9 (.tmp 23) (.const (.string ⟨⟨[]⟩⟩)) 1590033 y0 (.lit (.string ⟨⟨[]⟩⟩)) fun x24_9 =>
   condK 1590043 x24_9
   (
    ixK 1590045 y0 (.lit (.int .i64 (.ofNat 0))) fun x27_12 =>
    neK Tryz.prog 5 (.tmp 27) (.const (.int .u8 (.ofNat 48))) 1590046 x27_12 (.lit (.int .u8 (.ofNat 48))) fun x28_13 =>
    g159_k4 ro y0 y2 x28_13 T1 n1
   )
   (
    g159_k4 ro y0 y2 (.lit (.bool false)) T1 n1
   )
  )
 )
noncomputable def g159 (ro : List HT) (a0 : AV) (T : HT) (nx : Nat) : R :=
 lenTK 1590003 a0 fun x5_1 =>
 lpf4 1590005 (g159_b1 ro) 100000 a0 (.lit (.bool false)) x5_1 (.lit (.int .i64 (.ofNat 0))) T nx
theorem g159_ok (ro : List HT) (a0 : AV) (T : HT) (nx : Nat) : GOk Tryz.prog envE 159 [a0] ro T nx (g159 ro a0 T nx) := by
 refine GOk.of_body Tryz.func159 rfl Tryz.ntmps159 (by kernel_rfl) rfl fun r T' n' h1 w0 base ρ0 its hS hP => ?_
 have X : CtxW envE ρ0 ro r T' n' := trivial
 unfold g159 at h1
 refine sr ?_
 refine as_ ?_
 refine dn ?_
 refine CV.seq ?_
 refine sr ?_
 refine mv ?_
 refine vy (V.lenT h1 rfl Vdf.ls9) fun x5_1 h2 => ?_
 refine mv ?_
 refine dn ?_
 refine CV.block ?_
 refine cl4 X 0 2 5 6 [] hS h2 ⟨rfl, rfl, rfl, rfl, trivial⟩ ?_
 intro f1 y0 y2 y5 y6 T1 n1 ρ its hS h3
 unfold g159_b1 at h3
 clear h1 h2
 refine sr ?_
 refine vy (V.lt h3 rfl rfl) fun x7_2 h4 => ?_
 refine dn ?_
 refine CV.seq ?_
 refine CV.cond h4 rfl (fun e h5 => ?_) (fun e h5 => ?_)
 ·
  clear h3 h4
  subst e
  refine CV.skip ?_
  refine PV.thenN ?_
  refine CV.seq ?_
  refine CV.block ?_
  refine sr ?_
  refine mv ?_
  refine as_ ?_
  refine dn ?_
  refine sr ?_
  refine mv ?_
  refine mv ?_
  refine vy (V.ix h5 rfl rfl Vdf.st9) fun x11_3 h6 => ?_
  refine vy (V.lt h6 rfl rfl) fun x12_4 h7 => ?_
  refine mv ?_
  refine ls5 X 0 2 5 6 18 [] (g159_k2 ro (lpf4 1590005 (g159_b1 ro) f1)) 5 ?_ ?_
  ·
   rcases condK_inv h7 with ⟨e, h11⟩ | ⟨e, h11⟩
   ·
    clear h5 h6 h7
    subst e
    refine sk ?_
    refine sk ?_
    refine sk ?_
    refine sk ?_
    refine pu ?_
    exact la5 hS h11 ⟨rfl, rfl, rfl, rfl, rfl, trivial⟩
   ·
    clear h5 h6 h7
    subst e
    refine mv ?_
    refine mv ?_
    refine vy (V.ix h11 rfl rfl Vdf.st9) fun x16_6 h12 => ?_
    refine vy (V.gt h12 rfl rfl) fun x17_7 h13 => ?_
    refine pu ?_
    exact la5 hS h13 ⟨rfl, rfl, rfl, rfl, rfl, trivial⟩
  ·
   intro y0 y2 y5 y6 y18 T2 n2 ρ its hS h8
   unfold g159_k2 at h8
   clear h5 h6 h7
   refine dn ?_
   refine CV.cond h8 rfl (fun e h9 => ?_) (fun e h9 => ?_)
   ·
    clear h8
    subst e
    cases h9
   ·
    clear h8
    subst e
    refine CV.skip ?_
    refine PV.blockN ?_
    refine PV.thenN ?_
    refine CV.region ?_
    refine vy (V.add h9 rfl rfl) fun x19_5 h10 => ?_
    refine mv ?_
    refine LV.done ?_
    exact pb4 hS h10 ⟨rfl, rfl, rfl, rfl, trivial⟩
 ·
  clear h3 h4
  subst e
  refine CV.exit ?_
  refine PV.thenE ?_
  refine PV.thenE ?_
  refine PV.blockE ?_
  refine PV.thenN ?_
  refine sr ?_
  refine mv ?_
  refine vy (V.eqS h5 rfl rfl) fun x21_8 h14 => ?_
  refine mv ?_
  refine ls2 X 2 35 [] (g159_k3 ro) 13 ?_ ?_
  ·
   rcases condK_inv h14 with ⟨e, h16⟩ | ⟨e, h16⟩
   ·
    clear h5 h14
    subst e
    refine sk ?_
    refine sk ?_
    refine sk ?_
    refine sk ?_
    refine sk ?_
    refine sk ?_
    refine sk ?_
    refine sk ?_
    refine sk ?_
    refine sk ?_
    refine sk ?_
    refine sk ?_
    refine pu ?_
    exact la2 hS h16 ⟨rfl, rfl, trivial⟩
   ·
    clear h5 h14
    subst e
    refine mv ?_
    refine vy (V.neS h16 rfl rfl) fun x24_9 h17 => ?_
    refine mv ?_
    refine ls3 X 0 2 29 [(22, (.lit (.bool false)))] (g159_k4 ro) 4 ?_ ?_
    ·
     rcases condK_inv h17 with ⟨e, h23⟩ | ⟨e, h23⟩
     ·
      clear h16 h17
      subst e
      refine mv ?_
      refine vy (V.ix h23 rfl rfl Vdf.st9) fun x27_12 h24 => ?_
      refine vy (V.ne h24 rfl rfl) fun x28_13 h25 => ?_
      refine pu ?_
      exact la3 hS h25 ⟨rfl, rfl, rfl, rfl, trivial⟩
     ·
      clear h16 h17
      subst e
      refine sk ?_
      refine sk ?_
      refine sk ?_
      refine pu ?_
      exact la3 hS h23 ⟨rfl, rfl, rfl, rfl, trivial⟩
    ·
     intro y0 y2 y29 T4 n4 ρ its hS h18
     unfold g159_k4 at h18
     clear h16 h17
     refine mv ?_
     refine ls2 X 2 34 [(22, (.lit (.bool false)))] (g159_k5 ro) 4 ?_ ?_
     ·
      rcases condK_inv h18 with ⟨e, h20⟩ | ⟨e, h20⟩
      ·
       clear h18
       subst e
       refine mv ?_
       refine vy (V.lenT h20 rfl Vdf.ls9) fun x32_10 h21 => ?_
       refine vy (V.le h21 rfl rfl) fun x33_11 h22 => ?_
       refine pu ?_
       exact la2 hS h22 ⟨rfl, rfl, rfl, trivial⟩
      ·
       clear h18
       subst e
       refine sk ?_
       refine sk ?_
       refine sk ?_
       refine pu ?_
       exact la2 hS h20 ⟨rfl, rfl, rfl, trivial⟩
     ·
      intro y2 y34 T5 n5 ρ its hS h19
      unfold g159_k5 at h19
      clear h18
      refine pu ?_
      exact la2 hS h19 ⟨rfl, rfl, trivial⟩
  ·
   intro y2 y35 T3 n3 ρ its hS h15
   unfold g159_k3 at h15
   clear h5 h14
   refine as_ ?_
   refine dn ?_
   refine CV.ret ?_
   cases h15
   exact PV.ret (by simp) Tryz.results159 hS (RS.tmp rfl RS.nil) rfl
noncomputable def g118_k2 (ro : List HT) (y0 y3 y4 y30 : AV) (T4 : HT) (n4 : Nat) : R :=
 .ok (.val y30) T4 n4
noncomputable def g118_k4 (ro : List HT) (y4 y44 : AV) (T8 : HT) (n8 : Nat) : R :=
 .ok (.val y44) T8 n8
noncomputable def g118_k3 (ro : List HT) (y0 y3 y4 y31 : AV) (T6 : HT) (n6 : Nat) : R :=
 condK 1180021 y31
 (
  ldAK 1180023 T6 ro y3 5 fun x35_10 =>
  callK (g158 ro y0 x35_10 T6 n6) fun x36_11 T7 n7 =>
  .ok (.val x36_11) T7 n7
 )
 (
  faK 1180026 y3 3 fun x37_12 =>
  ldK 1180027 T6 ro x37_12 fun x38_13 =>
  eqSK Tryz.prog 9 (.tmp 38) (.const (.string ⟨⟨[]⟩⟩)) 1180028 x38_13 (.lit (.string ⟨⟨[]⟩⟩)) fun x39_14 =>
  condK 1180031 x39_14
  (
   ldAK 1180033 T6 ro y3 5 fun x42_15 =>
   callK (g158 ro y0 x42_15 T6 n6) fun x43_16 T9 n9 =>
   g118_k4 ro y4 x43_16 T9 n9
  )
  (
   g118_k4 ro y4 (.lit (.bool false)) T6 n6
  )
 )
noncomputable def g118_k1 (ro : List HT) (y0 y3 y4 y6 y7 : AV) (T2 : HT) (n2 : Nat) : R :=
 condK 1180005 y7
 (
  .bad 1180006
 )
 (
  eqK Tryz.prog 3 (.tmp 6) (.const (.int .i64 (.ofNat 4))) 1180007 y6 (.lit (.int .i64 (.ofNat 4))) fun x22_4 =>
  condK 1180009 x22_4
  (
   faK 1180010 y3 3 fun x23_5 =>
   ldK 1180011 T2 ro x23_5 fun x24_6 =>
   callK (g159 ro x24_6 T2 n2) fun x25_7 T3 n3 =>
   condK 1180015 x25_7
   (
    ldAK 1180017 T3 ro y3 5 fun x28_8 =>
    callK (g158 ro y0 x28_8 T3 n3) fun x29_9 T5 n5 =>
    g118_k2 ro y0 y3 y4 x29_9 T5 n5
   )
   (
    g118_k2 ro y0 y3 y4 (.lit (.bool false)) T3 n3
   )
  )
  (
   eqK Tryz.prog 3 (.tmp 6) (.const (.int .i64 (.ofNat 5))) 1180037 y6 (.lit (.int .i64 (.ofNat 5))) fun x32_17 =>
   condK 1180039 x32_17
   (
    g118_k3 ro y0 y3 y4 (.lit (.bool true)) T2 n2
   )
   (
    eqK Tryz.prog 3 (.tmp 6) (.const (.int .i64 (.ofNat 42))) 1180040 y6 (.lit (.int .i64 (.ofNat 42))) fun x33_18 =>
    g118_k3 ro y0 y3 y4 x33_18 T2 n2
   )
  )
 )
noncomputable def g118 (ro : List HT) (a0 a1 : AV) (T : HT) (nx : Nat) : R :=
 boxK 1180001 T nx a1 172 fun x3_1 T1 n1 =>
 faK 1180003 x3_1 0 fun x5_2 =>
 ldK 1180004 T1 ro x5_2 fun x6_3 =>
 eqK Tryz.prog 3 (.tmp 6) (.const (.int .i64 (.ofNat 6))) 1180042 x6_3 (.lit (.int .i64 (.ofNat 6))) fun x8_19 =>
 condK 1180044 x8_19
 (
  g118_k1 ro a0 x3_1 (.lit (.bool false)) x6_3 (.lit (.bool true)) T1 n1
 )
 (
  eqK Tryz.prog 3 (.tmp 6) (.const (.int .i64 (.ofNat 11))) 1180045 x6_3 (.lit (.int .i64 (.ofNat 11))) fun x9_20 =>
  condK 1180047 x9_20
  (
   g118_k1 ro a0 x3_1 (.lit (.bool false)) x6_3 (.lit (.bool true)) T1 n1
  )
  (
   eqK Tryz.prog 3 (.tmp 6) (.const (.int .i64 (.ofNat 12))) 1180048 x6_3 (.lit (.int .i64 (.ofNat 12))) fun x10_21 =>
   condK 1180050 x10_21
   (
    g118_k1 ro a0 x3_1 (.lit (.bool false)) x6_3 (.lit (.bool true)) T1 n1
   )
   (
    eqK Tryz.prog 3 (.tmp 6) (.const (.int .i64 (.ofNat 45))) 1180051 x6_3 (.lit (.int .i64 (.ofNat 45))) fun x11_22 =>
    condK 1180053 x11_22
    (
     g118_k1 ro a0 x3_1 (.lit (.bool false)) x6_3 (.lit (.bool true)) T1 n1
    )
    (
     eqK Tryz.prog 3 (.tmp 6) (.const (.int .i64 (.ofNat 46))) 1180054 x6_3 (.lit (.int .i64 (.ofNat 46))) fun x12_23 =>
     g118_k1 ro a0 x3_1 (.lit (.bool false)) x6_3 x12_23 T1 n1
    )
   )
  )
 )
theorem g118_ok (ro : List HT) (a0 a1 : AV) (T : HT) (nx : Nat) : GOk Tryz.prog envE 118 [a0, a1] ro T nx (g118 ro a0 a1 T nx) := by
 refine GOk.of_body Tryz.func118 rfl Tryz.ntmps118 (by kernel_rfl) rfl fun r T' n' h1 w0 base ρ0 its hS hP => ?_
 have X : CtxW envE ρ0 ro r T' n' := trivial
 unfold g118 at h1
 refine sr ?_
 refine LV.box hS h1 rfl rfl rfl rfl rfl fun x3_1 T1 n1 h2 ρ its hS hdr => ?_
 refine as_ ?_
 refine dn ?_
 refine CV.seq ?_
 refine sr ?_
 refine vy (V.fa h2 rfl Vdf.fo172_0) fun x5_2 h3 => ?_
 refine vy (V.ld hS h3 rfl Vdf.one3) fun x6_3 h4 => ?_
 refine dn ?_
 refine CV.block ?_
 refine cs5 X 0 3 4 6 7 [] (g118_k1 ro) ?_ ?_
 ·
  refine sr ?_
  refine vy (V.eq h4 rfl rfl) fun x8_19 h30 => ?_
  refine as_ ?_
  refine dn ?_
  refine CV.cond h30 rfl (fun e h31 => ?_) (fun e h31 => ?_)
  ·
   clear h1 h2 h3 h4 h30
   subst e
   refine CV.skip ?_
   exact pa5 hS h31 ⟨rfl, rfl, rfl, rfl, rfl, trivial⟩
  ·
   clear h1 h2 h3 h4 h30
   subst e
   refine sr ?_
   refine vy (V.eq h31 rfl rfl) fun x9_20 h32 => ?_
   refine as_ ?_
   refine dn ?_
   refine CV.cond h32 rfl (fun e h33 => ?_) (fun e h33 => ?_)
   ·
    clear h31 h32
    subst e
    refine CV.skip ?_
    exact pa5 hS h33 ⟨rfl, rfl, rfl, rfl, rfl, trivial⟩
   ·
    clear h31 h32
    subst e
    refine sr ?_
    refine vy (V.eq h33 rfl rfl) fun x10_21 h34 => ?_
    refine as_ ?_
    refine dn ?_
    refine CV.cond h34 rfl (fun e h35 => ?_) (fun e h35 => ?_)
    ·
     clear h33 h34
     subst e
     refine CV.skip ?_
     exact pa5 hS h35 ⟨rfl, rfl, rfl, rfl, rfl, trivial⟩
    ·
     clear h33 h34
     subst e
     refine sr ?_
     refine vy (V.eq h35 rfl rfl) fun x11_22 h36 => ?_
     refine as_ ?_
     refine dn ?_
     refine CV.cond h36 rfl (fun e h37 => ?_) (fun e h37 => ?_)
     ·
      clear h35 h36
      subst e
      refine CV.skip ?_
      exact pa5 hS h37 ⟨rfl, rfl, rfl, rfl, rfl, trivial⟩
     ·
      clear h35 h36
      subst e
      refine CV.region ?_
      refine vy (V.eq h37 rfl rfl) fun x12_23 h38 => ?_
      refine as_ ?_
      refine LV.done ?_
      exact pa5 hS h38 ⟨rfl, rfl, rfl, rfl, rfl, trivial⟩
 ·
  intro y0 y3 y4 y6 y7 T2 n2 ρ its hS h5
  unfold g118_k1 at h5
  clear h1 h2 h3 h4
  refine CV.cond h5 rfl (fun e h6 => ?_) (fun e h6 => ?_)
  ·
   clear h5
   subst e
   cases h6
  ·
   clear h5
   subst e
   refine sr ?_
   refine vy (V.eq h6 rfl rfl) fun x22_4 h7 => ?_
   refine as_ ?_
   refine dn ?_
   refine CV.cond h7 rfl (fun e h8 => ?_) (fun e h8 => ?_)
   ·
    clear h6 h7
    subst e
    refine sr ?_
    refine vy (V.fa h8 rfl Vdf.fo172_3) fun x23_5 h9 => ?_
    refine vy (V.ld hS h9 rfl Vdf.one9) fun x24_6 h10 => ?_
    refine LV.call hS h10 (g159_ok _ _ _ _ ) hP rfl rfl rfl rfl fun x25_7 T3 n3 h11 ρ its hS => ?_
    refine mv ?_
    refine ls4 X 0 3 4 30 [] (g118_k2 ro) 4 ?_ ?_
    ·
     rcases condK_inv h11 with ⟨e, h13⟩ | ⟨e, h13⟩
     ·
      clear h8 h9 h10 h11
      subst e
      refine mv ?_
      refine vy (V.ldA hS h13 rfl Vdf.agg172) fun x28_8 h14 => ?_
      refine LV.call hS h14 (g158_ok _ _ _ _ _ ) hP rfl rfl rfl rfl fun x29_9 T5 n5 h15 ρ its hS => ?_
      refine pu ?_
      exact la4 hS h15 ⟨rfl, rfl, rfl, rfl, trivial⟩
     ·
      clear h8 h9 h10 h11
      subst e
      refine sk ?_
      refine sk ?_
      refine sk ?_
      refine pu ?_
      exact la4 hS h13 ⟨rfl, rfl, rfl, rfl, trivial⟩
    ·
     intro y0 y3 y4 y30 T4 n4 ρ its hS h12
     unfold g118_k2 at h12
     clear h8 h9 h10 h11
     refine as_ ?_
     refine dn ?_
     refine CV.ret ?_
     refine PV.blockR ?_
     refine PV.thenR ?_
     cases h12
     exact PV.ret (by simp) Tryz.results118 hS (RS.tmp rfl RS.nil) rfl
   ·
    clear h6 h7
    subst e
    refine cs4 X 0 3 4 31 [] (g118_k3 ro) ?_ ?_
    ·
     refine sr ?_
     refine vy (V.eq h8 rfl rfl) fun x32_17 h27 => ?_
     refine as_ ?_
     refine dn ?_
     refine CV.cond h27 rfl (fun e h28 => ?_) (fun e h28 => ?_)
     ·
      clear h8 h27
      subst e
      refine CV.skip ?_
      exact pa4 hS h28 ⟨rfl, rfl, rfl, rfl, trivial⟩
     ·
      clear h8 h27
      subst e
      refine CV.region ?_
      refine vy (V.eq h28 rfl rfl) fun x33_18 h29 => ?_
      refine as_ ?_
      refine LV.done ?_
      exact pa4 hS h29 ⟨rfl, rfl, rfl, rfl, trivial⟩
    ·
     intro y0 y3 y4 y31 T6 n6 ρ its hS h16
     unfold g118_k3 at h16
     clear h8
     refine CV.cond h16 rfl (fun e h17 => ?_) (fun e h17 => ?_)
     ·
      clear h16
      subst e
      refine sr ?_
      refine mv ?_
      refine vy (V.ldA hS h17 rfl Vdf.agg172) fun x35_10 h18 => ?_
      refine LV.call hS h18 (g158_ok _ _ _ _ _ ) hP rfl rfl rfl rfl fun x36_11 T7 n7 h19 ρ its hS => ?_
      refine as_ ?_
      refine dn ?_
      refine CV.ret ?_
      refine PV.blockR ?_
      refine PV.thenR ?_
      cases h19
      exact PV.ret (by simp) Tryz.results118 hS (RS.tmp rfl RS.nil) rfl
     ·
      clear h16
      subst e
      refine CV.skip ?_
      refine PV.blockN ?_
      refine PV.thenN ?_
      refine sr ?_
      refine vy (V.fa h17 rfl Vdf.fo172_3) fun x37_12 h20 => ?_
      refine vy (V.ld hS h20 rfl Vdf.one9) fun x38_13 h21 => ?_
      refine vy (V.eqS h21 rfl rfl) fun x39_14 h22 => ?_
      refine mv ?_
      refine ls2 X 4 44 [] (g118_k4 ro) 4 ?_ ?_
      ·
       rcases condK_inv h22 with ⟨e, h24⟩ | ⟨e, h24⟩
       ·
        clear h17 h20 h21 h22
        subst e
        refine mv ?_
        refine vy (V.ldA hS h24 rfl Vdf.agg172) fun x42_15 h25 => ?_
        refine LV.call hS h25 (g158_ok _ _ _ _ _ ) hP rfl rfl rfl rfl fun x43_16 T9 n9 h26 ρ its hS => ?_
        refine pu ?_
        exact la2 hS h26 ⟨rfl, rfl, trivial⟩
       ·
        clear h17 h20 h21 h22
        subst e
        refine sk ?_
        refine sk ?_
        refine sk ?_
        refine pu ?_
        exact la2 hS h24 ⟨rfl, rfl, trivial⟩
      ·
       intro y4 y44 T8 n8 ρ its hS h23
       unfold g118_k4 at h23
       clear h17 h20 h21 h22
       refine as_ ?_
       refine dn ?_
       refine CV.ret ?_
       cases h23
       exact PV.ret (by simp) Tryz.results118 hS (RS.tmp rfl RS.nil) rfl
noncomputable def g160_b1 (ro : List HT) (lp1 : AV → AV → AV → AV → AV → HT → Nat → R) (y0 y1 y4 y7 y8 : AV) (T1 : HT) (n1 : Nat) : R :=
 ltK Tryz.prog 3 (.tmp 8) (.tmp 7) 1600006 y8 y7 fun x9_2 =>
 condK 1600007 x9_2
 (
  iaK 1600013 y0 y8 1 fun x14_3 =>
  ldK 1600014 T1 ro x14_3 fun x15_4 =>
  bin0 Tryz.prog .eql 4 (.tmp 11) (.tmp 15) 1600015 y1 x15_4 fun x16_5 =>
  condK 1600016 x16_5
  (
   .ok (.val y8) T1 n1
  )
  (
   addK Tryz.prog 3 (.tmp 8) (.const (.int .i64 (.ofNat 1))) 1600019 y8 (.lit (.int .i64 (.ofNat 1))) fun x18_6 =>
   lp1 y0 y1 y4 y7 x18_6 T1 n1
  )
 )
 (
  .ok (.val (.lit (.int .i64 (.negSucc 0)))) T1 n1
 )
noncomputable def g160 (ro : List HT) (a0 a1 : AV) (T : HT) (nx : Nat) : R :=
 lenSK 1600003 a0 fun x7_1 =>
 lpf5 1600005 (g160_b1 ro) 100000 a0 a1 (.lit (.int .i64 (.ofNat 0))) x7_1 (.lit (.int .i64 (.ofNat 0))) T nx
theorem g160_ok (ro : List HT) (a0 a1 : AV) (T : HT) (nx : Nat) : GOk Tryz.prog envE 160 [a0, a1] ro T nx (g160 ro a0 a1 T nx) := by
 refine GOk.of_body Tryz.func160 rfl Tryz.ntmps160 (by kernel_rfl) rfl fun r T' n' h1 w0 base ρ0 its hS hP => ?_
 have X : CtxW envE ρ0 ro r T' n' := trivial
 unfold g160 at h1
 refine sr ?_
 refine as_ ?_
 refine dn ?_
 refine CV.seq ?_
 refine sr ?_
 refine mv ?_
 refine vy (V.lenS h1 rfl Vdf.ls235) fun x7_1 h2 => ?_
 refine mv ?_
 refine dn ?_
 refine CV.block ?_
 refine cl5 X 0 1 4 7 8 [] hS h2 ⟨rfl, rfl, rfl, rfl, rfl, trivial⟩ ?_
 intro f1 y0 y1 y4 y7 y8 T1 n1 ρ its hS h3
 unfold g160_b1 at h3
 clear h1 h2
 refine sr ?_
 refine vy (V.lt h3 rfl rfl) fun x9_2 h4 => ?_
 refine dn ?_
 refine CV.seq ?_
 refine CV.cond h4 rfl (fun e h5 => ?_) (fun e h5 => ?_)
 ·
  clear h3 h4
  subst e
  refine CV.skip ?_
  refine PV.thenN ?_
  refine CV.seq ?_
  refine CV.block ?_
  refine sr ?_
  refine mv ?_
  refine as_ ?_
  refine dn ?_
  refine sr ?_
  refine mv ?_
  refine mv ?_
  refine mv ?_
  refine vy (V.ia h5 rfl rfl Vdf.el235) fun x14_3 h6 => ?_
  refine vy (V.ld hS h6 rfl Vdf.one4) fun x15_4 h7 => ?_
  refine vy (V.bin0 h7 rfl rfl) fun x16_5 h8 => ?_
  refine dn ?_
  refine CV.cond h8 rfl (fun e h9 => ?_) (fun e h9 => ?_)
  ·
   clear h5 h6 h7 h8
   subst e
   refine sr ?_
   refine mv ?_
   refine as_ ?_
   refine dn ?_
   refine CV.ret ?_
   refine PV.blockR ?_
   refine PV.thenR ?_
   refine PV.thenR ?_
   refine PV.blockR ?_
   refine PV.thenR ?_
   cases h9
   exact PV.ret (by simp) Tryz.results160 hS (RS.tmp rfl RS.nil) rfl
  ·
   clear h5 h6 h7 h8
   subst e
   refine CV.skip ?_
   refine PV.blockN ?_
   refine PV.thenN ?_
   refine CV.region ?_
   refine vy (V.add h9 rfl rfl) fun x18_6 h10 => ?_
   refine mv ?_
   refine LV.done ?_
   exact pb5 hS h10 ⟨rfl, rfl, rfl, rfl, rfl, trivial⟩
 ·
  clear h3 h4
  subst e
  refine CV.exit ?_
  refine PV.thenE ?_
  refine PV.thenE ?_
  refine PV.blockE ?_
  refine PV.thenN ?_
  refine sr ?_
  refine as_ ?_
  refine dn ?_
  refine CV.ret ?_
  cases h5
  exact PV.ret (by simp) Tryz.results160 hS (RS.tmp rfl RS.nil) rfl
noncomputable def g119 (ro : List HT) (a0 a1 : AV) (T : HT) (nx : Nat) : R :=
 callK (g160 ro a0 a1 T nx) fun x7_1 T1 n1 =>
 geK Tryz.prog 3 (.tmp 7) (.const (.int .i64 (.ofNat 0))) 1190005 x7_1 (.lit (.int .i64 (.ofNat 0))) fun x8_2 =>
 .ok (.val x8_2) T1 n1
theorem g119_ok (ro : List HT) (a0 a1 : AV) (T : HT) (nx : Nat) : GOk Tryz.prog envE 119 [a0, a1] ro T nx (g119 ro a0 a1 T nx) := by
 refine GOk.of_body Tryz.func119 rfl Tryz.ntmps119 (by kernel_rfl) rfl fun r T' n' h1 w0 base ρ0 its hS hP => ?_
 have X : CtxW envE ρ0 ro r T' n' := trivial
 unfold g119 at h1
 refine sr ?_
 refine as_ ?_
 refine dn ?_
 refine sr ?_
 refine mv ?_
 refine mv ?_
 refine LV.call hS h1 (g160_ok _ _ _ _ _ ) hP rfl rfl rfl rfl fun x7_1 T1 n1 h2 ρ its hS => ?_
 refine vy (V.ge h2 rfl rfl) fun x8_2 h3 => ?_
 refine as_ ?_
 refine dn ?_
 refine CV.ret ?_
 cases h3
 exact PV.ret (by simp) Tryz.results119 hS (RS.tmp rfl RS.nil) rfl
noncomputable def g120_k1 (ih : FuncId → List HT → List AV → HT → Nat → R) (ro : List HT) (y10 : AV) (T3 : HT) (n3 : Nat) : R :=
 .ok (.val (.lit (.bool true))) T3 n3
noncomputable def g120_k6 (ih : FuncId → List HT → List AV → HT → Nat → R) (ro : List HT) (lp4 : AV → AV → AV → AV → AV → AV → AV → AV → AV → AV → HT → Nat → R) (y0 y1 y2 y3 y4 y10 y11 y39 y40 y41 y56 y57 y58 y59 y65 : AV) (T8 : HT) (n8 : Nat) : R :=
 callK (ih 120 ro [y56, y57, y58, y59, y65] T8 n8) fun x66_15 T9 n9 =>
 notK 1200043 x66_15 fun x67_16 =>
 condK 1200044 x67_16
 (
  .bad 1200045
 )
 (
  addK Tryz.prog 3 (.tmp 41) (.const (.int .i64 (.ofNat 1))) 1200046 y41 (.lit (.int .i64 (.ofNat 1))) fun x68_17 =>
  lp4 y0 y1 y2 y3 y4 y10 y11 y39 y40 x68_17 T9 n9
 )
noncomputable def g120_k5 (ih : FuncId → List HT → List AV → HT → Nat → R) (ro : List HT) (lp4 : AV → AV → AV → AV → AV → AV → AV → AV → AV → AV → HT → Nat → R) (y0 y1 y2 y3 y4 y10 y11 y13 y39 y40 y41 y55 : AV) (T7 : HT) (n7 : Nat) : R :=
 condK 1200048 y4
 (
  g120_k6 ih ro lp4 y0 y1 y2 y3 (.lit (.bool true)) y10 y11 y39 y40 y41 y0 y13 y55 y3 (.lit (.bool true)) T7 n7
 )
 (
  faK 1200050 y11 0 fun x62_18 =>
  ldK 1200051 T7 ro x62_18 fun x63_19 =>
  eqK Tryz.prog 3 (.tmp 63) (.const (.int .i64 (.ofNat 44))) 1200052 x63_19 (.lit (.int .i64 (.ofNat 44))) fun x64_20 =>
  g120_k6 ih ro lp4 y0 y1 y2 y3 (.lit (.bool false)) y10 y11 y39 y40 y41 y0 y13 y55 y3 x64_20 T7 n7
 )
noncomputable def g120_b4 (ih : FuncId → List HT → List AV → HT → Nat → R) (ro : List HT) (lp4 : AV → AV → AV → AV → AV → AV → AV → AV → AV → AV → HT → Nat → R) (y0 y1 y2 y3 y4 y10 y11 y39 y40 y41 : AV) (T6 : HT) (n6 : Nat) : R :=
 ltK Tryz.prog 3 (.tmp 41) (.tmp 40) 1200028 y41 y40 fun x42_12 =>
 condK 1200029 x42_12
 (
  iaK 1200030 y39 y41 1 fun x43_13 =>
  ldK 1200031 T6 ro x43_13 fun x44_14 =>
  condK 1200054 y2
  (
   ncK 1200057 y0 fun x49_21 =>
   faK 1200058 x49_21 0 fun x50_22 =>
   ldK 1200059 T6 ro x50_22 fun x51_23 =>
   lenSK 1200060 x51_23 fun x52_24 =>
   subK Tryz.prog 3 (.tmp 52) (.const (.int .i64 (.ofNat 1))) 1200061 x52_24 (.lit (.int .i64 (.ofNat 1))) fun x53_25 =>
   eqK Tryz.prog 3 (.tmp 47) (.tmp 53) 1200062 y1 x53_25 fun x54_26 =>
   g120_k5 ih ro lp4 y0 y1 (.lit (.bool true)) y3 y4 y10 y11 x44_14 y39 y40 y41 x54_26 T6 n6
  )
  (
   g120_k5 ih ro lp4 y0 y1 (.lit (.bool false)) y3 y4 y10 y11 x44_14 y39 y40 y41 (.lit (.bool false)) T6 n6
  )
 )
 (
  g120_k1 ih ro y10 T6 n6
 )
noncomputable def g120_k3 (ih : FuncId → List HT → List AV → HT → Nat → R) (ro : List HT) (y0 y1 y2 y3 y4 y10 y11 y23 y34 : AV) (T5 : HT) (n5 : Nat) : R :=
 condK 1200022 y34
 (
  faK 1200023 y11 4 fun x38_9 =>
  ldK 1200024 T5 ro x38_9 fun x39_10 =>
  lenSK 1200025 x39_10 fun x40_11 =>
  lpf10 1200027 (g120_b4 ih ro) 100000 y0 y1 y2 y3 y4 y10 y11 x39_10 x40_11 (.lit (.int .i64 (.ofNat 0))) T5 n5
 )
 (
  eqK Tryz.prog 3 (.tmp 23) (.const (.int .i64 (.ofNat 45))) 1200065 y23 (.lit (.int .i64 (.ofNat 45))) fun x70_27 =>
  condK 1200067 x70_27
  (
   .bad 1200068
  )
  (
   g120_k1 ih ro y10 T5 n5
  )
 )
noncomputable def g120_k2 (ih : FuncId → List HT → List AV → HT → Nat → R) (ro : List HT) (y0 y1 y2 y3 y4 y10 y11 y23 y24 : AV) (T4 : HT) (n4 : Nat) : R :=
 condK 1200012 y24
 (
  .bad 1200013
 )
 (
  eqK Tryz.prog 3 (.tmp 23) (.const (.int .i64 (.ofNat 41))) 1200014 y23 (.lit (.int .i64 (.ofNat 41))) fun x29_7 =>
  condK 1200016 x29_7
  (
   .bad 1200017
  )
  (
   eqK Tryz.prog 3 (.tmp 23) (.const (.int .i64 (.ofNat 42))) 1200018 y23 (.lit (.int .i64 (.ofNat 42))) fun x32_8 =>
   condK 1200020 x32_8
   (
    .bad 1200021
   )
   (
    eqK Tryz.prog 3 (.tmp 23) (.const (.int .i64 (.ofNat 47))) 1200069 y23 (.lit (.int .i64 (.ofNat 47))) fun x35_28 =>
    condK 1200071 x35_28
    (
     g120_k3 ih ro y0 y1 y2 y3 y4 y10 y11 y23 (.lit (.bool true)) T4 n4
    )
    (
     eqK Tryz.prog 3 (.tmp 23) (.const (.int .i64 (.ofNat 43))) 1200072 y23 (.lit (.int .i64 (.ofNat 43))) fun x36_29 =>
     condK 1200074 x36_29
     (
      g120_k3 ih ro y0 y1 y2 y3 y4 y10 y11 y23 (.lit (.bool true)) T4 n4
     )
     (
      eqK Tryz.prog 3 (.tmp 23) (.const (.int .i64 (.ofNat 44))) 1200075 y23 (.lit (.int .i64 (.ofNat 44))) fun x37_30 =>
      g120_k3 ih ro y0 y1 y2 y3 y4 y10 y11 y23 x37_30 T4 n4
     )
    )
   )
  )
 )
noncomputable def g120 (ih : FuncId → List HT → List AV → HT → Nat → R) (ro : List HT) (a0 a1 a2 a3 a4 : AV) (T : HT) (nx : Nat) : R :=
 fldK 1200003 T ro a0 0 fun x18_1 =>
 iaK 1200005 x18_1 a1 5 fun x20_2 =>
 ldAK 1200006 T ro x20_2 5 fun x21_3 =>
 newK T nx (.obj [.lit (.int .i64 0), .lit (.int .i64 0), .lit (.int .i64 0), .lit (.string ⟨#[]⟩), .lit (.slice none 0 0)] 172) fun x11_4 T1 n1 =>
 stAK 1200008 T1 x11_4 x21_3 5 fun T2 =>
 faK 1200010 x11_4 0 fun x22_5 =>
 ldK 1200011 T2 ro x22_5 fun x23_6 =>
 eqK Tryz.prog 3 (.tmp 23) (.const (.int .i64 (.ofNat 39))) 1200077 x23_6 (.lit (.int .i64 (.ofNat 39))) fun x25_31 =>
 condK 1200079 x25_31
 (
  g120_k2 ih ro a0 a1 a2 a3 a4 (.lit (.bool false)) x11_4 x23_6 (.lit (.bool true)) T2 n1
 )
 (
  eqK Tryz.prog 3 (.tmp 23) (.const (.int .i64 (.ofNat 40))) 1200080 x23_6 (.lit (.int .i64 (.ofNat 40))) fun x26_32 =>
  g120_k2 ih ro a0 a1 a2 a3 a4 (.lit (.bool false)) x11_4 x23_6 x26_32 T2 n1
 )
theorem g120_ok (ih : FuncId → List HT → List AV → HT → Nat → R) (hI : ∀ f ro args T nx, GOk Tryz.prog envE f args ro T nx (ih f ro args T nx)) (ro : List HT) (a0 a1 a2 a3 a4 : AV) (T : HT) (nx : Nat) : GOk Tryz.prog envE 120 [a0, a1, a2, a3, a4] ro T nx (g120 ih ro a0 a1 a2 a3 a4 T nx) := by
 refine GOk.of_body Tryz.func120 rfl Tryz.ntmps120 (by kernel_rfl) rfl fun r T' n' h1 w0 base ρ0 its hS hP => ?_
 have X : CtxW envE ρ0 ro r T' n' := trivial
 unfold g120 at h1
 refine sr ?_
 refine as_ ?_
 refine dn ?_
 refine sr ?_
 refine mv ?_
 refine fl hS h1 Vdf.fo237_0 Vdf.one109 fun x18_1 h2 => ?_
 refine mv ?_
 refine vy (V.ia h2 rfl rfl Vdf.el109) fun x20_2 h3 => ?_
 refine vy (V.ldA hS h3 rfl Vdf.agg172) fun x21_3 h4 => ?_
 refine LV.alloc hS h4 rfl Vdf.zr172 rfl rfl rfl fun x11_4 T1 n1 h5 ρ its hS hdr => ?_
 refine LV.stA hS h5 rfl rfl rfl Vdf.agg172 rfl rfl rfl fun T2 its h6 hS => ?_
 refine dn ?_
 refine cs1 X 10 [] (g120_k1 ih ro) ?_ ?_
 ·
  refine sr ?_
  refine vy (V.fa h6 rfl Vdf.fo172_0) fun x22_5 h8 => ?_
  refine vy (V.ld hS h8 rfl Vdf.one3) fun x23_6 h9 => ?_
  refine dn ?_
  refine CV.block ?_
  refine cs9 X 0 1 2 3 4 10 11 23 24 [] (g120_k2 ih ro) ?_ ?_
  ·
   refine sr ?_
   refine vy (V.eq h9 rfl rfl) fun x25_31 h50 => ?_
   refine as_ ?_
   refine dn ?_
   refine CV.cond h50 rfl (fun e h51 => ?_) (fun e h51 => ?_)
   ·
    clear h1 h2 h3 h4 h5 h6 h8 h9 h50
    subst e
    refine CV.skip ?_
    exact pa9 hS h51 ⟨rfl, rfl, rfl, rfl, rfl, rfl, rfl, rfl, rfl, trivial⟩
   ·
    clear h1 h2 h3 h4 h5 h6 h8 h9 h50
    subst e
    refine CV.region ?_
    refine vy (V.eq h51 rfl rfl) fun x26_32 h52 => ?_
    refine as_ ?_
    refine LV.done ?_
    exact pa9 hS h52 ⟨rfl, rfl, rfl, rfl, rfl, rfl, rfl, rfl, rfl, trivial⟩
  ·
   intro y0 y1 y2 y3 y4 y10 y11 y23 y24 T4 n4 ρ its hS h10
   unfold g120_k2 at h10
   clear h1 h2 h3 h4 h5 h6 h8 h9
   refine CV.cond h10 rfl (fun e h11 => ?_) (fun e h11 => ?_)
   ·
    clear h10
    subst e
    cases h11
   ·
    clear h10
    subst e
    refine sr ?_
    refine vy (V.eq h11 rfl rfl) fun x29_7 h12 => ?_
    refine as_ ?_
    refine dn ?_
    refine CV.cond h12 rfl (fun e h13 => ?_) (fun e h13 => ?_)
    ·
     clear h11 h12
     subst e
     cases h13
    ·
     clear h11 h12
     subst e
     refine sr ?_
     refine vy (V.eq h13 rfl rfl) fun x32_8 h14 => ?_
     refine as_ ?_
     refine dn ?_
     refine CV.cond h14 rfl (fun e h15 => ?_) (fun e h15 => ?_)
     ·
      clear h13 h14
      subst e
      cases h15
     ·
      clear h13 h14
      subst e
      refine cs9 X 0 1 2 3 4 10 11 23 34 [] (g120_k3 ih ro) ?_ ?_
      ·
       refine sr ?_
       refine vy (V.eq h15 rfl rfl) fun x35_28 h45 => ?_
       refine as_ ?_
       refine dn ?_
       refine CV.cond h45 rfl (fun e h46 => ?_) (fun e h46 => ?_)
       ·
        clear h15 h45
        subst e
        refine CV.skip ?_
        exact pa9 hS h46 ⟨rfl, rfl, rfl, rfl, rfl, rfl, rfl, rfl, rfl, trivial⟩
       ·
        clear h15 h45
        subst e
        refine sr ?_
        refine vy (V.eq h46 rfl rfl) fun x36_29 h47 => ?_
        refine as_ ?_
        refine dn ?_
        refine CV.cond h47 rfl (fun e h48 => ?_) (fun e h48 => ?_)
        ·
         clear h46 h47
         subst e
         refine CV.skip ?_
         exact pa9 hS h48 ⟨rfl, rfl, rfl, rfl, rfl, rfl, rfl, rfl, rfl, trivial⟩
        ·
         clear h46 h47
         subst e
         refine CV.region ?_
         refine vy (V.eq h48 rfl rfl) fun x37_30 h49 => ?_
         refine as_ ?_
         refine LV.done ?_
         exact pa9 hS h49 ⟨rfl, rfl, rfl, rfl, rfl, rfl, rfl, rfl, rfl, trivial⟩
      ·
       intro y0 y1 y2 y3 y4 y10 y11 y23 y34 T5 n5 ρ its hS h16
       unfold g120_k3 at h16
       clear h15
       refine CV.cond h16 rfl (fun e h17 => ?_) (fun e h17 => ?_)
       ·
        clear h16
        subst e
        refine sr ?_
        refine vy (V.fa h17 rfl Vdf.fo172_4) fun x38_9 h18 => ?_
        refine vy (V.ld hS h18 rfl Vdf.one170) fun x39_10 h19 => ?_
        refine vy (V.lenS h19 rfl Vdf.ls170) fun x40_11 h20 => ?_
        refine mv ?_
        refine dn ?_
        refine CV.block ?_
        refine cl10 X 0 1 2 3 4 10 11 39 40 41 [] hS h20 ⟨rfl, rfl, rfl, rfl, rfl, rfl, rfl, rfl, rfl, rfl, trivial⟩ ?_
        intro f4 y0 y1 y2 y3 y4 y10 y11 y39 y40 y41 T6 n6 ρ its hS h21
        unfold g120_b4 at h21
        clear h17 h18 h19 h20
        refine sr ?_
        refine vy (V.lt h21 rfl rfl) fun x42_12 h22 => ?_
        refine dn ?_
        refine CV.seq ?_
        refine CV.cond h22 rfl (fun e h23 => ?_) (fun e h23 => ?_)
        ·
         clear h21 h22
         subst e
         refine CV.skip ?_
         refine PV.thenN ?_
         refine CV.seq ?_
         refine CV.block ?_
         refine sr ?_
         refine vy (V.ia h23 rfl rfl Vdf.el170) fun x43_13 h24 => ?_
         refine vy (V.ld hS h24 rfl Vdf.one3) fun x44_14 h25 => ?_
         refine as_ ?_
         refine dn ?_
         refine sr ?_
         refine mv ?_
         refine mv ?_
         refine ls12 X 0 1 2 3 4 10 11 13 39 40 41 55 [] (g120_k5 ih ro (lpf10 1200027 (g120_b4 ih ro) f4)) 9 ?_ ?_
         ·
          rcases condK_inv h25 with ⟨e, h36⟩ | ⟨e, h36⟩
          ·
           clear h23 h24 h25
           subst e
           refine mv ?_
           refine mv ?_
           refine vy (V.nc h36 rfl) fun x49_21 h37 => ?_
           refine vy (V.fa h37 rfl Vdf.fo237_0) fun x50_22 h38 => ?_
           refine vy (V.ld hS h38 rfl Vdf.one109) fun x51_23 h39 => ?_
           refine vy (V.lenS h39 rfl Vdf.ls109) fun x52_24 h40 => ?_
           refine vy (V.sub h40 rfl rfl) fun x53_25 h41 => ?_
           refine vy (V.eq h41 rfl rfl) fun x54_26 h42 => ?_
           refine pu ?_
           exact la12 hS h42 ⟨rfl, rfl, rfl, rfl, rfl, rfl, rfl, rfl, rfl, rfl, rfl, rfl, trivial⟩
          ·
           clear h23 h24 h25
           subst e
           refine sk ?_
           refine sk ?_
           refine sk ?_
           refine sk ?_
           refine sk ?_
           refine sk ?_
           refine sk ?_
           refine sk ?_
           refine pu ?_
           exact la12 hS h36 ⟨rfl, rfl, rfl, rfl, rfl, rfl, rfl, rfl, rfl, rfl, rfl, rfl, trivial⟩
         ·
          intro y0 y1 y2 y3 y4 y10 y11 y13 y39 y40 y41 y55 T7 n7 ρ its hS h26
          unfold g120_k5 at h26
          clear h23 h24 h25
          refine as_ ?_
          refine dn ?_
          refine sr ?_
          refine mv ?_
          refine mv ?_
          refine mv ?_
          refine mv ?_
          refine mv ?_
          refine mv ?_
          refine ls15 X 0 1 2 3 4 10 11 39 40 41 56 57 58 59 65 [] (g120_k6 ih ro (lpf10 1200027 (g120_b4 ih ro) f4)) 4 ?_ ?_
          ·
           rcases condK_inv h26 with ⟨e, h32⟩ | ⟨e, h32⟩
           ·
            clear h26
            subst e
            refine sk ?_
            refine sk ?_
            refine sk ?_
            refine pu ?_
            exact la15 hS h32 ⟨rfl, rfl, rfl, rfl, rfl, rfl, rfl, rfl, rfl, rfl, rfl, rfl, rfl, rfl, rfl, trivial⟩
           ·
            clear h26
            subst e
            refine vy (V.fa h32 rfl Vdf.fo172_0) fun x62_18 h33 => ?_
            refine vy (V.ld hS h33 rfl Vdf.one3) fun x63_19 h34 => ?_
            refine vy (V.eq h34 rfl rfl) fun x64_20 h35 => ?_
            refine pu ?_
            exact la15 hS h35 ⟨rfl, rfl, rfl, rfl, rfl, rfl, rfl, rfl, rfl, rfl, rfl, rfl, rfl, rfl, rfl, trivial⟩
          ·
           intro y0 y1 y2 y3 y4 y10 y11 y39 y40 y41 y56 y57 y58 y59 y65 T8 n8 ρ its hS h27
           unfold g120_k6 at h27
           clear h26
           refine LV.call hS h27 (hI _ _ _ _ _) hP rfl rfl rfl rfl fun x66_15 T9 n9 h28 ρ its hS => ?_
           refine vy (V.not h28 rfl) fun x67_16 h29 => ?_
           refine dn ?_
           refine CV.cond h29 rfl (fun e h30 => ?_) (fun e h30 => ?_)
           ·
            clear h27 h28 h29
            subst e
            cases h30
           ·
            clear h27 h28 h29
            subst e
            refine CV.skip ?_
            refine PV.blockN ?_
            refine PV.thenN ?_
            refine CV.region ?_
            refine vy (V.add h30 rfl rfl) fun x68_17 h31 => ?_
            refine mv ?_
            refine LV.done ?_
            exact pb10 hS h31 ⟨rfl, rfl, rfl, rfl, rfl, rfl, rfl, rfl, rfl, rfl, trivial⟩
        ·
         clear h21 h22
         subst e
         refine CV.exit ?_
         refine PV.thenE ?_
         refine PV.thenE ?_
         refine PV.blockE ?_
         refine PV.blockN ?_
         exact pa1 hS h23 ⟨rfl, trivial⟩
       ·
        clear h16
        subst e
        refine sr ?_
        refine vy (V.eq h17 rfl rfl) fun x70_27 h43 => ?_
        refine as_ ?_
        refine dn ?_
        refine CV.cond h43 rfl (fun e h44 => ?_) (fun e h44 => ?_)
        ·
         clear h17 h43
         subst e
         cases h44
        ·
         clear h17 h43
         subst e
         refine CV.skip ?_
         refine PV.blockN ?_
         exact pa1 hS h44 ⟨rfl, trivial⟩
 ·
  intro y10 T3 n3 ρ its hS h7
  unfold g120_k1 at h7
  clear h1 h2 h3 h4 h5 h6
  refine sr ?_
  refine as_ ?_
  refine dn ?_
  refine CV.ret ?_
  cases h7
  exact PV.ret (by simp) Tryz.results120 hS (RS.tmp rfl RS.nil) rfl
noncomputable def ap3 (ih : FuncId → List HT → List AV → HT → Nat → R) (f : FuncId) (ro : List HT) (args : List AV) (T : HT) (nx : Nat) : R :=
  Bool.rec (motive := fun _ => R) (.bad 2) (List.rec (motive := fun _ => R) (.bad 1) (fun a0 l0 _ => List.rec (motive := fun _ => R) (.bad 1) (fun a1 l1 _ => List.rec (motive := fun _ => R) (.bad 1) (fun a2 l2 _ => List.rec (motive := fun _ => R) (.bad 1) (fun a3 l3 _ => List.rec (motive := fun _ => R) (.bad 1) (fun a4 l4 _ => List.rec (motive := fun _ => R) (g120 ih ro a0 a1 a2 a3 a4 T nx) (fun _ _ _ => .bad 1) l4) l3) l2) l1) l0) args) (Nat.beq f 120)
noncomputable def scc3 (fuel : Nat) : FuncId → List HT → List AV → HT → Nat → R :=
  Nat.rec (motive := fun _ => FuncId → List HT → List AV → HT → Nat → R) (fun _ _ _ _ _ => .bad 3) (fun _ ih => ap3 ih) fuel
theorem ap3_ok (ih : FuncId → List HT → List AV → HT → Nat → R) (hI : ∀ f ro args T nx, GOk Tryz.prog envE f args ro T nx (ih f ro args T nx)) (f : FuncId) (ro : List HT) (args : List AV) (T : HT) (nx : Nat) : GOk Tryz.prog envE f args ro T nx (ap3 ih f ro args T nx) := by
  unfold ap3
  refine recb_go (fun hb => ?_) (fun _ => ?_)
  · obtain rfl := beqT hb
    rcases args with _ | ⟨a0, l0⟩
    · exact GOk.bad
    rcases l0 with _ | ⟨a1, l1⟩
    · exact GOk.bad
    rcases l1 with _ | ⟨a2, l2⟩
    · exact GOk.bad
    rcases l2 with _ | ⟨a3, l3⟩
    · exact GOk.bad
    rcases l3 with _ | ⟨a4, l4⟩
    · exact GOk.bad
    rcases l4 with _ | ⟨_, _⟩
    · exact g120_ok _ hI _ _ _ _ _ _ _ _ 
    · exact GOk.bad
  · exact GOk.bad
theorem scc3_ok : ∀ (fuel : Nat) (f : FuncId) (ro : List HT) (args : List AV) (T : HT) (nx : Nat), GOk Tryz.prog envE f args ro T nx (scc3 fuel f ro args T nx)
  | 0, _, _, _, _, _ => GOk.bad
  | fuel + 1, f, ro, args, T, nx => ap3_ok (scc3 fuel) (scc3_ok fuel) f ro args T nx
noncomputable def g89_k2 (ro : List HT) (lp1 : AV → AV → AV → AV → AV → AV → HT → Nat → R) (y0 y2 y3 y17 y18 y19 y43 : AV) (T6 : HT) (n6 : Nat) : R :=
 condK 890026 y43
 (
  .bad 890027
 )
 (
  addK Tryz.prog 3 (.tmp 19) (.const (.int .i64 (.ofNat 1))) 890028 y19 (.lit (.int .i64 (.ofNat 1))) fun x49_12 =>
  lp1 y0 y2 y3 y17 y18 x49_12 T6 n6
 )
noncomputable def g89_k5 (ro : List HT) (y2 y77 : AV) (T11 : HT) (n11 : Nat) : R :=
 condK 890066 y77
 (
  .bad 890067
 )
 (
  .ok (.val (.lit (.nilIface))) T11 n11
 )
noncomputable def g89_k4 (ro : List HT) (y2 y3 y6 y71 : AV) (T10 : HT) (n10 : Nat) : R :=
 condK 890069 y71
 (
  g89_k5 ro y2 (.lit (.bool true)) T10 n10
 )
 (
  callK (scc3 4000 120 ro [y3, y6, (.lit (.bool true)), (.lit (.bool false)), (.lit (.bool false))] T10 n10) fun x75_29 T12 n12 =>
  notK 890074 x75_29 fun x76_30 =>
  g89_k5 ro y2 x76_30 T12 n12
 )
noncomputable def g89_k3 (ro : List HT) (y2 y3 y6 y62 : AV) (T9 : HT) (n9 : Nat) : R :=
 condK 890076 y62
 (
  g89_k4 ro y2 y3 y6 (.lit (.bool true)) T9 n9
 )
 (
  ncK 890079 y3 fun x65_31 =>
  faK 890080 x65_31 1 fun x66_32 =>
  ldK 890081 T9 ro x66_32 fun x67_33 =>
  cutHiK 890083 T9 ro x67_33 y6 fun x69_34 =>
  callK (g119 ro x69_34 (.lit (.bool false)) T9 n9) fun x70_35 T13 n13 =>
  g89_k4 ro y2 y3 y6 x70_35 T13 n13
 )
noncomputable def g89_b1 (ro : List HT) (lp1 : AV → AV → AV → AV → AV → AV → HT → Nat → R) (y0 y2 y3 y17 y18 y19 : AV) (T3 : HT) (n3 : Nat) : R :=
 ltK Tryz.prog 3 (.tmp 19) (.tmp 18) 890018 y19 y18 fun x20_8 =>
 condK 890019 x20_8
 (
  iaK 890021 y17 y19 5 fun x22_9 =>
  ldAK 890022 T3 ro x22_9 5 fun x23_10 =>
  newK T3 n3 (.obj [.lit (.int .i64 0), .lit (.int .i64 0), .lit (.int .i64 0), .lit (.string ⟨#[]⟩), .lit (.slice none 0 0)] 172) fun x5_11 T4 n4 =>
  stAK 890025 T4 x5_11 x23_10 5 fun T5 =>
  faK 890030 x5_11 4 fun x24_13 =>
  ldK 890031 T5 ro x24_13 fun x25_14 =>
  ncK 890034 y3 fun x28_15 =>
  faK 890035 x28_15 1 fun x29_16 =>
  ldK 890036 T5 ro x29_16 fun x30_17 =>
  callK (g117 ro x25_14 y19 x30_17 T5 n4) fun x31_18 T7 n7 =>
  notK 890038 x31_18 fun x32_19 =>
  condK 890040 x32_19
  (
   condK 890043 (.lit (.bool true))
   (
    g89_k2 ro lp1 y0 y2 y3 y17 y18 y19 (.lit (.bool true)) T7 n7
   )
   (
    .bad 0
   )
  )
  (
   faK 890045 x5_11 1 fun x34_20 =>
   ldK 890046 T7 ro x34_20 fun x35_21 =>
   neK Tryz.prog 3 (.tmp 35) (.const (.int .i64 (.ofNat 0))) 890047 x35_21 (.lit (.int .i64 (.ofNat 0))) fun x36_22 =>
   condK 890050 x36_22
   (
    g89_k2 ro lp1 y0 y2 y3 y17 y18 y19 (.lit (.bool true)) T7 n7
   )
   (
    ldAK 890053 T7 ro x5_11 5 fun x40_23 =>
    callK (g118 ro y3 x40_23 T7 n7) fun x41_24 T8 n8 =>
    notK 890055 x41_24 fun x42_25 =>
    g89_k2 ro lp1 y0 y2 y3 y17 y18 y19 x42_25 T8 n8
   )
  )
 )
 (
  lenSK 890058 y0 fun x51_26 =>
  subK Tryz.prog 3 (.tmp 51) (.const (.int .i64 (.ofNat 1))) 890059 x51_26 (.lit (.int .i64 (.ofNat 1))) fun x52_27 =>
  ltK Tryz.prog 3 (.tmp 53) (.const (.int .i64 (.ofNat 0))) 890062 x52_27 (.lit (.int .i64 (.ofNat 0))) fun x54_28 =>
  condK 890086 x54_28
  (
   g89_k3 ro y2 y3 x52_27 (.lit (.bool true)) T3 n3
  )
  (
   iaK 890090 y0 x52_27 5 fun x58_36 =>
   faK 890091 x58_36 0 fun x59_37 =>
   ldK 890092 T3 ro x59_37 fun x60_38 =>
   neK Tryz.prog 3 (.tmp 60) (.const (.int .i64 (.ofNat 47))) 890093 x60_38 (.lit (.int .i64 (.ofNat 47))) fun x61_39 =>
   g89_k3 ro y2 y3 x52_27 x61_39 T3 n3
  )
 )
noncomputable def g89 (ro : List HT) (a0 : AV) (T : HT) (nx : Nat) : R :=
 lenSK 890003 a0 fun x8_1 =>
 gtK Tryz.prog 3 (.tmp 8) (.const (.int .i64 (.ofNat 1048576))) 890004 x8_1 (.lit (.int .i64 (.ofNat 1048576))) fun x9_2 =>
 condK 890005 x9_2
 (
  .bad 890006
 )
 (
  lenSK 890009 a0 fun x13_3 =>
  mkK 890010 T nx 4 1 (.lit (.bool false)) x13_3 fun x14_4 T1 n1 =>
  optK 890011 (bld237 [(0, a0), (1, x14_4)]) fun x15_5 =>
  boxK 890012 T1 n1 x15_5 237 fun x16_6 T2 n2 =>
  lenSK 890015 a0 fun x18_7 =>
  lpf6 890017 (g89_b1 ro) 100000 a0 (.lit (.nilIface)) x16_6 a0 x18_7 (.lit (.int .i64 (.ofNat 0))) T2 n2
 )
theorem g89_ok (ro : List HT) (a0 : AV) (T : HT) (nx : Nat) : GOk Tryz.prog envE 89 [a0] ro T nx (g89 ro a0 T nx) := by
 refine GOk.of_body Tryz.func89 rfl Tryz.ntmps89 (by kernel_rfl) rfl fun r T' n' h1 w0 base ρ0 its hS hP => ?_
 have X : CtxW envE ρ0 ro r T' n' := trivial
 unfold g89 at h1
 refine sr ?_
 refine as_ ?_
 refine dn ?_
 refine CV.seq ?_
 refine sr ?_
 refine mv ?_
 refine vy (V.lenS h1 rfl Vdf.ls109) fun x8_1 h2 => ?_
 refine vy (V.gt h2 rfl rfl) fun x9_2 h3 => ?_
 refine dn ?_
 refine CV.cond h3 rfl (fun e h4 => ?_) (fun e h4 => ?_)
 ·
  clear h1 h2 h3
  subst e
  cases h4
 ·
  clear h1 h2 h3
  subst e
  refine CV.skip ?_
  refine PV.thenN ?_
  refine sr ?_
  refine mv ?_
  refine mv ?_
  refine vy (V.lenS h4 rfl Vdf.ls109) fun x13_3 h5 => ?_
  refine LV.mk hS h5 rfl rfl rfl Vdf.el235 rfl rfl rfl rfl fun x14_4 T1 n1 h6 ρ its hS hdr => ?_
  refine vy (V.bld h6 rfl) fun x15_5 h7 => ?_
  refine LV.box hS h7 rfl rfl rfl rfl rfl fun x16_6 T2 n2 h8 ρ its hS hdr => ?_
  refine as_ ?_
  refine dn ?_
  refine CV.seq ?_
  refine sr ?_
  refine mv ?_
  refine vy (V.lenS h8 rfl Vdf.ls109) fun x18_7 h9 => ?_
  refine mv ?_
  refine dn ?_
  refine CV.block ?_
  refine cl6 X 0 2 3 17 18 19 [] hS h9 ⟨rfl, rfl, rfl, rfl, rfl, rfl, trivial⟩ ?_
  intro f1 y0 y2 y3 y17 y18 y19 T3 n3 ρ its hS h10
  unfold g89_b1 at h10
  clear h4 h5 h6 h7 h8 h9
  refine sr ?_
  refine vy (V.lt h10 rfl rfl) fun x20_8 h11 => ?_
  refine dn ?_
  refine CV.seq ?_
  refine CV.cond h11 rfl (fun e h12 => ?_) (fun e h12 => ?_)
  ·
   clear h10 h11
   subst e
   refine CV.skip ?_
   refine PV.thenN ?_
   refine CV.seq ?_
   refine CV.block ?_
   refine sr ?_
   refine mv ?_
   refine vy (V.ia h12 rfl rfl Vdf.el109) fun x22_9 h13 => ?_
   refine vy (V.ldA hS h13 rfl Vdf.agg172) fun x23_10 h14 => ?_
   refine LV.alloc hS h14 rfl Vdf.zr172 rfl rfl rfl fun x5_11 T4 n4 h15 ρ its hS hdr => ?_
   refine as_ ?_
   refine LV.stA hS h15 rfl rfl rfl Vdf.agg172 rfl rfl rfl fun T5 its h16 hS => ?_
   refine dn ?_
   refine cs7 X 0 2 3 17 18 19 43 [] (g89_k2 ro (lpf6 890017 (g89_b1 ro) f1)) ?_ ?_
   ·
    refine CV.regionM [(0, .anywhere), (1, .held), (2, .anywhere), (3, .anywhere), (4, .anywhere), (5, .anywhere), (6, .held), (7, .alone), (8, .alone), (9, .alone), (10, .alone), (11, .alone), (12, .alone), (13, .alone), (14, .alone), (15, .anywhere), (16, .alone), (17, .alone), (18, .alone), (19, .alone)] rfl (fun c a a' w hd hq => PanicOk.root (P := Tryz.prog) (fn := Tryz.f89) (w0 := w0) (base := base) (E := envE) (ro := ro) (r := r) (T' := T') (n' := n') (ρ0 := ρ0) c a a' w hd hq) (by kernel_rfl) ?_
    refine MV.lift0 (i := 0) rfl (V.fa h16 rfl Vdf.fo172_4) rfl rfl rfl fun x24_13 h20 => ?_
    refine MV.lift1 (i := 1) rfl (fun _ z => z) (V.ld hS h20 rfl Vdf.one170) rfl rfl rfl [] (by kernel_rfl) fun x25_14 h21 => ?_
    refine MV.step0 (i := 2) rfl (VAL.move rfl) rfl rfl rfl ?_
    refine MV.step0 (i := 3) rfl (VAL.move rfl) rfl rfl rfl ?_
    refine MV.lift0 (i := 4) rfl (V.nc h21 rfl) rfl rfl rfl fun x28_15 h22 => ?_
    refine MV.lift0 (i := 5) rfl (V.fa h22 rfl Vdf.fo237_1) rfl rfl rfl fun x29_16 h23 => ?_
    refine MV.lift1 (i := 6) rfl (fun _ z => z) (V.ld hS h23 rfl Vdf.one235) rfl rfl rfl [1] (by kernel_rfl) fun x30_17 h24 => ?_
    refine MV.force (i := 7) rfl ?_
    refine LV.call hS h24 (g117_ok _ _ _ _ _ _ ) hP rfl rfl rfl rfl fun x31_18 T7 n7 h25 ρ its hS => ?_
    refine LV.nextM [] (by kernel_rfl) (fun z => absurd rfl z) ?_
    refine MV.force (i := 8) rfl ?_
    refine vy (V.not h25 rfl) fun x32_19 h26 => ?_
    refine LV.nextM [] (by kernel_rfl) (fun z => absurd rfl z) ?_
    refine MV.force (i := 9) rfl ?_
    refine mv ?_
    refine LV.nextM [] (by kernel_rfl) (fun z => absurd rfl z) ?_
    rcases condK_inv h26 with ⟨e, h27⟩ | ⟨e, h27⟩
    ·
     clear h12 h13 h14 h15 h16 h20 h21 h22 h23 h24 h25 h26
     subst e
     refine MV.force (i := 10) rfl ?_
     refine sk ?_
     refine LV.nextM [] (by kernel_rfl) (fun z => absurd rfl z) ?_
     refine MV.force (i := 11) rfl ?_
     refine sk ?_
     refine LV.nextM [] (by kernel_rfl) (fun z => absurd rfl z) ?_
     refine MV.force (i := 12) rfl ?_
     refine sk ?_
     refine LV.nextM [] (by kernel_rfl) (fun z => absurd rfl z) ?_
     refine MV.force (i := 13) rfl ?_
     refine pu ?_
     refine LV.nextM [] (by kernel_rfl) (fun z => absurd rfl z) ?_
     refine MV.force (i := 14) rfl ?_
     refine mv ?_
     refine LV.nextM [] (by kernel_rfl) (fun z => absurd rfl z) ?_
     rcases condK_inv h27 with ⟨e, h28⟩ | ⟨e, h28⟩
     ·
      clear h27
      refine MV.skip0 (i := 15) rfl rfl rfl rfl ?_
      refine MV.force (i := 16) rfl ?_
      refine sk ?_
      refine LV.nextM [] (by kernel_rfl) (fun z => absurd rfl z) ?_
      refine MV.force (i := 17) rfl ?_
      refine sk ?_
      refine LV.nextM [] (by kernel_rfl) (fun z => absurd rfl z) ?_
      refine MV.force (i := 18) rfl ?_
      refine sk ?_
      refine LV.nextM [] (by kernel_rfl) (fun z => absurd rfl z) ?_
      refine MV.force (i := 19) rfl ?_
      refine pu ?_
      refine LV.nextM [] (by kernel_rfl) (fun z => absurd rfl z) ?_
      refine MV.done ?_
      exact pa7 hS h28 ⟨rfl, rfl, rfl, rfl, rfl, rfl, rfl, trivial⟩
     ·
      clear h27
      cases e
    ·
     clear h12 h13 h14 h15 h16 h20 h21 h22 h23 h24 h25 h26
     subst e
     refine MV.force (i := 10) rfl ?_
     refine vy (V.fa h27 rfl Vdf.fo172_1) fun x34_20 h29 => ?_
     refine LV.nextM [] (by kernel_rfl) (fun z => absurd rfl z) ?_
     refine MV.force (i := 11) rfl ?_
     refine vy (V.ld hS h29 rfl Vdf.one3) fun x35_21 h30 => ?_
     refine LV.nextM [] (by kernel_rfl) (fun z => absurd rfl z) ?_
     refine MV.force (i := 12) rfl ?_
     refine vy (V.ne h30 rfl rfl) fun x36_22 h31 => ?_
     refine LV.nextM [] (by kernel_rfl) (fun z => absurd rfl z) ?_
     refine MV.force (i := 13) rfl ?_
     refine pu ?_
     refine LV.nextM [] (by kernel_rfl) (fun z => absurd rfl z) ?_
     refine MV.force (i := 14) rfl ?_
     refine mv ?_
     refine LV.nextM [] (by kernel_rfl) (fun z => absurd rfl z) ?_
     rcases condK_inv h31 with ⟨e, h32⟩ | ⟨e, h32⟩
     ·
      clear h27 h29 h30 h31
      subst e
      refine MV.skip0 (i := 15) rfl rfl rfl rfl ?_
      refine MV.force (i := 16) rfl ?_
      refine sk ?_
      refine LV.nextM [] (by kernel_rfl) (fun z => absurd rfl z) ?_
      refine MV.force (i := 17) rfl ?_
      refine sk ?_
      refine LV.nextM [] (by kernel_rfl) (fun z => absurd rfl z) ?_
      refine MV.force (i := 18) rfl ?_
      refine sk ?_
      refine LV.nextM [] (by kernel_rfl) (fun z => absurd rfl z) ?_
      refine MV.force (i := 19) rfl ?_
      refine pu ?_
      refine LV.nextM [] (by kernel_rfl) (fun z => absurd rfl z) ?_
      refine MV.done ?_
      exact pa7 hS h32 ⟨rfl, rfl, rfl, rfl, rfl, rfl, rfl, trivial⟩
     ·
      clear h27 h29 h30 h31
      subst e
      refine MV.step0 (i := 15) rfl (VAL.move rfl) rfl rfl rfl ?_
      refine MV.force (i := 16) rfl ?_
      refine vy (V.ldA hS h32 rfl Vdf.agg172) fun x40_23 h33 => ?_
      refine LV.nextM [] (by kernel_rfl) (fun z => absurd rfl z) ?_
      refine MV.force (i := 17) rfl ?_
      refine LV.call hS h33 (g118_ok _ _ _ _ _ ) hP rfl rfl rfl rfl fun x41_24 T8 n8 h34 ρ its hS => ?_
      refine LV.nextM [] (by kernel_rfl) (fun z => absurd rfl z) ?_
      refine MV.force (i := 18) rfl ?_
      refine vy (V.not h34 rfl) fun x42_25 h35 => ?_
      refine LV.nextM [] (by kernel_rfl) (fun z => absurd rfl z) ?_
      refine MV.force (i := 19) rfl ?_
      refine pu ?_
      refine LV.nextM [] (by kernel_rfl) (fun z => absurd rfl z) ?_
      refine MV.done ?_
      exact pa7 hS h35 ⟨rfl, rfl, rfl, rfl, rfl, rfl, rfl, trivial⟩
   ·
    intro y0 y2 y3 y17 y18 y19 y43 T6 n6 ρ its hS h17
    unfold g89_k2 at h17
    clear h12 h13 h14 h15 h16
    refine CV.cond h17 rfl (fun e h18 => ?_) (fun e h18 => ?_)
    ·
     clear h17
     subst e
     cases h18
    ·
     clear h17
     subst e
     refine CV.skip ?_
     refine PV.blockN ?_
     refine PV.thenN ?_
     refine CV.region ?_
     refine vy (V.add h18 rfl rfl) fun x49_12 h19 => ?_
     refine mv ?_
     refine LV.done ?_
     exact pb6 hS h19 ⟨rfl, rfl, rfl, rfl, rfl, rfl, trivial⟩
  ·
   clear h10 h11
   subst e
   refine CV.exit ?_
   refine PV.thenE ?_
   refine PV.thenE ?_
   refine PV.blockE ?_
   refine PV.thenN ?_
   refine sr ?_
   refine mv ?_
   refine vy (V.lenS h12 rfl Vdf.ls109) fun x51_26 h36 => ?_
   refine vy (V.sub h36 rfl rfl) fun x52_27 h37 => ?_
   refine as_ ?_
   refine dn ?_
   refine CV.seq ?_
   refine sr ?_
   refine mv ?_
   refine vy (V.lt h37 rfl rfl) fun x54_28 h38 => ?_
   refine mv ?_
   refine ls4 X 2 3 6 62 [] (g89_k3 ro) 7 ?_ ?_
   ·
    rcases condK_inv h38 with ⟨e, h52⟩ | ⟨e, h52⟩
    ·
     clear h12 h36 h37 h38
     subst e
     refine sk ?_
     refine sk ?_
     refine sk ?_
     refine sk ?_
     refine sk ?_
     refine sk ?_
     refine pu ?_
     exact la4 hS h52 ⟨rfl, rfl, rfl, rfl, trivial⟩
    ·
     clear h12 h36 h37 h38
     subst e
     refine mv ?_
     refine mv ?_
     refine vy (V.ia h52 rfl rfl Vdf.el109) fun x58_36 h53 => ?_
     refine vy (V.fa h53 rfl Vdf.fo172_0) fun x59_37 h54 => ?_
     refine vy (V.ld hS h54 rfl Vdf.one3) fun x60_38 h55 => ?_
     refine vy (V.ne h55 rfl rfl) fun x61_39 h56 => ?_
     refine pu ?_
     exact la4 hS h56 ⟨rfl, rfl, rfl, rfl, trivial⟩
   ·
    intro y2 y3 y6 y62 T9 n9 ρ its hS h39
    unfold g89_k3 at h39
    clear h12 h36 h37 h38
    refine mv ?_
    refine ls4 X 2 3 6 71 [] (g89_k4 ro) 8 ?_ ?_
    ·
     rcases condK_inv h39 with ⟨e, h46⟩ | ⟨e, h46⟩
     ·
      clear h39
      subst e
      refine sk ?_
      refine sk ?_
      refine sk ?_
      refine sk ?_
      refine sk ?_
      refine sk ?_
      refine sk ?_
      refine pu ?_
      exact la4 hS h46 ⟨rfl, rfl, rfl, rfl, trivial⟩
     ·
      clear h39
      subst e
      refine mv ?_
      refine vy (V.nc h46 rfl) fun x65_31 h47 => ?_
      refine vy (V.fa h47 rfl Vdf.fo237_1) fun x66_32 h48 => ?_
      refine vy (V.ld hS h48 rfl Vdf.one235) fun x67_33 h49 => ?_
      refine mv ?_
      refine vy (V.cutHi hS h49 rfl rfl Vdf.el235) fun x69_34 h50 => ?_
      refine LV.call hS h50 (g119_ok _ _ _ _ _ ) hP rfl rfl rfl rfl fun x70_35 T13 n13 h51 ρ its hS => ?_
      refine pu ?_
      exact la4 hS h51 ⟨rfl, rfl, rfl, rfl, trivial⟩
    ·
     intro y2 y3 y6 y71 T10 n10 ρ its hS h40
     unfold g89_k4 at h40
     clear h39
     refine mv ?_
     refine ls2 X 2 77 [] (g89_k5 ro) 5 ?_ ?_
     ·
      rcases condK_inv h40 with ⟨e, h43⟩ | ⟨e, h43⟩
      ·
       clear h40
       subst e
       refine sk ?_
       refine sk ?_
       refine sk ?_
       refine sk ?_
       refine pu ?_
       exact la2 hS h43 ⟨rfl, rfl, trivial⟩
      ·
       clear h40
       subst e
       refine mv ?_
       refine mv ?_
       refine LV.call hS h43 (scc3_ok _ _ _ _ _ _) hP rfl rfl rfl rfl fun x75_29 T12 n12 h44 ρ its hS => ?_
       refine vy (V.not h44 rfl) fun x76_30 h45 => ?_
       refine pu ?_
       exact la2 hS h45 ⟨rfl, rfl, trivial⟩
     ·
      intro y2 y77 T11 n11 ρ its hS h41
      unfold g89_k5 at h41
      clear h40
      refine dn ?_
      refine CV.cond h41 rfl (fun e h42 => ?_) (fun e h42 => ?_)
      ·
       clear h41
       subst e
       cases h42
      ·
       clear h41
       subst e
       refine CV.skip ?_
       refine PV.thenN ?_
       refine sr ?_
       refine as_ ?_
       refine dn ?_
       refine CV.ret ?_
       cases h42
       exact PV.ret (by simp) Tryz.results89 hS (RS.tmp rfl RS.nil) rfl
noncomputable def g32 (ro : List HT) (a0 : AV) (T : HT) (nx : Nat) : R :=
 slEqK Tryz.prog .eql false 71 (.tmp 3) (.const (.slice none 0 0)) 320003 a0 fun x4_1 =>
 condK 320004 x4_1
 (
  .bad 320005
 )
 (
  bs0K T nx 25 1 fun x5_2 T1 n1 =>
  shrK 320009 T1 x5_2 fun T2 =>
  appEK 320008 T2 ro n1 25 1 16 x5_2 a0 fun x7_3 T3 n3 =>
  .ok (.val x7_3) T3 n3
 )
theorem g32_ok (ro : List HT) (a0 : AV) (T : HT) (nx : Nat) : GOk Tryz.prog envE 32 [a0] ro T nx (g32 ro a0 T nx) := by
 refine GOk.of_body Tryz.func32 rfl Tryz.ntmps32 (by kernel_rfl) rfl fun r T' n' h1 w0 base ρ0 its hS hP => ?_
 have X : CtxW envE ρ0 ro r T' n' := trivial
 unfold g32 at h1
 refine sr ?_
 refine as_ ?_
 refine dn ?_
 refine CV.seq ?_
 refine sr ?_
 refine mv ?_
 refine vy (V.slEq h1 rfl Vdf.slt71) fun x4_1 h2 => ?_
 refine dn ?_
 refine CV.cond h2 rfl (fun e h3 => ?_) (fun e h3 => ?_)
 ·
  clear h1 h2
  subst e
  cases h3
 ·
  clear h1 h2
  subst e
  refine CV.skip ?_
  refine PV.thenN ?_
  refine sr ?_
  refine LV.bs0 hS h3 rfl Vdf.el71 rfl rfl rfl fun x5_2 T1 n1 h4 ρ its hS hdr => ?_
  refine mv ?_
  obtain ⟨T2, its1, h5, hS, hW⟩ := shrK_inv hS h4
  refine LV.world hW ?_
  refine LV.appE hS h5 rfl rfl rfl rfl Vdf.el71 rfl rfl rfl fun x7_3 T3 n3 h6 ρ its hS => ?_
  refine as_ ?_
  refine dn ?_
  refine CV.ret ?_
  cases h6
  exact PV.ret (by simp) Tryz.results32 hS (RS.tmp rfl RS.nil) rfl
noncomputable def g10 (ro : List HT) (a0 : AV) (T : HT) (nx : Nat) : R :=
 callK (g32 ro a0 T nx) fun x4_1 T1 n1 =>
 optK 100004 (bld75 [(1, x4_1)]) fun x5_2 =>
 boxK 100005 T1 n1 x5_2 75 fun x6_3 T2 n2 =>
 .ok (.val (.iface 72 x6_3)) T2 n2
theorem g10_ok (ro : List HT) (a0 : AV) (T : HT) (nx : Nat) : GOk Tryz.prog envE 10 [a0] ro T nx (g10 ro a0 T nx) := by
 refine GOk.of_body Tryz.func10 rfl Tryz.ntmps10 (by kernel_rfl) rfl fun r T' n' h1 w0 base ρ0 its hS hP => ?_
 have X : CtxW envE ρ0 ro r T' n' := trivial
 unfold g10 at h1
 refine sr ?_
 refine as_ ?_
 refine dn ?_
 refine sr ?_
 refine mv ?_
 refine LV.call hS h1 (g32_ok _ _ _ _ ) hP rfl rfl rfl rfl fun x4_1 T1 n1 h2 ρ its hS => ?_
 refine vy (V.bld h2 rfl) fun x5_2 h3 => ?_
 refine LV.box hS h3 rfl rfl rfl rfl rfl fun x6_3 T2 n2 h4 ρ its hS hdr => ?_
 refine sv (VAL.mkI rfl Vdf.ni72) ?_
 refine as_ ?_
 refine dn ?_
 refine CV.ret ?_
 cases h4
 exact PV.ret (by simp) Tryz.results10 hS (RS.tmp rfl RS.nil) rfl
noncomputable def g11 (ro : List HT) (a0 : AV) (T : HT) (nx : Nat) : R :=
 callK (g32 ro a0 T nx) fun x4_1 T1 n1 =>
 optK 110004 (bld77 [(1, x4_1)]) fun x5_2 =>
 boxK 110005 T1 n1 x5_2 77 fun x6_3 T2 n2 =>
 .ok (.val x6_3) T2 n2
theorem g11_ok (ro : List HT) (a0 : AV) (T : HT) (nx : Nat) : GOk Tryz.prog envE 11 [a0] ro T nx (g11 ro a0 T nx) := by
 refine GOk.of_body Tryz.func11 rfl Tryz.ntmps11 (by kernel_rfl) rfl fun r T' n' h1 w0 base ρ0 its hS hP => ?_
 have X : CtxW envE ρ0 ro r T' n' := trivial
 unfold g11 at h1
 refine sr ?_
 refine as_ ?_
 refine dn ?_
 refine sr ?_
 refine mv ?_
 refine LV.call hS h1 (g32_ok _ _ _ _ ) hP rfl rfl rfl rfl fun x4_1 T1 n1 h2 ρ its hS => ?_
 refine vy (V.bld h2 rfl) fun x5_2 h3 => ?_
 refine LV.box hS h3 rfl rfl rfl rfl rfl fun x6_3 T2 n2 h4 ρ its hS hdr => ?_
 refine as_ ?_
 refine dn ?_
 refine CV.ret ?_
 cases h4
 exact PV.ret (by simp) Tryz.results11 hS (RS.tmp rfl RS.nil) rfl
noncomputable def g17 (ro : List HT) (T : HT) (nx : Nat) : R :=
 optK 170002 (bld100 []) fun x1_1 =>
 .ok (.val (.iface 100 x1_1)) T nx
theorem g17_ok (ro : List HT) (T : HT) (nx : Nat) : GOk Tryz.prog envE 17 [] ro T nx (g17 ro T nx) := by
 refine GOk.of_body Tryz.func17 rfl Tryz.ntmps17 (by kernel_rfl) rfl fun r T' n' h1 w0 base ρ0 its hS hP => ?_
 have X : CtxW envE ρ0 ro r T' n' := trivial
 unfold g17 at h1
 refine sr ?_
 refine as_ ?_
 refine dn ?_
 refine sr ?_
 refine vy (V.bld h1 rfl) fun x1_1 h2 => ?_
 refine sv (VAL.mkI rfl Vdf.ni100) ?_
 refine as_ ?_
 refine dn ?_
 refine CV.ret ?_
 cases h2
 exact PV.ret (by simp) Tryz.results17 hS (RS.tmp rfl RS.nil) rfl
noncomputable def g121_k1 (ro : List HT) (y4 y6 y7 : AV) (T2 : HT) (n2 : Nat) : R :=
 condK 1210005 y7
 (
  .ok (.val (.lit (.bool true))) T2 n2
 )
 (
  eqK Tryz.prog 3 (.tmp 6) (.const (.int .i64 (.ofNat 16))) 1210007 y6 (.lit (.int .i64 (.ofNat 16))) fun x17_4 =>
  condK 1210009 x17_4
  (
   .bad 1210010
  )
  (
   .ok (.val (.lit (.bool false))) T2 n2
  )
 )
noncomputable def g121 (ro : List HT) (a0 a1 : AV) (T : HT) (nx : Nat) : R :=
 boxK 1210001 T nx a1 172 fun x3_1 T1 n1 =>
 faK 1210003 x3_1 0 fun x5_2 =>
 ldK 1210004 T1 ro x5_2 fun x6_3 =>
 eqK Tryz.prog 3 (.tmp 6) (.const (.int .i64 (.ofNat 1))) 1210012 x6_3 (.lit (.int .i64 (.ofNat 1))) fun x8_5 =>
 condK 1210014 x8_5
 (
  g121_k1 ro (.lit (.bool false)) x6_3 (.lit (.bool true)) T1 n1
 )
 (
  eqK Tryz.prog 3 (.tmp 6) (.const (.int .i64 (.ofNat 2))) 1210015 x6_3 (.lit (.int .i64 (.ofNat 2))) fun x9_6 =>
  condK 1210017 x9_6
  (
   g121_k1 ro (.lit (.bool false)) x6_3 (.lit (.bool true)) T1 n1
  )
  (
   eqK Tryz.prog 3 (.tmp 6) (.const (.int .i64 (.ofNat 3))) 1210018 x6_3 (.lit (.int .i64 (.ofNat 3))) fun x10_7 =>
   condK 1210020 x10_7
   (
    g121_k1 ro (.lit (.bool false)) x6_3 (.lit (.bool true)) T1 n1
   )
   (
    eqK Tryz.prog 3 (.tmp 6) (.const (.int .i64 (.ofNat 4))) 1210021 x6_3 (.lit (.int .i64 (.ofNat 4))) fun x11_8 =>
    condK 1210023 x11_8
    (
     g121_k1 ro (.lit (.bool false)) x6_3 (.lit (.bool true)) T1 n1
    )
    (
     eqK Tryz.prog 3 (.tmp 6) (.const (.int .i64 (.ofNat 5))) 1210024 x6_3 (.lit (.int .i64 (.ofNat 5))) fun x12_9 =>
     condK 1210026 x12_9
     (
      g121_k1 ro (.lit (.bool false)) x6_3 (.lit (.bool true)) T1 n1
     )
     (
      eqK Tryz.prog 3 (.tmp 6) (.const (.int .i64 (.ofNat 7))) 1210027 x6_3 (.lit (.int .i64 (.ofNat 7))) fun x13_10 =>
      condK 1210029 x13_10
      (
       g121_k1 ro (.lit (.bool false)) x6_3 (.lit (.bool true)) T1 n1
      )
      (
       eqK Tryz.prog 3 (.tmp 6) (.const (.int .i64 (.ofNat 8))) 1210030 x6_3 (.lit (.int .i64 (.ofNat 8))) fun x14_11 =>
       condK 1210032 x14_11
       (
        g121_k1 ro (.lit (.bool false)) x6_3 (.lit (.bool true)) T1 n1
       )
       (
        eqK Tryz.prog 3 (.tmp 6) (.const (.int .i64 (.ofNat 9))) 1210033 x6_3 (.lit (.int .i64 (.ofNat 9))) fun x15_12 =>
        g121_k1 ro (.lit (.bool false)) x6_3 x15_12 T1 n1
       )
      )
     )
    )
   )
  )
 )
theorem g121_ok (ro : List HT) (a0 a1 : AV) (T : HT) (nx : Nat) : GOk Tryz.prog envE 121 [a0, a1] ro T nx (g121 ro a0 a1 T nx) := by
 refine GOk.of_body Tryz.func121 rfl Tryz.ntmps121 (by kernel_rfl) rfl fun r T' n' h1 w0 base ρ0 its hS hP => ?_
 have X : CtxW envE ρ0 ro r T' n' := trivial
 unfold g121 at h1
 refine sr ?_
 refine LV.box hS h1 rfl rfl rfl rfl rfl fun x3_1 T1 n1 h2 ρ its hS hdr => ?_
 refine as_ ?_
 refine dn ?_
 refine CV.seq ?_
 refine sr ?_
 refine vy (V.fa h2 rfl Vdf.fo172_0) fun x5_2 h3 => ?_
 refine vy (V.ld hS h3 rfl Vdf.one3) fun x6_3 h4 => ?_
 refine dn ?_
 refine CV.block ?_
 refine cs3 X 4 6 7 [] (g121_k1 ro) ?_ ?_
 ·
  refine sr ?_
  refine vy (V.eq h4 rfl rfl) fun x8_5 h9 => ?_
  refine as_ ?_
  refine dn ?_
  refine CV.cond h9 rfl (fun e h10 => ?_) (fun e h10 => ?_)
  ·
   clear h1 h2 h3 h4 h9
   subst e
   refine CV.skip ?_
   exact pa3 hS h10 ⟨rfl, rfl, rfl, trivial⟩
  ·
   clear h1 h2 h3 h4 h9
   subst e
   refine sr ?_
   refine vy (V.eq h10 rfl rfl) fun x9_6 h11 => ?_
   refine as_ ?_
   refine dn ?_
   refine CV.cond h11 rfl (fun e h12 => ?_) (fun e h12 => ?_)
   ·
    clear h10 h11
    subst e
    refine CV.skip ?_
    exact pa3 hS h12 ⟨rfl, rfl, rfl, trivial⟩
   ·
    clear h10 h11
    subst e
    refine sr ?_
    refine vy (V.eq h12 rfl rfl) fun x10_7 h13 => ?_
    refine as_ ?_
    refine dn ?_
    refine CV.cond h13 rfl (fun e h14 => ?_) (fun e h14 => ?_)
    ·
     clear h12 h13
     subst e
     refine CV.skip ?_
     exact pa3 hS h14 ⟨rfl, rfl, rfl, trivial⟩
    ·
     clear h12 h13
     subst e
     refine sr ?_
     refine vy (V.eq h14 rfl rfl) fun x11_8 h15 => ?_
     refine as_ ?_
     refine dn ?_
     refine CV.cond h15 rfl (fun e h16 => ?_) (fun e h16 => ?_)
     ·
      clear h14 h15
      subst e
      refine CV.skip ?_
      exact pa3 hS h16 ⟨rfl, rfl, rfl, trivial⟩
     ·
      clear h14 h15
      subst e
      refine sr ?_
      refine vy (V.eq h16 rfl rfl) fun x12_9 h17 => ?_
      refine as_ ?_
      refine dn ?_
      refine CV.cond h17 rfl (fun e h18 => ?_) (fun e h18 => ?_)
      ·
       clear h16 h17
       subst e
       refine CV.skip ?_
       exact pa3 hS h18 ⟨rfl, rfl, rfl, trivial⟩
      ·
       clear h16 h17
       subst e
       refine sr ?_
       refine vy (V.eq h18 rfl rfl) fun x13_10 h19 => ?_
       refine as_ ?_
       refine dn ?_
       refine CV.cond h19 rfl (fun e h20 => ?_) (fun e h20 => ?_)
       ·
        clear h18 h19
        subst e
        refine CV.skip ?_
        exact pa3 hS h20 ⟨rfl, rfl, rfl, trivial⟩
       ·
        clear h18 h19
        subst e
        refine sr ?_
        refine vy (V.eq h20 rfl rfl) fun x14_11 h21 => ?_
        refine as_ ?_
        refine dn ?_
        refine CV.cond h21 rfl (fun e h22 => ?_) (fun e h22 => ?_)
        ·
         clear h20 h21
         subst e
         refine CV.skip ?_
         exact pa3 hS h22 ⟨rfl, rfl, rfl, trivial⟩
        ·
         clear h20 h21
         subst e
         refine CV.region ?_
         refine vy (V.eq h22 rfl rfl) fun x15_12 h23 => ?_
         refine as_ ?_
         refine LV.done ?_
         exact pa3 hS h23 ⟨rfl, rfl, rfl, trivial⟩
 ·
  intro y4 y6 y7 T2 n2 ρ its hS h5
  unfold g121_k1 at h5
  clear h1 h2 h3 h4
  refine CV.cond h5 rfl (fun e h6 => ?_) (fun e h6 => ?_)
  ·
   clear h5
   subst e
   refine sr ?_
   refine as_ ?_
   refine dn ?_
   refine CV.ret ?_
   refine PV.blockR ?_
   refine PV.thenR ?_
   cases h6
   exact PV.ret (by simp) Tryz.results121 hS (RS.tmp rfl RS.nil) rfl
  ·
   clear h5
   subst e
   refine sr ?_
   refine vy (V.eq h6 rfl rfl) fun x17_4 h7 => ?_
   refine as_ ?_
   refine dn ?_
   refine CV.cond h7 rfl (fun e h8 => ?_) (fun e h8 => ?_)
   ·
    clear h6 h7
    subst e
    cases h8
   ·
    clear h6 h7
    subst e
    refine CV.skip ?_
    refine PV.blockN ?_
    refine PV.thenN ?_
    refine sr ?_
    refine as_ ?_
    refine dn ?_
    refine CV.ret ?_
    cases h8
    exact PV.ret (by simp) Tryz.results121 hS (RS.tmp rfl RS.nil) rfl
noncomputable def g224 (ro : List HT) (a0 a1 : AV) (T : HT) (nx : Nat) : R :=
 callK (g260 ro a0 a1 T nx) fun x8_1 T1 n1 =>
 notK 2240006 x8_1 fun x9_2 =>
 condK 2240007 x9_2
 (
  .ok (.val (.tup [a0, (.lit (.bool false))])) T1 n1
 )
 (
  lenTK 2240013 a1 fun x13_3 =>
  sliceF 2240014 a0 (some x13_3) none fun x14_4 =>
  .ok (.val (.tup [x14_4, (.lit (.bool true))])) T1 n1
 )
theorem g224_ok (ro : List HT) (a0 a1 : AV) (T : HT) (nx : Nat) : GOk Tryz.prog envE 224 [a0, a1] ro T nx (g224 ro a0 a1 T nx) := by
 refine GOk.of_body Tryz.func224 rfl Tryz.ntmps224 (by kernel_rfl) rfl fun r T' n' h1 w0 base ρ0 its hS hP => ?_
 have X : CtxW envE ρ0 ro r T' n' := trivial
 unfold g224 at h1
 refine sr ?_
 refine as_ ?_
 refine as_ ?_
 refine dn ?_
 refine CV.seq ?_
 refine sr ?_
 refine mv ?_
 refine mv ?_
 refine LV.call hS h1 (g260_ok _ _ _ _ _ ) hP rfl rfl rfl rfl fun x8_1 T1 n1 h2 ρ its hS => ?_
 refine vy (V.not h2 rfl) fun x9_2 h3 => ?_
 refine dn ?_
 refine CV.cond h3 rfl (fun e h4 => ?_) (fun e h4 => ?_)
 ·
  clear h1 h2 h3
  subst e
  refine sr ?_
  refine mv ?_
  refine as_ ?_
  refine as_ ?_
  refine dn ?_
  refine CV.ret ?_
  refine PV.thenR ?_
  cases h4
  exact PV.ret (by simp) Tryz.results224 hS (RS.tmp rfl (RS.tmp rfl RS.nil)) rfl
 ·
  clear h1 h2 h3
  subst e
  refine CV.skip ?_
  refine PV.thenN ?_
  refine sr ?_
  refine mv ?_
  refine mv ?_
  refine vy (V.lenT h4 rfl Vdf.ls9) fun x13_3 h5 => ?_
  refine vy (V.slLo (sliceF_ok h5) rfl rfl Vdf.st9) fun x14_4 h6 => ?_
  refine as_ ?_
  refine as_ ?_
  refine dn ?_
  refine CV.ret ?_
  cases h6
  exact PV.ret (by simp) Tryz.results224 hS (RS.tmp rfl (RS.tmp rfl RS.nil)) rfl
noncomputable def g162 (ro : List HT) (a0 a1 : AV) (T : HT) (nx : Nat) : R :=
 callK (g224 ro a0 a1 T nx) fun x8_1 T1 n1 =>
 exK 1620006 x8_1 0 fun x9_2 =>
 exK 1620007 x8_1 1 fun x10_3 =>
 .ok (.val (.tup [x9_2, x10_3])) T1 n1
theorem g162_ok (ro : List HT) (a0 a1 : AV) (T : HT) (nx : Nat) : GOk Tryz.prog envE 162 [a0, a1] ro T nx (g162 ro a0 a1 T nx) := by
 refine GOk.of_body Tryz.func162 rfl Tryz.ntmps162 (by kernel_rfl) rfl fun r T' n' h1 w0 base ρ0 its hS hP => ?_
 have X : CtxW envE ρ0 ro r T' n' := trivial
 unfold g162 at h1
 refine sr ?_
 refine as_ ?_
 refine as_ ?_
 refine dn ?_
 refine sr ?_
 refine mv ?_
 refine mv ?_
 refine LV.call hS h1 (g224_ok _ _ _ _ _ ) hP rfl rfl rfl rfl fun x8_1 T1 n1 h2 ρ its hS => ?_
 refine vy (V.ex h2 rfl) fun x9_2 h3 => ?_
 refine vy (V.ex h3 rfl) fun x10_3 h4 => ?_
 refine as_ ?_
 refine as_ ?_
 refine dn ?_
 refine CV.ret ?_
 cases h4
 exact PV.ret (by simp) Tryz.results162 hS (RS.tmp rfl (RS.tmp rfl RS.nil)) rfl
noncomputable def g123_k3 (ro : List HT) (lp2 : AV → AV → AV → AV → AV → AV → HT → Nat → R) (y2 y3 y4 y5 y34 y35 y47 : AV) (T5 : HT) (n5 : Nat) : R :=
 condK 1230028 y47
 (
  .bad 1230029
 )
 (
  addK Tryz.prog 3 (.tmp 35) (.const (.int .i64 (.ofNat 1))) 1230030 y35 (.lit (.int .i64 (.ofNat 1))) fun x50_10 =>
  lp2 y2 y3 y4 y5 y34 x50_10 T5 n5
 )
noncomputable def g123_b5 (ro : List HT) (lp4 : AV → AV → AV → AV → AV → AV → HT → Nat → R) (lp5 : AV → AV → AV → AV → AV → AV → AV → AV → HT → Nat → R) (y2 y3 y4 y5 y7 y8 y9 y10 : AV) (T7 : HT) (n7 : Nat) : R :=
 ltK Tryz.prog 3 (.tmp 65) (.tmp 66) 1230060 y10 y8 fun x67_19 =>
 condK 1230061 x67_19
 (
  bin0 Tryz.prog .mul 69 (.tmp 70) (.const (.int .u32 (.ofNat 10))) 1230063 y9 (.lit (.int .u32 (.ofNat 10))) fun x71_20 =>
  ixK 1230066 y4 y10 fun x74_21 =>
  bin0 Tryz.prog .sub 5 (.tmp 74) (.const (.int .u8 (.ofNat 48))) 1230067 x74_21 (.lit (.int .u8 (.ofNat 48))) fun x75_22 =>
  optK 1230068 (convV Tryz.prog 5 69 x75_22) fun x76_23 =>
  bin0 Tryz.prog .add 69 (.tmp 71) (.tmp 76) 1230069 x71_20 x76_23 fun x77_24 =>
  addK Tryz.prog 3 (.tmp 68) (.const (.int .i64 (.ofNat 1))) 1230072 y10 (.lit (.int .i64 (.ofNat 1))) fun x69_25 =>
  lp5 y2 y3 y4 y5 y7 y8 x77_24 x69_25 T7 n7
 )
 (
  bsK 1230076 T7 n7 1 69 1 [(0, y9)] fun x80_26 T8 n8 =>
  shrK 1230078 T8 y7 fun T9 =>
  appEK 1230077 T9 ro n8 69 1 4 y7 x80_26 fun x81_27 T10 n10 =>
  subK Tryz.prog 3 (.tmp 60) (.const (.int .i64 (.ofNat 9))) 1230081 y8 (.lit (.int .i64 (.ofNat 9))) fun x61_28 =>
  lp4 y2 y3 y4 y5 x81_27 x61_28 T10 n10
 )
noncomputable def g123_b4 (ro : List HT) (lp4 : AV → AV → AV → AV → AV → AV → HT → Nat → R) (y2 y3 y4 y5 y7 y8 : AV) (T6 : HT) (n6 : Nat) : R :=
 gtK Tryz.prog 3 (.tmp 58) (.const (.int .i64 (.ofNat 0))) 1230050 y8 (.lit (.int .i64 (.ofNat 0))) fun x59_16 =>
 condK 1230051 x59_16
 (
  subK Tryz.prog 3 (.tmp 62) (.const (.int .i64 (.ofNat 9))) 1230054 y8 (.lit (.int .i64 (.ofNat 9))) fun x63_17 =>
  optK 1230055 (mmV (.lit (.int .i64 (.ofNat 0))) x63_17 true) fun x64_18 =>
  lpf8 1230057 (g123_b5 ro lp4) 100000 y2 y3 y4 y5 y7 y8 (.lit (.int .u32 (.ofNat 0))) x64_18 T6 n6
 )
 (
  callK (g31 ro y5 y7 T6 n6) fun x84_29 T11 n11 =>
  stAK 1230086 T11 y2 x84_29 2 fun T12 =>
  ldAK 1230088 T12 ro y2 2 fun x2_30 =>
  .ok (.val (.tup [x2_30, (.lit (.nilIface))])) T12 n11
 )
noncomputable def g123_b2 (ro : List HT) (lp2 : AV → AV → AV → AV → AV → AV → HT → Nat → R) (y2 y3 y4 y5 y34 y35 : AV) (T4 : HT) (n4 : Nat) : R :=
 ltK Tryz.prog 3 (.tmp 35) (.tmp 34) 1230019 y35 y34 fun x36_7 =>
 condK 1230020 x36_7
 (
  ixK 1230025 y4 y35 fun x40_8 =>
  ltK Tryz.prog 5 (.tmp 40) (.const (.int .u8 (.ofNat 48))) 1230026 x40_8 (.lit (.int .u8 (.ofNat 48))) fun x41_9 =>
  condK 1230032 x41_9
  (
   g123_k3 ro lp2 y2 y3 y4 y5 y34 y35 (.lit (.bool true)) T4 n4
  )
  (
   ixK 1230036 y4 y35 fun x45_11 =>
   gtK Tryz.prog 5 (.tmp 45) (.const (.int .u8 (.ofNat 57))) 1230037 x45_11 (.lit (.int .u8 (.ofNat 57))) fun x46_12 =>
   g123_k3 ro lp2 y2 y3 y4 y5 y34 y35 x46_12 T4 n4
  )
 )
 (
  lenTK 1230040 y4 fun x52_13 =>
  gtK Tryz.prog 3 (.tmp 52) (.const (.int .i64 (.ofNat 2400))) 1230041 x52_13 (.lit (.int .i64 (.ofNat 2400))) fun x53_14 =>
  condK 1230042 x53_14
  (
   .bad 1230043
  )
  (
   lenTK 1230046 y4 fun x57_15 =>
   lpf6 1230048 (g123_b4 ro) 100000 y2 y3 y4 y5 (.lit (.slice none 0 0)) x57_15 T4 n4
  )
 )
noncomputable def g123_k1 (ro : List HT) (y2 y4 y5 y30 : AV) (T3 : HT) (n3 : Nat) : R :=
 condK 1230013 y30
 (
  .bad 1230014
 )
 (
  lenTK 1230016 y4 fun x34_6 =>
  lpf6 1230018 (g123_b2 ro) 100000 y2 (.lit (.nilIface)) y4 y5 x34_6 (.lit (.int .i64 (.ofNat 0))) T3 n3
 )
noncomputable def g123_k6 (ro : List HT) (y2 y4 y5 y29 : AV) (T13 : HT) (n13 : Nat) : R :=
 g123_k1 ro y2 y4 y5 y29 T13 n13
noncomputable def g123_k7 (ro : List HT) (y2 y4 y5 y28 : AV) (T14 : HT) (n14 : Nat) : R :=
 g123_k6 ro y2 y4 y5 y28 T14 n14
noncomputable def g123 (ro : List HT) (a0 : AV) (T : HT) (nx : Nat) : R :=
 newK T nx (.obj [.lit (.bool false), .lit (.slice none 0 0)] 29) fun x2_1 T1 n1 =>
 callK (g162 ro a0 (.lit (.string ⟨⟨[45]⟩⟩)) T1 n1) fun x13_2 T2 n2 =>
 exK 1230006 x13_2 0 fun x14_3 =>
 exK 1230007 x13_2 1 fun x15_4 =>
 eqSK Tryz.prog 9 (.tmp 16) (.const (.string ⟨⟨[]⟩⟩)) 1230011 x14_3 (.lit (.string ⟨⟨[]⟩⟩)) fun x17_5 =>
 condK 1230089 x17_5
 (
  g123_k1 ro x2_1 x14_3 x15_4 (.lit (.bool true)) T2 n2
 )
 (
  ixK 1230092 x14_3 (.lit (.int .i64 (.ofNat 0))) fun x20_31 =>
  eqK Tryz.prog 5 (.tmp 20) (.const (.int .u8 (.ofNat 48))) 1230093 x20_31 (.lit (.int .u8 (.ofNat 48))) fun x21_32 =>
  condK 1230096 x21_32
  (
   lenTK 1230098 x14_3 fun x24_33 =>
   gtK Tryz.prog 3 (.tmp 24) (.const (.int .i64 (.ofNat 1))) 1230099 x24_33 (.lit (.int .i64 (.ofNat 1))) fun x25_34 =>
   condK 1230102 x25_34
   (
    g123_k7 ro x2_1 x14_3 x15_4 (.lit (.bool true)) T2 n2
   )
   (
    g123_k7 ro x2_1 x14_3 x15_4 x15_4 T2 n2
   )
  )
  (
   g123_k6 ro x2_1 x14_3 x15_4 (.lit (.bool false)) T2 n2
  )
 )
theorem g123_ok (ro : List HT) (a0 : AV) (T : HT) (nx : Nat) : GOk Tryz.prog envE 123 [a0] ro T nx (g123 ro a0 T nx) := by
 refine GOk.of_body Tryz.func123 rfl Tryz.ntmps123 (by kernel_rfl) rfl fun r T' n' h1 w0 base ρ0 its hS hP => ?_
 have X : CtxW envE ρ0 ro r T' n' := trivial
 unfold g123 at h1
 refine sr ?_
 refine LV.alloc hS h1 rfl Vdf.zr29 rfl rfl rfl fun x2_1 T1 n1 h2 ρ its hS hdr => ?_
 refine as_ ?_
 refine dn ?_
 refine sr ?_
 refine mv ?_
 refine LV.call hS h2 (g162_ok _ _ _ _ _ ) hP rfl rfl rfl rfl fun x13_2 T2 n2 h3 ρ its hS => ?_
 refine mv ?_
 refine vy (V.ex h3 rfl) fun x14_3 h4 => ?_
 refine vy (V.ex h4 rfl) fun x15_4 h5 => ?_
 refine as_ ?_
 refine as_ ?_
 refine dn ?_
 refine CV.seq ?_
 refine sr ?_
 refine mv ?_
 refine vy (V.eqS h5 rfl rfl) fun x17_5 h6 => ?_
 refine mv ?_
 refine ls4 X 2 4 5 30 [(3, (.lit (.nilIface)))] (g123_k1 ro) 12 ?_ ?_
 ·
  rcases condK_inv h6 with ⟨e, h46⟩ | ⟨e, h46⟩
  ·
   clear h1 h2 h3 h4 h5 h6
   subst e
   refine sk ?_
   refine sk ?_
   refine sk ?_
   refine sk ?_
   refine sk ?_
   refine sk ?_
   refine sk ?_
   refine sk ?_
   refine sk ?_
   refine sk ?_
   refine sk ?_
   refine pu ?_
   exact la4 hS h46 ⟨rfl, rfl, rfl, rfl, rfl, trivial⟩
  ·
   clear h1 h2 h3 h4 h5 h6
   subst e
   refine mv ?_
   refine vy (V.ix h46 rfl rfl Vdf.st9) fun x20_31 h47 => ?_
   refine vy (V.eq h47 rfl rfl) fun x21_32 h48 => ?_
   refine mv ?_
   refine ls4 X 2 4 5 29 [(3, (.lit (.nilIface))), (18, (.lit (.bool false)))] (g123_k6 ro) 7 ?_ ?_
   ·
    rcases condK_inv h48 with ⟨e, h50⟩ | ⟨e, h50⟩
    ·
     clear h46 h47 h48
     subst e
     refine mv ?_
     refine vy (V.lenT h50 rfl Vdf.ls9) fun x24_33 h51 => ?_
     refine vy (V.gt h51 rfl rfl) fun x25_34 h52 => ?_
     refine mv ?_
     refine ls4 X 2 4 5 28 [(3, (.lit (.nilIface))), (18, (.lit (.bool false))), (22, (.lit (.bool true)))] (g123_k7 ro) 2 ?_ ?_
     ·
      rcases condK_inv h52 with ⟨e, h54⟩ | ⟨e, h54⟩
      ·
       clear h50 h51 h52
       subst e
       refine sk ?_
       refine pu ?_
       exact la4 hS h54 ⟨rfl, rfl, rfl, rfl, rfl, rfl, rfl, trivial⟩
      ·
       clear h50 h51 h52
       subst e
       refine mv ?_
       refine pu ?_
       exact la4 hS h54 ⟨rfl, rfl, rfl, rfl, rfl, rfl, rfl, trivial⟩
     ·
      intro y2 y4 y5 y28 T14 n14 ρ its hS h53
      unfold g123_k7 at h53
      clear h50 h51 h52
      refine pu ?_
      exact la4 hS h53 ⟨rfl, rfl, rfl, rfl, rfl, rfl, trivial⟩
    ·
     clear h46 h47 h48
     subst e
     refine sk ?_
     refine sk ?_
     refine sk ?_
     refine sk ?_
     refine sk ?_
     refine sk ?_
     refine pu ?_
     exact la4 hS h50 ⟨rfl, rfl, rfl, rfl, rfl, rfl, trivial⟩
   ·
    intro y2 y4 y5 y29 T13 n13 ρ its hS h49
    unfold g123_k6 at h49
    clear h46 h47 h48
    refine pu ?_
    exact la4 hS h49 ⟨rfl, rfl, rfl, rfl, rfl, trivial⟩
 ·
  intro y2 y4 y5 y30 T3 n3 ρ its hS h7
  unfold g123_k1 at h7
  clear h1 h2 h3 h4 h5 h6
  refine dn ?_
  refine CV.cond h7 rfl (fun e h8 => ?_) (fun e h8 => ?_)
  ·
   clear h7
   subst e
   cases h8
  ·
   clear h7
   subst e
   refine CV.skip ?_
   refine PV.thenN ?_
   refine CV.seq ?_
   refine sr ?_
   refine mv ?_
   refine vy (V.lenT h8 rfl Vdf.ls9) fun x34_6 h9 => ?_
   refine mv ?_
   refine dn ?_
   refine CV.block ?_
   refine cl6 X 2 3 4 5 34 35 [] hS h9 ⟨rfl, rfl, rfl, rfl, rfl, rfl, trivial⟩ ?_
   intro f2 y2 y3 y4 y5 y34 y35 T4 n4 ρ its hS h10
   unfold g123_b2 at h10
   clear h8 h9
   refine sr ?_
   refine vy (V.lt h10 rfl rfl) fun x36_7 h11 => ?_
   refine dn ?_
   refine CV.seq ?_
   refine CV.cond h11 rfl (fun e h12 => ?_) (fun e h12 => ?_)
   ·
    clear h10 h11
    subst e
    refine CV.skip ?_
    refine PV.thenN ?_
    refine CV.seq ?_
    refine CV.block ?_
    refine sr ?_
    refine mv ?_
    refine as_ ?_
    refine dn ?_
    refine sr ?_
    refine mv ?_
    refine mv ?_
    refine vy (V.ix h12 rfl rfl Vdf.st9) fun x40_8 h13 => ?_
    refine vy (V.lt h13 rfl rfl) fun x41_9 h14 => ?_
    refine mv ?_
    refine ls7 X 2 3 4 5 34 35 47 [] (g123_k3 ro (lpf6 1230018 (g123_b2 ro) f2)) 5 ?_ ?_
    ·
     rcases condK_inv h14 with ⟨e, h18⟩ | ⟨e, h18⟩
     ·
      clear h12 h13 h14
      subst e
      refine sk ?_
      refine sk ?_
      refine sk ?_
      refine sk ?_
      refine pu ?_
      exact la7 hS h18 ⟨rfl, rfl, rfl, rfl, rfl, rfl, rfl, trivial⟩
     ·
      clear h12 h13 h14
      subst e
      refine mv ?_
      refine mv ?_
      refine vy (V.ix h18 rfl rfl Vdf.st9) fun x45_11 h19 => ?_
      refine vy (V.gt h19 rfl rfl) fun x46_12 h20 => ?_
      refine pu ?_
      exact la7 hS h20 ⟨rfl, rfl, rfl, rfl, rfl, rfl, rfl, trivial⟩
    ·
     intro y2 y3 y4 y5 y34 y35 y47 T5 n5 ρ its hS h15
     unfold g123_k3 at h15
     clear h12 h13 h14
     refine dn ?_
     refine CV.cond h15 rfl (fun e h16 => ?_) (fun e h16 => ?_)
     ·
      clear h15
      subst e
      cases h16
     ·
      clear h15
      subst e
      refine CV.skip ?_
      refine PV.blockN ?_
      refine PV.thenN ?_
      refine CV.region ?_
      refine vy (V.add h16 rfl rfl) fun x50_10 h17 => ?_
      refine mv ?_
      refine LV.done ?_
      exact pb6 hS h17 ⟨rfl, rfl, rfl, rfl, rfl, rfl, trivial⟩
   ·
    clear h10 h11
    subst e
    refine CV.exit ?_
    refine PV.thenE ?_
    refine PV.thenE ?_
    refine PV.blockE ?_
    refine PV.thenN ?_
    refine CV.seq ?_
    refine sr ?_
    refine mv ?_
    refine vy (V.lenT h12 rfl Vdf.ls9) fun x52_13 h21 => ?_
    refine vy (V.gt h21 rfl rfl) fun x53_14 h22 => ?_
    refine dn ?_
    refine CV.cond h22 rfl (fun e h23 => ?_) (fun e h23 => ?_)
    ·
     clear h12 h21 h22
     subst e
     cases h23
    ·
     clear h12 h21 h22
     subst e
     refine CV.skip ?_
     refine PV.thenN ?_
     refine sr ?_
     refine as_ ?_
     refine dn ?_
     refine CV.seq ?_
     refine sr ?_
     refine mv ?_
     refine vy (V.lenT h23 rfl Vdf.ls9) fun x57_15 h24 => ?_
     refine as_ ?_
     refine dn ?_
     refine CV.block ?_
     refine cl6 X 2 3 4 5 7 8 [] hS h24 ⟨rfl, rfl, rfl, rfl, rfl, rfl, trivial⟩ ?_
     intro f4 y2 y3 y4 y5 y7 y8 T6 n6 ρ its hS h25
     unfold g123_b4 at h25
     clear h23 h24
     refine CV.seq ?_
     refine sr ?_
     refine mv ?_
     refine vy (V.gt h25 rfl rfl) fun x59_16 h26 => ?_
     refine dn ?_
     refine CV.cond h26 rfl (fun e h27 => ?_) (fun e h27 => ?_)
     ·
      clear h25 h26
      subst e
      refine CV.skip ?_
      refine PV.thenN ?_
      refine CV.seq ?_
      refine CV.block ?_
      refine sr ?_
      refine as_ ?_
      refine dn ?_
      refine CV.seq ?_
      refine sr ?_
      refine mv ?_
      refine vy (V.sub h27 rfl rfl) fun x63_17 h28 => ?_
      refine vy (V.max h28 rfl rfl) fun x64_18 h29 => ?_
      refine as_ ?_
      refine dn ?_
      refine CV.block ?_
      refine cl8 X 2 3 4 5 7 8 9 10 [] hS h29 ⟨rfl, rfl, rfl, rfl, rfl, rfl, rfl, rfl, trivial⟩ ?_
      intro f5 y2 y3 y4 y5 y7 y8 y9 y10 T7 n7 ρ its hS h30
      unfold g123_b5 at h30
      clear h27 h28 h29
      refine CV.seq ?_
      refine sr ?_
      refine mv ?_
      refine mv ?_
      refine vy (V.lt h30 rfl rfl) fun x67_19 h31 => ?_
      refine dn ?_
      refine CV.cond h31 rfl (fun e h32 => ?_) (fun e h32 => ?_)
      ·
       clear h30 h31
       subst e
       refine CV.skip ?_
       refine PV.thenN ?_
       refine CV.seq ?_
       refine CV.block ?_
       refine CV.region ?_
       refine mv ?_
       refine vy (V.bin0 h32 rfl rfl) fun x71_20 h33 => ?_
       refine mv ?_
       refine mv ?_
       refine vy (V.ix h33 rfl rfl Vdf.st9) fun x74_21 h34 => ?_
       refine vy (V.bin0 h34 rfl rfl) fun x75_22 h35 => ?_
       refine vy (V.conv h35 rfl) fun x76_23 h36 => ?_
       refine vy (V.bin0 h36 rfl rfl) fun x77_24 h37 => ?_
       refine as_ ?_
       refine LV.done ?_
       refine PV.blockN ?_
       refine PV.thenN ?_
       refine CV.region ?_
       refine mv ?_
       refine vy (V.add h37 rfl rfl) fun x69_25 h38 => ?_
       refine as_ ?_
       refine LV.done ?_
       exact pb8 hS h38 ⟨rfl, rfl, rfl, rfl, rfl, rfl, rfl, rfl, trivial⟩
      ·
       clear h30 h31
       subst e
       refine CV.exit ?_
       refine PV.thenE ?_
       refine PV.thenE ?_
       refine PV.blockE ?_
       refine PV.thenN ?_
       refine CV.region ?_
       refine mv ?_
       refine mv ?_
       refine LV.bslice hS h32 rfl rfl Vdf.el27 rfl rfl rfl rfl fun x80_26 T8 n8 h39 ρ its hS hdr => ?_
       obtain ⟨T9, its1, h40, hS, hW⟩ := shrK_inv hS h39
       refine LV.world hW ?_
       refine LV.appE hS h40 rfl rfl rfl rfl Vdf.el27 rfl rfl rfl fun x81_27 T10 n10 h41 ρ its hS => ?_
       refine as_ ?_
       refine LV.done ?_
       refine PV.blockN ?_
       refine PV.thenN ?_
       refine CV.region ?_
       refine mv ?_
       refine vy (V.sub h41 rfl rfl) fun x61_28 h42 => ?_
       refine as_ ?_
       refine LV.done ?_
       exact pb6 hS h42 ⟨rfl, rfl, rfl, rfl, rfl, rfl, trivial⟩
     ·
      clear h25 h26
      subst e
      refine CV.exit ?_
      refine PV.thenE ?_
      refine PV.thenE ?_
      refine PV.blockE ?_
      refine PV.thenN ?_
      refine sr ?_
      refine mv ?_
      refine mv ?_
      refine LV.call hS h27 (g31_ok _ _ _ _ _ ) hP rfl rfl rfl rfl fun x84_29 T11 n11 h43 ρ its hS => ?_
      refine LV.stA hS h43 rfl rfl rfl Vdf.agg29 rfl rfl rfl fun T12 its h44 hS => ?_
      refine as_ ?_
      refine dn ?_
      refine CV.ret ?_
      refine PV.ldA (x := .tmp 2) (t := 29) hS h44 rfl Vdf.agg29 fun x2_30 h45 hVx2_30 => ?_
      cases h45
      exact PV.ret (by simp) Tryz.results123 hS (RS.cell hVx2_30 (RS.tmp rfl RS.nil)) rfl
noncomputable def g16 (ro : List HT) (T : HT) (nx : Nat) : R :=
 mkmK T nx fun x1_1 T1 n1 =>
 optK 160003 (bld98 [(2, x1_1)]) fun x2_2 =>
 boxK 160004 T1 n1 x2_2 98 fun x3_3 T2 n2 =>
 .ok (.val x3_3) T2 n2
theorem g16_ok (ro : List HT) (T : HT) (nx : Nat) : GOk Tryz.prog envE 16 [] ro T nx (g16 ro T nx) := by
 refine GOk.of_body Tryz.func16 rfl Tryz.ntmps16 (by kernel_rfl) rfl fun r T' n' h1 w0 base ρ0 its hS hP => ?_
 have X : CtxW envE ρ0 ro r T' n' := trivial
 unfold g16 at h1
 refine sr ?_
 refine as_ ?_
 refine dn ?_
 refine sr ?_
 refine LV.mkm hS h1 rfl rfl rfl rfl fun x1_1 T1 n1 h2 ρ its hS hdr => ?_
 refine vy (V.bld h2 rfl) fun x2_2 h3 => ?_
 refine LV.box hS h3 rfl rfl rfl rfl rfl fun x3_3 T2 n2 h4 ρ its hS hdr => ?_
 refine as_ ?_
 refine dn ?_
 refine CV.ret ?_
 cases h4
 exact PV.ret (by simp) Tryz.results16 hS (RS.tmp rfl RS.nil) rfl
noncomputable def g96 (ro : List HT) (a0 a1 : AV) (T : HT) (nx : Nat) : R :=
 condK 960003 a1
 (
  shrK 960006 T a0 fun T1 =>
  appTK 960005 T1 nx 5 a0 (.lit (.string ⟨⟨[116, 114, 117, 101]⟩⟩)) fun x7_1 T2 n2 =>
  .ok (.val x7_1) T2 n2
 )
 (
  shrK 960010 T a0 fun T3 =>
  appTK 960009 T3 nx 5 a0 (.lit (.string ⟨⟨[102, 97, 108, 115, 101]⟩⟩)) fun x9_2 T4 n4 =>
  .ok (.val x9_2) T4 n4
 )
theorem g96_ok (ro : List HT) (a0 a1 : AV) (T : HT) (nx : Nat) : GOk Tryz.prog envE 96 [a0, a1] ro T nx (g96 ro a0 a1 T nx) := by
 refine GOk.of_body Tryz.func96 rfl Tryz.ntmps96 (by kernel_rfl) rfl fun r T' n' h1 w0 base ρ0 its hS hP => ?_
 have X : CtxW envE ρ0 ro r T' n' := trivial
 unfold g96 at h1
 refine sr ?_
 refine as_ ?_
 refine dn ?_
 refine CV.seq ?_
 refine sr ?_
 refine mv ?_
 refine dn ?_
 refine CV.cond h1 rfl (fun e h2 => ?_) (fun e h2 => ?_)
 ·
  clear h1
  subst e
  refine sr ?_
  refine mv ?_
  obtain ⟨T1, its1, h3, hS, hW⟩ := shrK_inv hS h2
  refine LV.world hW ?_
  refine LV.appT hS h3 rfl rfl rfl rfl Vdf.el79 Vdf.st9 rfl rfl rfl fun x7_1 T2 n2 h4 ρ its hS => ?_
  refine as_ ?_
  refine dn ?_
  refine CV.ret ?_
  refine PV.thenR ?_
  cases h4
  exact PV.ret (by simp) Tryz.results96 hS (RS.tmp rfl RS.nil) rfl
 ·
  clear h1
  subst e
  refine CV.skip ?_
  refine PV.thenN ?_
  refine sr ?_
  refine mv ?_
  obtain ⟨T3, its1, h5, hS, hW⟩ := shrK_inv hS h2
  refine LV.world hW ?_
  refine LV.appT hS h5 rfl rfl rfl rfl Vdf.el79 Vdf.st9 rfl rfl rfl fun x9_2 T4 n4 h6 ρ its hS => ?_
  refine as_ ?_
  refine dn ?_
  refine CV.ret ?_
  cases h6
  exact PV.ret (by simp) Tryz.results96 hS (RS.tmp rfl RS.nil) rfl
noncomputable def g66 (ro : List HT) (a0 a1 : AV) (T : HT) (nx : Nat) : R :=
 callK (g96 ro a0 a1 T nx) fun x7_1 T1 n1 =>
 .ok (.val x7_1) T1 n1
theorem g66_ok (ro : List HT) (a0 a1 : AV) (T : HT) (nx : Nat) : GOk Tryz.prog envE 66 [a0, a1] ro T nx (g66 ro a0 a1 T nx) := by
 refine GOk.of_body Tryz.func66 rfl Tryz.ntmps66 (by kernel_rfl) rfl fun r T' n' h1 w0 base ρ0 its hS hP => ?_
 have X : CtxW envE ρ0 ro r T' n' := trivial
 unfold g66 at h1
 refine sr ?_
 refine as_ ?_
 refine dn ?_
 refine sr ?_
 refine mv ?_
 refine mv ?_
 refine LV.call hS h1 (g96_ok _ _ _ _ _ ) hP rfl rfl rfl rfl fun x7_1 T1 n1 h2 ρ its hS => ?_
 refine as_ ?_
 refine dn ?_
 refine CV.ret ?_
 cases h2
 exact PV.ret (by simp) Tryz.results66 hS (RS.tmp rfl RS.nil) rfl
noncomputable def g164 (ro : List HT) (a0 : AV) (T : HT) (nx : Nat) : R :=
 ltK Tryz.prog 3 (.tmp 3) (.const (.int .i64 (.ofNat 10))) 1640003 a0 (.lit (.int .i64 (.ofNat 10))) fun x4_1 =>
 condK 1640004 x4_1
 (
  addK Tryz.prog 3 (.tmp 6) (.const (.int .i64 (.ofNat 1))) 1640007 a0 (.lit (.int .i64 (.ofNat 1))) fun x7_2 =>
  sliceF 1640008 (.lit (.string ⟨⟨[48, 49, 50, 51, 52, 53, 54, 55, 56, 57, 97, 98, 99, 100, 101, 102, 103, 104, 105, 106, 107, 108, 109, 110, 111, 112, 113, 114, 115, 116, 117, 118, 119, 120, 121, 122]⟩⟩)) (some a0) (some x7_2) fun x8_3 =>
  .ok (.val x8_3) T nx
 )
 (
  bin0 Tryz.prog .mul 3 (.tmp 9) (.const (.int .i64 (.ofNat 2))) 1640011 a0 (.lit (.int .i64 (.ofNat 2))) fun x10_4 =>
  bin0 Tryz.prog .mul 3 (.tmp 11) (.const (.int .i64 (.ofNat 2))) 1640013 a0 (.lit (.int .i64 (.ofNat 2))) fun x12_5 =>
  addK Tryz.prog 3 (.tmp 12) (.const (.int .i64 (.ofNat 2))) 1640014 x12_5 (.lit (.int .i64 (.ofNat 2))) fun x13_6 =>
  sliceF 1640015 (.lit (.string ⟨⟨[48, 48, 48, 49, 48, 50, 48, 51, 48, 52, 48, 53, 48, 54, 48, 55, 48, 56, 48, 57, 49, 48, 49, 49, 49, 50, 49, 51, 49, 52, 49, 53, 49, 54, 49, 55, 49, 56, 49, 57, 50, 48, 50, 49, 50, 50, 50, 51, 50, 52, 50, 53, 50, 54, 50, 55, 50, 56, 50, 57, 51, 48, 51, 49, 51, 50, 51, 51, 51, 52, 51, 53, 51, 54, 51, 55, 51, 56, 51, 57, 52, 48, 52, 49, 52, 50, 52, 51, 52, 52, 52, 53, 52, 54, 52, 55, 52, 56, 52, 57, 53, 48, 53, 49, 53, 50, 53, 51, 53, 52, 53, 53, 53, 54, 53, 55, 53, 56, 53, 57, 54, 48, 54, 49, 54, 50, 54, 51, 54, 52, 54, 53, 54, 54, 54, 55, 54, 56, 54, 57, 55, 48, 55, 49, 55, 50, 55, 51, 55, 52, 55, 53, 55, 54, 55, 55, 55, 56, 55, 57, 56, 48, 56, 49, 56, 50, 56, 51, 56, 52, 56, 53, 56, 54, 56, 55, 56, 56, 56, 57, 57, 48, 57, 49, 57, 50, 57, 51, 57, 52, 57, 53, 57, 54, 57, 55, 57, 56, 57, 57]⟩⟩)) (some x10_4) (some x13_6) fun x14_7 =>
  .ok (.val x14_7) T nx
 )
theorem g164_ok (ro : List HT) (a0 : AV) (T : HT) (nx : Nat) : GOk Tryz.prog envE 164 [a0] ro T nx (g164 ro a0 T nx) := by
 refine GOk.of_body Tryz.func164 rfl Tryz.ntmps164 (by kernel_rfl) rfl fun r T' n' h1 w0 base ρ0 its hS hP => ?_
 have X : CtxW envE ρ0 ro r T' n' := trivial
 unfold g164 at h1
 refine sr ?_
 refine as_ ?_
 refine dn ?_
 refine CV.seq ?_
 refine sr ?_
 refine mv ?_
 refine vy (V.lt h1 rfl rfl) fun x4_1 h2 => ?_
 refine dn ?_
 refine CV.cond h2 rfl (fun e h3 => ?_) (fun e h3 => ?_)
 ·
  clear h1 h2
  subst e
  refine sr ?_
  refine mv ?_
  refine mv ?_
  refine vy (V.add h3 rfl rfl) fun x7_2 h4 => ?_
  refine vy (V.slBo (sliceF_ok h4) rfl rfl rfl Vdf.st9) fun x8_3 h5 => ?_
  refine as_ ?_
  refine dn ?_
  refine CV.ret ?_
  refine PV.thenR ?_
  cases h5
  exact PV.ret (by simp) Tryz.results164 hS (RS.tmp rfl RS.nil) rfl
 ·
  clear h1 h2
  subst e
  refine CV.skip ?_
  refine PV.thenN ?_
  refine sr ?_
  refine mv ?_
  refine vy (V.bin0 h3 rfl rfl) fun x10_4 h6 => ?_
  refine mv ?_
  refine vy (V.bin0 h6 rfl rfl) fun x12_5 h7 => ?_
  refine vy (V.add h7 rfl rfl) fun x13_6 h8 => ?_
  refine vy (V.slBo (sliceF_ok h8) rfl rfl rfl Vdf.st9) fun x14_7 h9 => ?_
  refine as_ ?_
  refine dn ?_
  refine CV.ret ?_
  cases h9
  exact PV.ret (by simp) Tryz.results164 hS (RS.tmp rfl RS.nil) rfl

end Go.Proofs.YtlljgagoboapaaaGreatDoor.Vd
