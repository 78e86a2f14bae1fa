/-
  Proved here: plain functions that do what the program's functions do, each with its proof.
-/
import Derived.Test.YtdepmlcnllofiaaGreatDoorRnd
namespace Go.Proofs.YtdepmlcnllofiaaGreatDoor.Rn
open Go.EY Go.EX Go.SX Go.RowKit
noncomputable def g39_k1 (ih : FuncId → List HT → List AV → HT → Nat → R) (ro : List HT) (y10 : AV) (T3 : HT) (n3 : Nat) : R :=
 .ok (.val (.lit (.bool true))) T3 n3
noncomputable def g39_k6 (ih : FuncId → List HT → List AV → HT → Nat → R) (ro : List HT) (lp4 : AV → AV → AV → AV → AV → AV → AV → AV → AV → AV → HT → Nat → R) (y0 y1 y2 y3 y4 y10 y11 y39 y40 y41 y56 y57 y58 y59 y65 : AV) (T8 : HT) (n8 : Nat) : R :=
 callK (ih 39 ro [y56, y57, y58, y59, y65] T8 n8) fun x66_15 T9 n9 =>
 notK 390044 x66_15 fun x67_16 =>
 condK 390045 x67_16
 (
  .bad 390046
 )
 (
  addK Tryz.prog 3 (.tmp 41) (.const (.int .i64 (.ofNat 1))) 390047 y41 (.lit (.int .i64 (.ofNat 1))) fun x68_17 =>
  lp4 y0 y1 y2 y3 y4 y10 y11 y39 y40 x68_17 T9 n9
 )
noncomputable def g39_k5 (ih : FuncId → List HT → List AV → HT → Nat → R) (ro : List HT) (lp4 : AV → AV → AV → AV → AV → AV → AV → AV → AV → AV → HT → Nat → R) (y0 y1 y2 y3 y4 y10 y11 y13 y39 y40 y41 y55 : AV) (T7 : HT) (n7 : Nat) : R :=
 condK 390049 y4
 (
  g39_k6 ih ro lp4 y0 y1 y2 y3 (.lit (.bool true)) y10 y11 y39 y40 y41 y0 y13 y55 y3 (.lit (.bool true)) T7 n7
 )
 (
  faK 390051 y11 0 fun x62_18 =>
  ldK 390052 T7 ro x62_18 fun x63_19 =>
  eqK Tryz.prog 3 (.tmp 63) (.const (.int .i64 (.ofNat 44))) 390053 x63_19 (.lit (.int .i64 (.ofNat 44))) fun x64_20 =>
  g39_k6 ih ro lp4 y0 y1 y2 y3 (.lit (.bool false)) y10 y11 y39 y40 y41 y0 y13 y55 y3 x64_20 T7 n7
 )
noncomputable def g39_b4 (ih : FuncId → List HT → List AV → HT → Nat → R) (ro : List HT) (lp4 : AV → AV → AV → AV → AV → AV → AV → AV → AV → AV → HT → Nat → R) (y0 y1 y2 y3 y4 y10 y11 y39 y40 y41 : AV) (T6 : HT) (n6 : Nat) : R :=
 ltK Tryz.prog 3 (.tmp 41) (.tmp 40) 390029 y41 y40 fun x42_12 =>
 condK 390030 x42_12
 (
  iaK 390031 y39 y41 1 fun x43_13 =>
  ldK 390032 T6 ro x43_13 fun x44_14 =>
  condK 390055 y2
  (
   ncK 390058 y0 fun x49_21 =>
   faK 390059 x49_21 0 fun x50_22 =>
   ldK 390060 T6 ro x50_22 fun x51_23 =>
   lenSK 390061 x51_23 fun x52_24 =>
   subK Tryz.prog 3 (.tmp 52) (.const (.int .i64 (.ofNat 1))) 390062 x52_24 (.lit (.int .i64 (.ofNat 1))) fun x53_25 =>
   eqK Tryz.prog 3 (.tmp 47) (.tmp 53) 390063 y1 x53_25 fun x54_26 =>
   g39_k5 ih ro lp4 y0 y1 (.lit (.bool true)) y3 y4 y10 y11 x44_14 y39 y40 y41 x54_26 T6 n6
  )
  (
   g39_k5 ih ro lp4 y0 y1 (.lit (.bool false)) y3 y4 y10 y11 x44_14 y39 y40 y41 (.lit (.bool false)) T6 n6
  )
 )
 (
  g39_k1 ih ro y10 T6 n6
 )
noncomputable def g39_k8 (ih : FuncId → List HT → List AV → HT → Nat → R) (ro : List HT) (y10 y94 : AV) (T11 : HT) (n11 : Nat) : R :=
 .ok (.val y94) T11 n11
noncomputable def g39_k7 (ih : FuncId → List HT → List AV → HT → Nat → R) (ro : List HT) (y0 y10 y11 y82 : AV) (T10 : HT) (n10 : Nat) : R :=
 condK 390073 y82
 (
  faK 390075 y11 4 fun x85_28 =>
  ldK 390076 T10 ro x85_28 fun x86_29 =>
  faK 390077 y11 4 fun x87_30 =>
  ldK 390078 T10 ro x87_30 fun x88_31 =>
  lenSK 390079 x88_31 fun x89_32 =>
  subK Tryz.prog 3 (.tmp 89) (.const (.int .i64 (.ofNat 1))) 390080 x89_32 (.lit (.int .i64 (.ofNat 1))) fun x90_33 =>
  iaK 390081 x86_29 x90_33 1 fun x91_34 =>
  ldK 390082 T10 ro x91_34 fun x92_35 =>
  callK (ih 39 ro [y0, x92_35, (.lit (.bool false)), (.lit (.bool true)), (.lit (.bool false))] T10 n10) fun x93_36 T12 n12 =>
  g39_k8 ih ro y10 x93_36 T12 n12
 )
 (
  g39_k8 ih ro y10 (.lit (.bool false)) T10 n10
 )
noncomputable def g39_k3 (ih : FuncId → List HT → List AV → HT → Nat → R) (ro : List HT) (y0 y1 y2 y3 y4 y10 y11 y23 y34 : AV) (T5 : HT) (n5 : Nat) : R :=
 condK 390023 y34
 (
  faK 390024 y11 4 fun x38_9 =>
  ldK 390025 T5 ro x38_9 fun x39_10 =>
  lenSK 390026 x39_10 fun x40_11 =>
  lpf10 390028 (g39_b4 ih ro) 100000 y0 y1 y2 y3 y4 y10 y11 x39_10 x40_11 (.lit (.int .i64 (.ofNat 0))) T5 n5
 )
 (
  eqK Tryz.prog 3 (.tmp 23) (.const (.int .i64 (.ofNat 45))) 390066 y23 (.lit (.int .i64 (.ofNat 45))) fun x70_27 =>
  condK 390068 x70_27
  (
   condK 390086 y2
   (
    faK 390088 y11 4 fun x74_37 =>
    ldK 390089 T5 ro x74_37 fun x75_38 =>
    faK 390090 y11 4 fun x76_39 =>
    ldK 390091 T5 ro x76_39 fun x77_40 =>
    lenSK 390092 x77_40 fun x78_41 =>
    subK Tryz.prog 3 (.tmp 78) (.const (.int .i64 (.ofNat 1))) 390093 x78_41 (.lit (.int .i64 (.ofNat 1))) fun x79_42 =>
    cutHiK 390094 T5 ro x75_38 x79_42 fun x80_43 =>
    callK (g70 ro y0 x80_43 T5 n5) fun x81_44 T13 n13 =>
    g39_k7 ih ro y0 y10 y11 x81_44 T13 n13
   )
   (
    g39_k7 ih ro y0 y10 y11 (.lit (.bool false)) T5 n5
   )
  )
  (
   g39_k1 ih ro y10 T5 n5
  )
 )
noncomputable def g39_k2 (ih : FuncId → List HT → List AV → HT → Nat → R) (ro : List HT) (y0 y1 y2 y3 y4 y10 y11 y23 y24 : AV) (T4 : HT) (n4 : Nat) : R :=
 condK 390012 y24
 (
  .bad 390013
 )
 (
  eqK Tryz.prog 3 (.tmp 23) (.const (.int .i64 (.ofNat 41))) 390014 y23 (.lit (.int .i64 (.ofNat 41))) fun x29_7 =>
  condK 390016 x29_7
  (
   .ok (.val y3) T4 n4
  )
  (
   eqK Tryz.prog 3 (.tmp 23) (.const (.int .i64 (.ofNat 42))) 390019 y23 (.lit (.int .i64 (.ofNat 42))) fun x32_8 =>
   condK 390021 x32_8
   (
    .bad 390022
   )
   (
    eqK Tryz.prog 3 (.tmp 23) (.const (.int .i64 (.ofNat 47))) 390098 y23 (.lit (.int .i64 (.ofNat 47))) fun x35_45 =>
    condK 390100 x35_45
    (
     g39_k3 ih ro y0 y1 y2 y3 y4 y10 y11 y23 (.lit (.bool true)) T4 n4
    )
    (
     eqK Tryz.prog 3 (.tmp 23) (.const (.int .i64 (.ofNat 43))) 390101 y23 (.lit (.int .i64 (.ofNat 43))) fun x36_46 =>
     condK 390103 x36_46
     (
      g39_k3 ih ro y0 y1 y2 y3 y4 y10 y11 y23 (.lit (.bool true)) T4 n4
     )
     (
      eqK Tryz.prog 3 (.tmp 23) (.const (.int .i64 (.ofNat 44))) 390104 y23 (.lit (.int .i64 (.ofNat 44))) fun x37_47 =>
      g39_k3 ih ro y0 y1 y2 y3 y4 y10 y11 y23 x37_47 T4 n4
     )
    )
   )
  )
 )
noncomputable def g39 (ih : FuncId → List HT → List AV → HT → Nat → R) (ro : List HT) (a0 a1 a2 a3 a4 : AV) (T : HT) (nx : Nat) : R :=
 fldK 390003 T ro a0 0 fun x18_1 =>
 iaK 390005 x18_1 a1 5 fun x20_2 =>
 ldAK 390006 T ro x20_2 5 fun x21_3 =>
 newK T nx (.obj [.lit (.int .i64 0), .lit (.int .i64 0), .lit (.int .i64 0), .lit (.string ⟨#[]⟩), .lit (.slice none 0 0)] 32) fun x11_4 T1 n1 =>
 stAK 390008 T1 x11_4 x21_3 5 fun T2 =>
 faK 390010 x11_4 0 fun x22_5 =>
 ldK 390011 T2 ro x22_5 fun x23_6 =>
 eqK Tryz.prog 3 (.tmp 23) (.const (.int .i64 (.ofNat 39))) 390106 x23_6 (.lit (.int .i64 (.ofNat 39))) fun x25_48 =>
 condK 390108 x25_48
 (
  g39_k2 ih ro a0 a1 a2 a3 a4 (.lit (.bool false)) x11_4 x23_6 (.lit (.bool true)) T2 n1
 )
 (
  eqK Tryz.prog 3 (.tmp 23) (.const (.int .i64 (.ofNat 40))) 390109 x23_6 (.lit (.int .i64 (.ofNat 40))) fun x26_49 =>
  g39_k2 ih ro a0 a1 a2 a3 a4 (.lit (.bool false)) x11_4 x23_6 x26_49 T2 n1
 )
theorem g39_ok (ih : FuncId → List HT → List AV → HT → Nat → R) (hI : ∀ f ro args T nx, GOk Tryz.prog envE f args ro T nx (ih f ro args T nx)) (ro : List HT) (a0 a1 a2 a3 a4 : AV) (T : HT) (nx : Nat) : GOk Tryz.prog envE 39 [a0, a1, a2, a3, a4] ro T nx (g39 ih ro a0 a1 a2 a3 a4 T nx) := by
 refine GOk.of_body Tryz.func39 rfl Tryz.ntmps39 (by kernel_rfl) rfl fun r T' n' h1 w0 base ρ0 its hS hP => ?_
 have X : CtxW envE ρ0 ro r T' n' := trivial
 unfold g39 at h1
 refine sr ?_
 refine as_ ?_
 refine dn ?_
 refine sr ?_
 refine mv ?_
 refine fl hS h1 Rnf.fo69_0 Rnf.one23 fun x18_1 h2 => ?_
 refine mv ?_
 refine vy (V.ia h2 rfl rfl Rnf.el23) fun x20_2 h3 => ?_
 refine vy (V.ldA hS h3 rfl Rnf.agg32) fun x21_3 h4 => ?_
 refine LV.alloc hS h4 rfl Rnf.zr32 rfl rfl rfl fun x11_4 T1 n1 h5 ρ its hS hdr => ?_
 refine LV.stA hS h5 rfl rfl rfl Rnf.agg32 rfl rfl rfl fun T2 its h6 hS => ?_
 refine dn ?_
 refine cs1 X 10 [] (g39_k1 ih ro) ?_ ?_
 ·
  refine sr ?_
  refine vy (V.fa h6 rfl Rnf.fo32_0) fun x22_5 h8 => ?_
  refine vy (V.ld hS h8 rfl Rnf.one3) fun x23_6 h9 => ?_
  refine dn ?_
  refine CV.block ?_
  refine cs9 X 0 1 2 3 4 10 11 23 24 [] (g39_k2 ih ro) ?_ ?_
  ·
   refine sr ?_
   refine vy (V.eq h9 rfl rfl) fun x25_48 h71 => ?_
   refine as_ ?_
   refine dn ?_
   refine CV.cond h71 rfl (fun e h72 => ?_) (fun e h72 => ?_)
   ·
    clear h1 h2 h3 h4 h5 h6 h8 h9 h71
    subst e
    refine CV.skip ?_
    exact pa9 hS h72 ⟨rfl, rfl, rfl, rfl, rfl, rfl, rfl, rfl, rfl, trivial⟩
   ·
    clear h1 h2 h3 h4 h5 h6 h8 h9 h71
    subst e
    refine CV.region ?_
    refine vy (V.eq h72 rfl rfl) fun x26_49 h73 => ?_
    refine as_ ?_
    refine LV.done ?_
    exact pa9 hS h73 ⟨rfl, rfl, rfl, rfl, rfl, rfl, rfl, rfl, rfl, trivial⟩
  ·
   intro y0 y1 y2 y3 y4 y10 y11 y23 y24 T4 n4 ρ its hS h10
   unfold g39_k2 at h10
   clear h1 h2 h3 h4 h5 h6 h8 h9
   refine CV.cond h10 rfl (fun e h11 => ?_) (fun e h11 => ?_)
   ·
    clear h10
    subst e
    cases h11
   ·
    clear h10
    subst e
    refine sr ?_
    refine vy (V.eq h11 rfl rfl) fun x29_7 h12 => ?_
    refine as_ ?_
    refine dn ?_
    refine CV.cond h12 rfl (fun e h13 => ?_) (fun e h13 => ?_)
    ·
     clear h11 h12
     subst e
     refine sr ?_
     refine mv ?_
     refine as_ ?_
     refine dn ?_
     refine CV.ret ?_
     refine PV.blockR ?_
     refine PV.thenR ?_
     cases h13
     exact PV.ret (by simp) Tryz.results39 hS (RS.tmp rfl RS.nil) rfl
    ·
     clear h11 h12
     subst e
     refine sr ?_
     refine vy (V.eq h13 rfl rfl) fun x32_8 h14 => ?_
     refine as_ ?_
     refine dn ?_
     refine CV.cond h14 rfl (fun e h15 => ?_) (fun e h15 => ?_)
     ·
      clear h13 h14
      subst e
      cases h15
     ·
      clear h13 h14
      subst e
      refine cs9 X 0 1 2 3 4 10 11 23 34 [] (g39_k3 ih ro) ?_ ?_
      ·
       refine sr ?_
       refine vy (V.eq h15 rfl rfl) fun x35_45 h66 => ?_
       refine as_ ?_
       refine dn ?_
       refine CV.cond h66 rfl (fun e h67 => ?_) (fun e h67 => ?_)
       ·
        clear h15 h66
        subst e
        refine CV.skip ?_
        exact pa9 hS h67 ⟨rfl, rfl, rfl, rfl, rfl, rfl, rfl, rfl, rfl, trivial⟩
       ·
        clear h15 h66
        subst e
        refine sr ?_
        refine vy (V.eq h67 rfl rfl) fun x36_46 h68 => ?_
        refine as_ ?_
        refine dn ?_
        refine CV.cond h68 rfl (fun e h69 => ?_) (fun e h69 => ?_)
        ·
         clear h67 h68
         subst e
         refine CV.skip ?_
         exact pa9 hS h69 ⟨rfl, rfl, rfl, rfl, rfl, rfl, rfl, rfl, rfl, trivial⟩
        ·
         clear h67 h68
         subst e
         refine CV.region ?_
         refine vy (V.eq h69 rfl rfl) fun x37_47 h70 => ?_
         refine as_ ?_
         refine LV.done ?_
         exact pa9 hS h70 ⟨rfl, rfl, rfl, rfl, rfl, rfl, rfl, rfl, rfl, trivial⟩
      ·
       intro y0 y1 y2 y3 y4 y10 y11 y23 y34 T5 n5 ρ its hS h16
       unfold g39_k3 at h16
       clear h15
       refine CV.cond h16 rfl (fun e h17 => ?_) (fun e h17 => ?_)
       ·
        clear h16
        subst e
        refine sr ?_
        refine vy (V.fa h17 rfl Rnf.fo32_4) fun x38_9 h18 => ?_
        refine vy (V.ld hS h18 rfl Rnf.one30) fun x39_10 h19 => ?_
        refine vy (V.lenS h19 rfl Rnf.ls30) fun x40_11 h20 => ?_
        refine mv ?_
        refine dn ?_
        refine CV.block ?_
        refine cl10 X 0 1 2 3 4 10 11 39 40 41 [] hS h20 ⟨rfl, rfl, rfl, rfl, rfl, rfl, rfl, rfl, rfl, rfl, trivial⟩ ?_
        intro f4 y0 y1 y2 y3 y4 y10 y11 y39 y40 y41 T6 n6 ρ its hS h21
        unfold g39_b4 at h21
        clear h17 h18 h19 h20
        refine sr ?_
        refine vy (V.lt h21 rfl rfl) fun x42_12 h22 => ?_
        refine dn ?_
        refine CV.seq ?_
        refine CV.cond h22 rfl (fun e h23 => ?_) (fun e h23 => ?_)
        ·
         clear h21 h22
         subst e
         refine CV.skip ?_
         refine PV.thenN ?_
         refine CV.seq ?_
         refine CV.block ?_
         refine sr ?_
         refine vy (V.ia h23 rfl rfl Rnf.el30) fun x43_13 h24 => ?_
         refine vy (V.ld hS h24 rfl Rnf.one3) fun x44_14 h25 => ?_
         refine as_ ?_
         refine dn ?_
         refine sr ?_
         refine mv ?_
         refine mv ?_
         refine ls12 X 0 1 2 3 4 10 11 13 39 40 41 55 [] (g39_k5 ih ro (lpf10 390028 (g39_b4 ih ro) f4)) 9 ?_ ?_
         ·
          rcases condK_inv h25 with ⟨e, h36⟩ | ⟨e, h36⟩
          ·
           clear h23 h24 h25
           subst e
           refine mv ?_
           refine mv ?_
           refine vy (V.nc h36 rfl) fun x49_21 h37 => ?_
           refine vy (V.fa h37 rfl Rnf.fo69_0) fun x50_22 h38 => ?_
           refine vy (V.ld hS h38 rfl Rnf.one23) fun x51_23 h39 => ?_
           refine vy (V.lenS h39 rfl Rnf.ls23) fun x52_24 h40 => ?_
           refine vy (V.sub h40 rfl rfl) fun x53_25 h41 => ?_
           refine vy (V.eq h41 rfl rfl) fun x54_26 h42 => ?_
           refine pu ?_
           exact la12 hS h42 ⟨rfl, rfl, rfl, rfl, rfl, rfl, rfl, rfl, rfl, rfl, rfl, rfl, trivial⟩
          ·
           clear h23 h24 h25
           subst e
           refine sk ?_
           refine sk ?_
           refine sk ?_
           refine sk ?_
           refine sk ?_
           refine sk ?_
           refine sk ?_
           refine sk ?_
           refine pu ?_
           exact la12 hS h36 ⟨rfl, rfl, rfl, rfl, rfl, rfl, rfl, rfl, rfl, rfl, rfl, rfl, trivial⟩
         ·
          intro y0 y1 y2 y3 y4 y10 y11 y13 y39 y40 y41 y55 T7 n7 ρ its hS h26
          unfold g39_k5 at h26
          clear h23 h24 h25
          refine as_ ?_
          refine dn ?_
          refine sr ?_
          refine mv ?_
          refine mv ?_
          refine mv ?_
          refine mv ?_
          refine mv ?_
          refine mv ?_
          refine ls15 X 0 1 2 3 4 10 11 39 40 41 56 57 58 59 65 [] (g39_k6 ih ro (lpf10 390028 (g39_b4 ih ro) f4)) 4 ?_ ?_
          ·
           rcases condK_inv h26 with ⟨e, h32⟩ | ⟨e, h32⟩
           ·
            clear h26
            subst e
            refine sk ?_
            refine sk ?_
            refine sk ?_
            refine pu ?_
            exact la15 hS h32 ⟨rfl, rfl, rfl, rfl, rfl, rfl, rfl, rfl, rfl, rfl, rfl, rfl, rfl, rfl, rfl, trivial⟩
           ·
            clear h26
            subst e
            refine vy (V.fa h32 rfl Rnf.fo32_0) fun x62_18 h33 => ?_
            refine vy (V.ld hS h33 rfl Rnf.one3) fun x63_19 h34 => ?_
            refine vy (V.eq h34 rfl rfl) fun x64_20 h35 => ?_
            refine pu ?_
            exact la15 hS h35 ⟨rfl, rfl, rfl, rfl, rfl, rfl, rfl, rfl, rfl, rfl, rfl, rfl, rfl, rfl, rfl, trivial⟩
          ·
           intro y0 y1 y2 y3 y4 y10 y11 y39 y40 y41 y56 y57 y58 y59 y65 T8 n8 ρ its hS h27
           unfold g39_k6 at h27
           clear h26
           refine LV.call hS h27 (hI _ _ _ _ _) hP rfl rfl rfl rfl fun x66_15 T9 n9 h28 ρ its hS => ?_
           refine vy (V.not h28 rfl) fun x67_16 h29 => ?_
           refine dn ?_
           refine CV.cond h29 rfl (fun e h30 => ?_) (fun e h30 => ?_)
           ·
            clear h27 h28 h29
            subst e
            cases h30
           ·
            clear h27 h28 h29
            subst e
            refine CV.skip ?_
            refine PV.blockN ?_
            refine PV.thenN ?_
            refine CV.region ?_
            refine vy (V.add h30 rfl rfl) fun x68_17 h31 => ?_
            refine mv ?_
            refine LV.done ?_
            exact pb10 hS h31 ⟨rfl, rfl, rfl, rfl, rfl, rfl, rfl, rfl, rfl, rfl, trivial⟩
        ·
         clear h21 h22
         subst e
         refine CV.exit ?_
         refine PV.thenE ?_
         refine PV.thenE ?_
         refine PV.blockE ?_
         refine PV.blockN ?_
         exact pa1 hS h23 ⟨rfl, trivial⟩
       ·
        clear h16
        subst e
        refine sr ?_
        refine vy (V.eq h17 rfl rfl) fun x70_27 h43 => ?_
        refine as_ ?_
        refine dn ?_
        refine CV.cond h43 rfl (fun e h44 => ?_) (fun e h44 => ?_)
        ·
         clear h17 h43
         subst e
         refine sr ?_
         refine mv ?_
         refine mv ?_
         refine ls4 X 0 10 11 82 [] (g39_k7 ih ro) 10 ?_ ?_
         ·
          rcases condK_inv h44 with ⟨e, h57⟩ | ⟨e, h57⟩
          ·
           clear h44
           subst e
           refine mv ?_
           refine vy (V.fa h57 rfl Rnf.fo32_4) fun x74_37 h58 => ?_
           refine vy (V.ld hS h58 rfl Rnf.one30) fun x75_38 h59 => ?_
           refine vy (V.fa h59 rfl Rnf.fo32_4) fun x76_39 h60 => ?_
           refine vy (V.ld hS h60 rfl Rnf.one30) fun x77_40 h61 => ?_
           refine vy (V.lenS h61 rfl Rnf.ls30) fun x78_41 h62 => ?_
           refine vy (V.sub h62 rfl rfl) fun x79_42 h63 => ?_
           refine vy (V.cutHi hS h63 rfl rfl Rnf.el30) fun x80_43 h64 => ?_
           refine LV.call hS h64 (g70_ok _ _ _ _ _ ) hP rfl rfl rfl rfl fun x81_44 T13 n13 h65 ρ its hS => ?_
           refine pu ?_
           exact la4 hS h65 ⟨rfl, rfl, rfl, rfl, trivial⟩
          ·
           clear h44
           subst e
           refine sk ?_
           refine sk ?_
           refine sk ?_
           refine sk ?_
           refine sk ?_
           refine sk ?_
           refine sk ?_
           refine sk ?_
           refine sk ?_
           refine pu ?_
           exact la4 hS h57 ⟨rfl, rfl, rfl, rfl, trivial⟩
         ·
          intro y0 y10 y11 y82 T10 n10 ρ its hS h45
          unfold g39_k7 at h45
          clear h44
          refine mv ?_
          refine ls2 X 10 94 [] (g39_k8 ih ro) 11 ?_ ?_
          ·
           rcases condK_inv h45 with ⟨e, h47⟩ | ⟨e, h47⟩
           ·
            clear h45
            subst e
            refine mv ?_
            refine vy (V.fa h47 rfl Rnf.fo32_4) fun x85_28 h48 => ?_
            refine vy (V.ld hS h48 rfl Rnf.one30) fun x86_29 h49 => ?_
            refine vy (V.fa h49 rfl Rnf.fo32_4) fun x87_30 h50 => ?_
            refine vy (V.ld hS h50 rfl Rnf.one30) fun x88_31 h51 => ?_
            refine vy (V.lenS h51 rfl Rnf.ls30) fun x89_32 h52 => ?_
            refine vy (V.sub h52 rfl rfl) fun x90_33 h53 => ?_
            refine vy (V.ia h53 rfl rfl Rnf.el30) fun x91_34 h54 => ?_
            refine vy (V.ld hS h54 rfl Rnf.one3) fun x92_35 h55 => ?_
            refine LV.call hS h55 (hI _ _ _ _ _) hP rfl rfl rfl rfl fun x93_36 T12 n12 h56 ρ its hS => ?_
            refine pu ?_
            exact la2 hS h56 ⟨rfl, rfl, trivial⟩
           ·
            clear h45
            subst e
            refine sk ?_
            refine sk ?_
            refine sk ?_
            refine sk ?_
            refine sk ?_
            refine sk ?_
            refine sk ?_
            refine sk ?_
            refine sk ?_
            refine sk ?_
            refine pu ?_
            exact la2 hS h47 ⟨rfl, rfl, trivial⟩
          ·
           intro y10 y94 T11 n11 ρ its hS h46
           unfold g39_k8 at h46
           clear h45
           refine as_ ?_
           refine dn ?_
           refine CV.ret ?_
           refine PV.blockR ?_
           refine PV.thenR ?_
           cases h46
           exact PV.ret (by simp) Tryz.results39 hS (RS.tmp rfl RS.nil) rfl
        ·
         clear h17 h43
         subst e
         refine CV.skip ?_
         refine PV.blockN ?_
         exact pa1 hS h44 ⟨rfl, trivial⟩
 ·
  intro y10 T3 n3 ρ its hS h7
  unfold g39_k1 at h7
  clear h1 h2 h3 h4 h5 h6
  refine sr ?_
  refine as_ ?_
  refine dn ?_
  refine CV.ret ?_
  cases h7
  exact PV.ret (by simp) Tryz.results39 hS (RS.tmp rfl RS.nil) rfl
noncomputable def ap5 (ih : FuncId → List HT → List AV → HT → Nat → R) (f : FuncId) (ro : List HT) (args : List AV) (T : HT) (nx : Nat) : R :=
  Bool.rec (motive := fun _ => R) (.bad 2) (List.rec (motive := fun _ => R) (.bad 1) (fun a0 l0 _ => List.rec (motive := fun _ => R) (.bad 1) (fun a1 l1 _ => List.rec (motive := fun _ => R) (.bad 1) (fun a2 l2 _ => List.rec (motive := fun _ => R) (.bad 1) (fun a3 l3 _ => List.rec (motive := fun _ => R) (.bad 1) (fun a4 l4 _ => List.rec (motive := fun _ => R) (g39 ih ro a0 a1 a2 a3 a4 T nx) (fun _ _ _ => .bad 1) l4) l3) l2) l1) l0) args) (Nat.beq f 39)
noncomputable def scc5 (fuel : Nat) : FuncId → List HT → List AV → HT → Nat → R :=
  Nat.rec (motive := fun _ => FuncId → List HT → List AV → HT → Nat → R) (fun _ _ _ _ _ => .bad 3) (fun _ ih => ap5 ih) fuel
theorem ap5_ok (ih : FuncId → List HT → List AV → HT → Nat → R) (hI : ∀ f ro args T nx, GOk Tryz.prog envE f args ro T nx (ih f ro args T nx)) (f : FuncId) (ro : List HT) (args : List AV) (T : HT) (nx : Nat) : GOk Tryz.prog envE f args ro T nx (ap5 ih f ro args T nx) := by
  unfold ap5
  refine recb_go (fun hb => ?_) (fun _ => ?_)
  · obtain rfl := beqT hb
    rcases args with _ | ⟨a0, l0⟩
    · exact GOk.bad
    rcases l0 with _ | ⟨a1, l1⟩
    · exact GOk.bad
    rcases l1 with _ | ⟨a2, l2⟩
    · exact GOk.bad
    rcases l2 with _ | ⟨a3, l3⟩
    · exact GOk.bad
    rcases l3 with _ | ⟨a4, l4⟩
    · exact GOk.bad
    rcases l4 with _ | ⟨_, _⟩
    · exact g39_ok _ hI _ _ _ _ _ _ _ _ 
    · exact GOk.bad
  · exact GOk.bad
theorem scc5_ok : ∀ (fuel : Nat) (f : FuncId) (ro : List HT) (args : List AV) (T : HT) (nx : Nat), GOk Tryz.prog envE f args ro T nx (scc5 fuel f ro args T nx)
  | 0, _, _, _, _, _ => GOk.bad
  | fuel + 1, f, ro, args, T, nx => ap5_ok (scc5 fuel) (scc5_ok fuel) f ro args T nx
noncomputable def g12_k2 (ro : List HT) (lp1 : AV → AV → AV → AV → AV → AV → HT → Nat → R) (y0 y2 y3 y17 y18 y19 y43 : AV) (T6 : HT) (n6 : Nat) : R :=
 condK 120026 y43
 (
  .bad 120027
 )
 (
  addK Tryz.prog 3 (.tmp 19) (.const (.int .i64 (.ofNat 1))) 120028 y19 (.lit (.int .i64 (.ofNat 1))) fun x49_12 =>
  lp1 y0 y2 y3 y17 y18 x49_12 T6 n6
 )
noncomputable def g12_k5 (ro : List HT) (y2 y77 : AV) (T11 : HT) (n11 : Nat) : R :=
 condK 120066 y77
 (
  .bad 120067
 )
 (
  .ok (.val (.lit (.nilIface))) T11 n11
 )
noncomputable def g12_k4 (ro : List HT) (y2 y3 y6 y71 : AV) (T10 : HT) (n10 : Nat) : R :=
 condK 120069 y71
 (
  g12_k5 ro y2 (.lit (.bool true)) T10 n10
 )
 (
  callK (scc5 4000 39 ro [y3, y6, (.lit (.bool true)), (.lit (.bool false)), (.lit (.bool false))] T10 n10) fun x75_29 T12 n12 =>
  notK 120074 x75_29 fun x76_30 =>
  g12_k5 ro y2 x76_30 T12 n12
 )
noncomputable def g12_k3 (ro : List HT) (y2 y3 y6 y62 : AV) (T9 : HT) (n9 : Nat) : R :=
 condK 120076 y62
 (
  g12_k4 ro y2 y3 y6 (.lit (.bool true)) T9 n9
 )
 (
  ncK 120079 y3 fun x65_31 =>
  faK 120080 x65_31 1 fun x66_32 =>
  ldK 120081 T9 ro x66_32 fun x67_33 =>
  cutHiK 120083 T9 ro x67_33 y6 fun x69_34 =>
  callK (g38 ro x69_34 (.lit (.bool false)) T9 n9) fun x70_35 T13 n13 =>
  g12_k4 ro y2 y3 y6 x70_35 T13 n13
 )
noncomputable def g12_b1 (ro : List HT) (lp1 : AV → AV → AV → AV → AV → AV → HT → Nat → R) (y0 y2 y3 y17 y18 y19 : AV) (T3 : HT) (n3 : Nat) : R :=
 ltK Tryz.prog 3 (.tmp 19) (.tmp 18) 120018 y19 y18 fun x20_8 =>
 condK 120019 x20_8
 (
  iaK 120021 y17 y19 5 fun x22_9 =>
  ldAK 120022 T3 ro x22_9 5 fun x23_10 =>
  newK T3 n3 (.obj [.lit (.int .i64 0), .lit (.int .i64 0), .lit (.int .i64 0), .lit (.string ⟨#[]⟩), .lit (.slice none 0 0)] 32) fun x5_11 T4 n4 =>
  stAK 120025 T4 x5_11 x23_10 5 fun T5 =>
  faK 120030 x5_11 4 fun x24_13 =>
  ldK 120031 T5 ro x24_13 fun x25_14 =>
  ncK 120034 y3 fun x28_15 =>
  faK 120035 x28_15 1 fun x29_16 =>
  ldK 120036 T5 ro x29_16 fun x30_17 =>
  callK (g36 ro x25_14 y19 x30_17 T5 n4) fun x31_18 T7 n7 =>
  notK 120038 x31_18 fun x32_19 =>
  condK 120040 x32_19
  (
   condK 120043 (.lit (.bool true))
   (
    g12_k2 ro lp1 y0 y2 y3 y17 y18 y19 (.lit (.bool true)) T7 n7
   )
   (
    .bad 0
   )
  )
  (
   faK 120045 x5_11 1 fun x34_20 =>
   ldK 120046 T7 ro x34_20 fun x35_21 =>
   neK Tryz.prog 3 (.tmp 35) (.const (.int .i64 (.ofNat 0))) 120047 x35_21 (.lit (.int .i64 (.ofNat 0))) fun x36_22 =>
   condK 120050 x36_22
   (
    g12_k2 ro lp1 y0 y2 y3 y17 y18 y19 (.lit (.bool true)) T7 n7
   )
   (
    ldAK 120053 T7 ro x5_11 5 fun x40_23 =>
    callK (g37 ro y3 x40_23 T7 n7) fun x41_24 T8 n8 =>
    notK 120055 x41_24 fun x42_25 =>
    g12_k2 ro lp1 y0 y2 y3 y17 y18 y19 x42_25 T8 n8
   )
  )
 )
 (
  lenSK 120058 y0 fun x51_26 =>
  subK Tryz.prog 3 (.tmp 51) (.const (.int .i64 (.ofNat 1))) 120059 x51_26 (.lit (.int .i64 (.ofNat 1))) fun x52_27 =>
  ltK Tryz.prog 3 (.tmp 53) (.const (.int .i64 (.ofNat 0))) 120062 x52_27 (.lit (.int .i64 (.ofNat 0))) fun x54_28 =>
  condK 120086 x54_28
  (
   g12_k3 ro y2 y3 x52_27 (.lit (.bool true)) T3 n3
  )
  (
   iaK 120090 y0 x52_27 5 fun x58_36 =>
   faK 120091 x58_36 0 fun x59_37 =>
   ldK 120092 T3 ro x59_37 fun x60_38 =>
   neK Tryz.prog 3 (.tmp 60) (.const (.int .i64 (.ofNat 47))) 120093 x60_38 (.lit (.int .i64 (.ofNat 47))) fun x61_39 =>
   g12_k3 ro y2 y3 x52_27 x61_39 T3 n3
  )
 )
noncomputable def g12 (ro : List HT) (a0 : AV) (T : HT) (nx : Nat) : R :=
 lenSK 120003 a0 fun x8_1 =>
 gtK Tryz.prog 3 (.tmp 8) (.const (.int .i64 (.ofNat 1048576))) 120004 x8_1 (.lit (.int .i64 (.ofNat 1048576))) fun x9_2 =>
 condK 120005 x9_2
 (
  .bad 120006
 )
 (
  lenSK 120009 a0 fun x13_3 =>
  mkK 120010 T nx 4 1 (.lit (.bool false)) x13_3 fun x14_4 T1 n1 =>
  optK 120011 (bld69 [(0, a0), (1, x14_4)]) fun x15_5 =>
  boxK 120012 T1 n1 x15_5 69 fun x16_6 T2 n2 =>
  lenSK 120015 a0 fun x18_7 =>
  lpf6 120017 (g12_b1 ro) 100000 a0 (.lit (.nilIface)) x16_6 a0 x18_7 (.lit (.int .i64 (.ofNat 0))) T2 n2
 )
theorem g12_ok (ro : List HT) (a0 : AV) (T : HT) (nx : Nat) : GOk Tryz.prog envE 12 [a0] ro T nx (g12 ro a0 T nx) := by
 refine GOk.of_body Tryz.func12 rfl Tryz.ntmps12 (by kernel_rfl) rfl fun r T' n' h1 w0 base ρ0 its hS hP => ?_
 have X : CtxW envE ρ0 ro r T' n' := trivial
 unfold g12 at h1
 refine sr ?_
 refine as_ ?_
 refine dn ?_
 refine CV.seq ?_
 refine sr ?_
 refine mv ?_
 refine vy (V.lenS h1 rfl Rnf.ls23) fun x8_1 h2 => ?_
 refine vy (V.gt h2 rfl rfl) fun x9_2 h3 => ?_
 refine dn ?_
 refine CV.cond h3 rfl (fun e h4 => ?_) (fun e h4 => ?_)
 ·
  clear h1 h2 h3
  subst e
  cases h4
 ·
  clear h1 h2 h3
  subst e
  refine CV.skip ?_
  refine PV.thenN ?_
  refine sr ?_
  refine mv ?_
  refine mv ?_
  refine vy (V.lenS h4 rfl Rnf.ls23) fun x13_3 h5 => ?_
  refine LV.mk hS h5 rfl rfl rfl Rnf.el67 rfl rfl rfl rfl fun x14_4 T1 n1 h6 ρ its hS hdr => ?_
  refine vy (V.bld h6 rfl) fun x15_5 h7 => ?_
  refine LV.box hS h7 rfl rfl rfl rfl rfl fun x16_6 T2 n2 h8 ρ its hS hdr => ?_
  refine as_ ?_
  refine dn ?_
  refine CV.seq ?_
  refine sr ?_
  refine mv ?_
  refine vy (V.lenS h8 rfl Rnf.ls23) fun x18_7 h9 => ?_
  refine mv ?_
  refine dn ?_
  refine CV.block ?_
  refine cl6 X 0 2 3 17 18 19 [] hS h9 ⟨rfl, rfl, rfl, rfl, rfl, rfl, trivial⟩ ?_
  intro f1 y0 y2 y3 y17 y18 y19 T3 n3 ρ its hS h10
  unfold g12_b1 at h10
  clear h4 h5 h6 h7 h8 h9
  refine sr ?_
  refine vy (V.lt h10 rfl rfl) fun x20_8 h11 => ?_
  refine dn ?_
  refine CV.seq ?_
  refine CV.cond h11 rfl (fun e h12 => ?_) (fun e h12 => ?_)
  ·
   clear h10 h11
   subst e
   refine CV.skip ?_
   refine PV.thenN ?_
   refine CV.seq ?_
   refine CV.block ?_
   refine sr ?_
   refine mv ?_
   refine vy (V.ia h12 rfl rfl Rnf.el23) fun x22_9 h13 => ?_
   refine vy (V.ldA hS h13 rfl Rnf.agg32) fun x23_10 h14 => ?_
   refine LV.alloc hS h14 rfl Rnf.zr32 rfl rfl rfl fun x5_11 T4 n4 h15 ρ its hS hdr => ?_
   refine as_ ?_
   refine LV.stA hS h15 rfl rfl rfl Rnf.agg32 rfl rfl rfl fun T5 its h16 hS => ?_
   refine dn ?_
   refine cs7 X 0 2 3 17 18 19 43 [] (g12_k2 ro (lpf6 120017 (g12_b1 ro) f1)) ?_ ?_
   ·
    refine CV.regionM [(0, .anywhere), (1, .held), (2, .anywhere), (3, .anywhere), (4, .anywhere), (5, .anywhere), (6, .held), (7, .alone), (8, .alone), (9, .alone), (10, .alone), (11, .alone), (12, .alone), (13, .alone), (14, .alone), (15, .anywhere), (16, .alone), (17, .alone), (18, .alone), (19, .alone)] rfl (fun c a a' w hd hq => PanicOk.root (P := Tryz.prog) (fn := Tryz.f12) (w0 := w0) (base := base) (E := envE) (ro := ro) (r := r) (T' := T') (n' := n') (ρ0 := ρ0) c a a' w hd hq) (by kernel_rfl) ?_
    refine MV.lift0 (i := 0) rfl (V.fa h16 rfl Rnf.fo32_4) rfl rfl rfl fun x24_13 h20 => ?_
    refine MV.lift1 (i := 1) rfl (fun _ z => z) (V.ld hS h20 rfl Rnf.one30) rfl rfl rfl [] (by kernel_rfl) fun x25_14 h21 => ?_
    refine MV.step0 (i := 2) rfl (VAL.move rfl) rfl rfl rfl ?_
    refine MV.step0 (i := 3) rfl (VAL.move rfl) rfl rfl rfl ?_
    refine MV.lift0 (i := 4) rfl (V.nc h21 rfl) rfl rfl rfl fun x28_15 h22 => ?_
    refine MV.lift0 (i := 5) rfl (V.fa h22 rfl Rnf.fo69_1) rfl rfl rfl fun x29_16 h23 => ?_
    refine MV.lift1 (i := 6) rfl (fun _ z => z) (V.ld hS h23 rfl Rnf.one67) rfl rfl rfl [1] (by kernel_rfl) fun x30_17 h24 => ?_
    refine MV.force (i := 7) rfl ?_
    refine LV.call hS h24 (g36_ok _ _ _ _ _ _ ) hP rfl rfl rfl rfl fun x31_18 T7 n7 h25 ρ its hS => ?_
    refine LV.nextM [] (by kernel_rfl) (fun z => absurd rfl z) ?_
    refine MV.force (i := 8) rfl ?_
    refine vy (V.not h25 rfl) fun x32_19 h26 => ?_
    refine LV.nextM [] (by kernel_rfl) (fun z => absurd rfl z) ?_
    refine MV.force (i := 9) rfl ?_
    refine mv ?_
    refine LV.nextM [] (by kernel_rfl) (fun z => absurd rfl z) ?_
    rcases condK_inv h26 with ⟨e, h27⟩ | ⟨e, h27⟩
    ·
     clear h12 h13 h14 h15 h16 h20 h21 h22 h23 h24 h25 h26
     subst e
     refine MV.force (i := 10) rfl ?_
     refine sk ?_
     refine LV.nextM [] (by kernel_rfl) (fun z => absurd rfl z) ?_
     refine MV.force (i := 11) rfl ?_
     refine sk ?_
     refine LV.nextM [] (by kernel_rfl) (fun z => absurd rfl z) ?_
     refine MV.force (i := 12) rfl ?_
     refine sk ?_
     refine LV.nextM [] (by kernel_rfl) (fun z => absurd rfl z) ?_
     refine MV.force (i := 13) rfl ?_
     refine pu ?_
     refine LV.nextM [] (by kernel_rfl) (fun z => absurd rfl z) ?_
     refine MV.force (i := 14) rfl ?_
     refine mv ?_
     refine LV.nextM [] (by kernel_rfl) (fun z => absurd rfl z) ?_
     rcases condK_inv h27 with ⟨e, h28⟩ | ⟨e, h28⟩
     ·
      clear h27
      refine MV.skip0 (i := 15) rfl rfl rfl rfl ?_
      refine MV.force (i := 16) rfl ?_
      refine sk ?_
      refine LV.nextM [] (by kernel_rfl) (fun z => absurd rfl z) ?_
      refine MV.force (i := 17) rfl ?_
      refine sk ?_
      refine LV.nextM [] (by kernel_rfl) (fun z => absurd rfl z) ?_
      refine MV.force (i := 18) rfl ?_
      refine sk ?_
      refine LV.nextM [] (by kernel_rfl) (fun z => absurd rfl z) ?_
      refine MV.force (i := 19) rfl ?_
      refine pu ?_
      refine LV.nextM [] (by kernel_rfl) (fun z => absurd rfl z) ?_
      refine MV.done ?_
      exact pa7 hS h28 ⟨rfl, rfl, rfl, rfl, rfl, rfl, rfl, trivial⟩
     ·
      clear h27
      cases e
    ·
     clear h12 h13 h14 h15 h16 h20 h21 h22 h23 h24 h25 h26
     subst e
     refine MV.force (i := 10) rfl ?_
     refine vy (V.fa h27 rfl Rnf.fo32_1) fun x34_20 h29 => ?_
     refine LV.nextM [] (by kernel_rfl) (fun z => absurd rfl z) ?_
     refine MV.force (i := 11) rfl ?_
     refine vy (V.ld hS h29 rfl Rnf.one3) fun x35_21 h30 => ?_
     refine LV.nextM [] (by kernel_rfl) (fun z => absurd rfl z) ?_
     refine MV.force (i := 12) rfl ?_
     refine vy (V.ne h30 rfl rfl) fun x36_22 h31 => ?_
     refine LV.nextM [] (by kernel_rfl) (fun z => absurd rfl z) ?_
     refine MV.force (i := 13) rfl ?_
     refine pu ?_
     refine LV.nextM [] (by kernel_rfl) (fun z => absurd rfl z) ?_
     refine MV.force (i := 14) rfl ?_
     refine mv ?_
     refine LV.nextM [] (by kernel_rfl) (fun z => absurd rfl z) ?_
     rcases condK_inv h31 with ⟨e, h32⟩ | ⟨e, h32⟩
     ·
      clear h27 h29 h30 h31
      subst e
      refine MV.skip0 (i := 15) rfl rfl rfl rfl ?_
      refine MV.force (i := 16) rfl ?_
      refine sk ?_
      refine LV.nextM [] (by kernel_rfl) (fun z => absurd rfl z) ?_
      refine MV.force (i := 17) rfl ?_
      refine sk ?_
      refine LV.nextM [] (by kernel_rfl) (fun z => absurd rfl z) ?_
      refine MV.force (i := 18) rfl ?_
      refine sk ?_
      refine LV.nextM [] (by kernel_rfl) (fun z => absurd rfl z) ?_
      refine MV.force (i := 19) rfl ?_
      refine pu ?_
      refine LV.nextM [] (by kernel_rfl) (fun z => absurd rfl z) ?_
      refine MV.done ?_
      exact pa7 hS h32 ⟨rfl, rfl, rfl, rfl, rfl, rfl, rfl, trivial⟩
     ·
      clear h27 h29 h30 h31
      subst e
      refine MV.step0 (i := 15) rfl (VAL.move rfl) rfl rfl rfl ?_
      refine MV.force (i := 16) rfl ?_
      refine vy (V.ldA hS h32 rfl Rnf.agg32) fun x40_23 h33 => ?_
      refine LV.nextM [] (by kernel_rfl) (fun z => absurd rfl z) ?_
      refine MV.force (i := 17) rfl ?_
      refine LV.call hS h33 (g37_ok _ _ _ _ _ ) hP rfl rfl rfl rfl fun x41_24 T8 n8 h34 ρ its hS => ?_
      refine LV.nextM [] (by kernel_rfl) (fun z => absurd rfl z) ?_
      refine MV.force (i := 18) rfl ?_
      refine vy (V.not h34 rfl) fun x42_25 h35 => ?_
      refine LV.nextM [] (by kernel_rfl) (fun z => absurd rfl z) ?_
      refine MV.force (i := 19) rfl ?_
      refine pu ?_
      refine LV.nextM [] (by kernel_rfl) (fun z => absurd rfl z) ?_
      refine MV.done ?_
      exact pa7 hS h35 ⟨rfl, rfl, rfl, rfl, rfl, rfl, rfl, trivial⟩
   ·
    intro y0 y2 y3 y17 y18 y19 y43 T6 n6 ρ its hS h17
    unfold g12_k2 at h17
    clear h12 h13 h14 h15 h16
    refine CV.cond h17 rfl (fun e h18 => ?_) (fun e h18 => ?_)
    ·
     clear h17
     subst e
     cases h18
    ·
     clear h17
     subst e
     refine CV.skip ?_
     refine PV.blockN ?_
     refine PV.thenN ?_
     refine CV.region ?_
     refine vy (V.add h18 rfl rfl) fun x49_12 h19 => ?_
     refine mv ?_
     refine LV.done ?_
     exact pb6 hS h19 ⟨rfl, rfl, rfl, rfl, rfl, rfl, trivial⟩
  ·
   clear h10 h11
   subst e
   refine CV.exit ?_
   refine PV.thenE ?_
   refine PV.thenE ?_
   refine PV.blockE ?_
   refine PV.thenN ?_
   refine sr ?_
   refine mv ?_
   refine vy (V.lenS h12 rfl Rnf.ls23) fun x51_26 h36 => ?_
   refine vy (V.sub h36 rfl rfl) fun x52_27 h37 => ?_
   refine as_ ?_
   refine dn ?_
   refine CV.seq ?_
   refine sr ?_
   refine mv ?_
   refine vy (V.lt h37 rfl rfl) fun x54_28 h38 => ?_
   refine mv ?_
   refine ls4 X 2 3 6 62 [] (g12_k3 ro) 7 ?_ ?_
   ·
    rcases condK_inv h38 with ⟨e, h52⟩ | ⟨e, h52⟩
    ·
     clear h12 h36 h37 h38
     subst e
     refine sk ?_
     refine sk ?_
     refine sk ?_
     refine sk ?_
     refine sk ?_
     refine sk ?_
     refine pu ?_
     exact la4 hS h52 ⟨rfl, rfl, rfl, rfl, trivial⟩
    ·
     clear h12 h36 h37 h38
     subst e
     refine mv ?_
     refine mv ?_
     refine vy (V.ia h52 rfl rfl Rnf.el23) fun x58_36 h53 => ?_
     refine vy (V.fa h53 rfl Rnf.fo32_0) fun x59_37 h54 => ?_
     refine vy (V.ld hS h54 rfl Rnf.one3) fun x60_38 h55 => ?_
     refine vy (V.ne h55 rfl rfl) fun x61_39 h56 => ?_
     refine pu ?_
     exact la4 hS h56 ⟨rfl, rfl, rfl, rfl, trivial⟩
   ·
    intro y2 y3 y6 y62 T9 n9 ρ its hS h39
    unfold g12_k3 at h39
    clear h12 h36 h37 h38
    refine mv ?_
    refine ls4 X 2 3 6 71 [] (g12_k4 ro) 8 ?_ ?_
    ·
     rcases condK_inv h39 with ⟨e, h46⟩ | ⟨e, h46⟩
     ·
      clear h39
      subst e
      refine sk ?_
      refine sk ?_
      refine sk ?_
      refine sk ?_
      refine sk ?_
      refine sk ?_
      refine sk ?_
      refine pu ?_
      exact la4 hS h46 ⟨rfl, rfl, rfl, rfl, trivial⟩
     ·
      clear h39
      subst e
      refine mv ?_
      refine vy (V.nc h46 rfl) fun x65_31 h47 => ?_
      refine vy (V.fa h47 rfl Rnf.fo69_1) fun x66_32 h48 => ?_
      refine vy (V.ld hS h48 rfl Rnf.one67) fun x67_33 h49 => ?_
      refine mv ?_
      refine vy (V.cutHi hS h49 rfl rfl Rnf.el67) fun x69_34 h50 => ?_
      refine LV.call hS h50 (g38_ok _ _ _ _ _ ) hP rfl rfl rfl rfl fun x70_35 T13 n13 h51 ρ its hS => ?_
      refine pu ?_
      exact la4 hS h51 ⟨rfl, rfl, rfl, rfl, trivial⟩
    ·
     intro y2 y3 y6 y71 T10 n10 ρ its hS h40
     unfold g12_k4 at h40
     clear h39
     refine mv ?_
     refine ls2 X 2 77 [] (g12_k5 ro) 5 ?_ ?_
     ·
      rcases condK_inv h40 with ⟨e, h43⟩ | ⟨e, h43⟩
      ·
       clear h40
       subst e
       refine sk ?_
       refine sk ?_
       refine sk ?_
       refine sk ?_
       refine pu ?_
       exact la2 hS h43 ⟨rfl, rfl, trivial⟩
      ·
       clear h40
       subst e
       refine mv ?_
       refine mv ?_
       refine LV.call hS h43 (scc5_ok _ _ _ _ _ _) hP rfl rfl rfl rfl fun x75_29 T12 n12 h44 ρ its hS => ?_
       refine vy (V.not h44 rfl) fun x76_30 h45 => ?_
       refine pu ?_
       exact la2 hS h45 ⟨rfl, rfl, trivial⟩
     ·
      intro y2 y77 T11 n11 ρ its hS h41
      unfold g12_k5 at h41
      clear h40
      refine dn ?_
      refine CV.cond h41 rfl (fun e h42 => ?_) (fun e h42 => ?_)
      ·
       clear h41
       subst e
       cases h42
      ·
       clear h41
       subst e
       refine CV.skip ?_
       refine PV.thenN ?_
       refine sr ?_
       refine as_ ?_
       refine dn ?_
       refine CV.ret ?_
       cases h42
       exact PV.ret (by simp) Tryz.results12 hS (RS.tmp rfl RS.nil) rfl
noncomputable def g145 (ro : List HT) (a0 a1 a2 : AV) (T : HT) (nx : Nat) : R :=
 fldK 1450002 T ro a0 0 fun x12_1 =>
 iaK 1450004 x12_1 a1 5 fun x14_2 =>
 ldAK 1450005 T ro x14_2 5 fun x15_3 =>
 newK T nx (.obj [.lit (.int .i64 0), .lit (.int .i64 0), .lit (.int .i64 0), .lit (.string ⟨#[]⟩), .lit (.slice none 0 0)] 32) fun x6_4 T1 n1 =>
 stAK 1450007 T1 x6_4 x15_3 5 fun T2 =>
 faK 1450008 x6_4 0 fun x16_5 =>
 ldK 1450009 T2 ro x16_5 fun x17_6 =>
 eqK Tryz.prog 3 (.tmp 17) (.const (.int .i64 (.ofNat 6))) 1450010 x17_6 (.lit (.int .i64 (.ofNat 6))) fun x19_7 =>
 condK 1450012 x19_7
 (
  ncK 1450015 a2 fun x22_8 =>
  ldK 1450016 T2 ro x22_8 fun x23_9 =>
  faK 1450018 x6_4 3 fun x25_10 =>
  ldK 1450019 T2 ro x25_10 fun x26_11 =>
  optK 1450020 (bld155 [(0, a1), (1, x26_11)]) fun x27_12 =>
  bsK 1450021 T2 n1 1 155 2 [(0, x27_12)] fun x28_13 T3 n3 =>
  shrK 1450023 T3 x23_9 fun T4 =>
  appK 1450022 T4 ro n3 155 2 24 x23_9 x28_13 fun x29_14 T5 n5 =>
  ncK 1450024 a2 fun x30_15 =>
  stK 1450025 T5 x30_15 x29_14 fun T6 =>
  .ok (.val (.tup [])) T6 n5
 )
 (
  eqK Tryz.prog 3 (.tmp 17) (.const (.int .i64 (.ofNat 8))) 1450026 x17_6 (.lit (.int .i64 (.ofNat 8))) fun x32_16 =>
  condK 1450028 x32_16
  (
   .bad 1450029
  )
  (
   .ok (.val (.tup [])) T2 n1
  )
 )
theorem g145_ok (ro : List HT) (a0 a1 a2 : AV) (T : HT) (nx : Nat) : GOk Tryz.prog envE 145 [a0, a1, a2] ro T nx (g145 ro a0 a1 a2 T nx) := by
 refine GOk.of_body Tryz.func145 rfl Tryz.ntmps145 (by kernel_rfl) rfl fun r T' n' h1 w0 base ρ0 its hS hP => ?_
 have X : CtxW envE ρ0 ro r T' n' := trivial
 unfold g145 at h1
 refine sr ?_
 refine mv ?_
 refine fl hS h1 Rnf.fo114_0 Rnf.one23 fun x12_1 h2 => ?_
 refine mv ?_
 refine vy (V.ia h2 rfl rfl Rnf.el23) fun x14_2 h3 => ?_
 refine vy (V.ldA hS h3 rfl Rnf.agg32) fun x15_3 h4 => ?_
 refine LV.alloc hS h4 rfl Rnf.zr32 rfl rfl rfl fun x6_4 T1 n1 h5 ρ its hS hdr => ?_
 refine LV.stA hS h5 rfl rfl rfl Rnf.agg32 rfl rfl rfl fun T2 its h6 hS => ?_
 refine dn ?_
 refine sr ?_
 refine vy (V.fa h6 rfl Rnf.fo32_0) fun x16_5 h7 => ?_
 refine vy (V.ld hS h7 rfl Rnf.one3) fun x17_6 h8 => ?_
 refine dn ?_
 refine CV.block ?_
 refine sr ?_
 refine vy (V.eq h8 rfl rfl) fun x19_7 h9 => ?_
 refine as_ ?_
 refine dn ?_
 refine CV.cond h9 rfl (fun e h10 => ?_) (fun e h10 => ?_)
 ·
  clear h1 h2 h3 h4 h5 h6 h7 h8 h9
  subst e
  refine CV.regionM [(0, .anywhere), (1, .anywhere), (2, .anywhere), (3, .held), (4, .anywhere), (5, .anywhere), (6, .held), (7, .held), (8, .alone), (9, .alone), (10, .alone), (11, .alone)] rfl (fun c a a' w hd hq => PanicOk.root (P := Tryz.prog) (fn := Tryz.f145) (w0 := w0) (base := base) (E := envE) (ro := ro) (r := r) (T' := T') (n' := n') (ρ0 := ρ0) c a a' w hd hq) (by kernel_rfl) ?_
  refine MV.step0 (i := 0) rfl (VAL.move rfl) rfl rfl rfl ?_
  refine MV.step0 (i := 1) rfl (VAL.move rfl) rfl rfl rfl ?_
  refine MV.lift0 (i := 2) rfl (V.nc h10 rfl) rfl rfl rfl fun x22_8 h11 => ?_
  refine MV.lift1 (i := 3) rfl (fun _ z => z) (V.ld hS h11 rfl Rnf.one150) rfl rfl rfl [] (by kernel_rfl) fun x23_9 h12 => ?_
  refine MV.step0 (i := 4) rfl (VAL.move rfl) rfl rfl rfl ?_
  refine MV.lift0 (i := 5) rfl (V.fa h12 rfl Rnf.fo32_3) rfl rfl rfl fun x25_10 h13 => ?_
  refine MV.lift1 (i := 6) rfl (fun _ z => z) (V.ld hS h13 rfl Rnf.one9) rfl rfl rfl [3] (by kernel_rfl) fun x26_11 h14 => ?_
  refine MV.lift1 (i := 7) rfl (fun _ z => z) (V.bld h14 rfl) rfl rfl rfl [3] (by kernel_rfl) fun x27_12 h15 => ?_
  refine MV.force (i := 8) rfl ?_
  refine LV.bslice hS h15 rfl rfl Rnf.el150 rfl rfl rfl rfl fun x28_13 T3 n3 h16 ρ its hS hdr => ?_
  refine LV.nextM [3] (by kernel_rfl) (fun _ => hdr) ?_
  refine MV.force (i := 9) rfl ?_
  obtain ⟨T4, its1, h17, hS, hW⟩ := shrK_inv hS h16
  refine LV.world hW ?_
  refine LV.app hS h17 rfl rfl rfl rfl Rnf.el150 rfl rfl rfl fun x29_14 T5 n5 h18 ρ its hS => ?_
  refine LV.nextM [] (by kernel_rfl) (fun z => absurd rfl z) ?_
  refine MV.force (i := 10) rfl ?_
  refine vy (V.nc h18 rfl) fun x30_15 h19 => ?_
  refine LV.nextM [] (by kernel_rfl) (fun z => absurd rfl z) ?_
  refine MV.force (i := 11) rfl ?_
  refine LV.st hS h19 rfl rfl rfl Rnf.siz150 rfl rfl fun T6 its h20 hS => ?_
  refine LV.nextM [] (by kernel_rfl) (fun z => absurd rfl z) ?_
  refine MV.done ?_
  refine PV.blockN ?_
  cases h20
  exact PV.ret (by simp) Tryz.results145 hS RS.nil rfl
 ·
  clear h1 h2 h3 h4 h5 h6 h7 h8 h9
  subst e
  refine sr ?_
  refine vy (V.eq h10 rfl rfl) fun x32_16 h21 => ?_
  refine as_ ?_
  refine dn ?_
  refine CV.cond h21 rfl (fun e h22 => ?_) (fun e h22 => ?_)
  ·
   clear h10 h21
   subst e
   cases h22
  ·
   clear h10 h21
   subst e
   refine CV.skip ?_
   refine PV.blockN ?_
   cases h22
   exact PV.ret (by simp) Tryz.results145 hS RS.nil rfl
noncomputable def g84_b2 (ih : FuncId → List HT → List AV → HT → Nat → R) (ro : List HT) (lp2 : AV → AV → AV → AV → AV → HT → Nat → R) (y0 y2 y91 y92 y93 : AV) (T9 : HT) (n9 : Nat) : R :=
 ltK Tryz.prog 3 (.tmp 93) (.tmp 92) 840050 y93 y92 fun x94_27 =>
 condK 840051 x94_27
 (
  iaK 840052 y91 y93 1 fun x95_28 =>
  ldK 840053 T9 ro x95_28 fun x96_29 =>
  callK (ih 84 ro [y0, x96_29, y2] T9 n9) fun x100_30 T10 n10 =>
  addK Tryz.prog 3 (.tmp 93) (.const (.int .i64 (.ofNat 1))) 840059 y93 (.lit (.int .i64 (.ofNat 1))) fun x101_31 =>
  lp2 y0 y2 y91 y92 x101_31 T10 n10
 )
 (
  .ok (.val (.tup [])) T9 n9
 )
noncomputable def g84_k1 (ih : FuncId → List HT → List AV → HT → Nat → R) (ro : List HT) (y0 y1 y2 y6 y21 y22 : AV) (T3 : HT) (n3 : Nat) : R :=
 condK 840010 y22
 (
  faK 840012 y6 4 fun x26_7 =>
  ldK 840013 T3 ro x26_7 fun x27_8 =>
  iaK 840014 x27_8 (.lit (.int .i64 (.ofNat 0))) 1 fun x28_9 =>
  ldK 840015 T3 ro x28_9 fun x29_10 =>
  callK (g145 ro y0 x29_10 y2 T3 n3) fun x31_11 T4 n4 =>
  .ok (.val (.tup [])) T4 n4
 )
 (
  eqK Tryz.prog 3 (.tmp 21) (.const (.int .i64 (.ofNat 44))) 840018 y21 (.lit (.int .i64 (.ofNat 44))) fun x33_12 =>
  condK 840020 x33_12
  (
   .bad 840021
  )
  (
   eqK Tryz.prog 3 (.tmp 21) (.const (.int .i64 (.ofNat 45))) 840022 y21 (.lit (.int .i64 (.ofNat 45))) fun x49_13 =>
   condK 840024 x49_13
   (
    ncK 840027 y2 fun x52_14 =>
    ldK 840028 T3 ro x52_14 fun x53_15 =>
    faK 840030 y6 3 fun x55_16 =>
    ldK 840031 T3 ro x55_16 fun x56_17 =>
    optK 840032 (bld155 [(0, y1), (1, x56_17)]) fun x57_18 =>
    bsK 840033 T3 n3 1 155 2 [(0, x57_18)] fun x58_19 T5 n5 =>
    shrK 840035 T5 x53_15 fun T6 =>
    appK 840034 T6 ro n5 155 2 24 x53_15 x58_19 fun x59_20 T7 n7 =>
    ncK 840036 y2 fun x60_21 =>
    stK 840037 T7 x60_21 x59_20 fun T8 =>
    .ok (.val (.tup [])) T8 n7
   )
   (
    eqK Tryz.prog 3 (.tmp 21) (.const (.int .i64 (.ofNat 42))) 840038 y21 (.lit (.int .i64 (.ofNat 42))) fun x62_22 =>
    condK 840040 x62_22
    (
     .bad 840041
    )
    (
     eqK Tryz.prog 3 (.tmp 21) (.const (.int .i64 (.ofNat 47))) 840042 y21 (.lit (.int .i64 (.ofNat 47))) fun x89_23 =>
     condK 840044 x89_23
     (
      faK 840045 y6 4 fun x90_24 =>
      ldK 840046 T3 ro x90_24 fun x91_25 =>
      lenSK 840047 x91_25 fun x92_26 =>
      lpf5 840049 (g84_b2 ih ro) 100000 y0 y2 x91_25 x92_26 (.lit (.int .i64 (.ofNat 0))) T3 n3
     )
     (
      eqK Tryz.prog 3 (.tmp 21) (.const (.int .i64 (.ofNat 43))) 840061 y21 (.lit (.int .i64 (.ofNat 43))) fun x103_32 =>
      condK 840063 x103_32
      (
       .bad 840064
      )
      (
       .ok (.val (.tup [])) T3 n3
      )
     )
    )
   )
  )
 )
noncomputable def g84 (ih : FuncId → List HT → List AV → HT → Nat → R) (ro : List HT) (a0 a1 a2 : AV) (T : HT) (nx : Nat) : R :=
 fldK 840002 T ro a0 0 fun x16_1 =>
 iaK 840004 x16_1 a1 5 fun x18_2 =>
 ldAK 840005 T ro x18_2 5 fun x19_3 =>
 newK T nx (.obj [.lit (.int .i64 0), .lit (.int .i64 0), .lit (.int .i64 0), .lit (.string ⟨#[]⟩), .lit (.slice none 0 0)] 32) fun x6_4 T1 n1 =>
 stAK 840007 T1 x6_4 x19_3 5 fun T2 =>
 faK 840008 x6_4 0 fun x20_5 =>
 ldK 840009 T2 ro x20_5 fun x21_6 =>
 eqK Tryz.prog 3 (.tmp 21) (.const (.int .i64 (.ofNat 36))) 840065 x21_6 (.lit (.int .i64 (.ofNat 36))) fun x23_33 =>
 condK 840067 x23_33
 (
  g84_k1 ih ro a0 a1 a2 x6_4 x21_6 (.lit (.bool true)) T2 n1
 )
 (
  eqK Tryz.prog 3 (.tmp 21) (.const (.int .i64 (.ofNat 37))) 840068 x21_6 (.lit (.int .i64 (.ofNat 37))) fun x24_34 =>
  g84_k1 ih ro a0 a1 a2 x6_4 x21_6 x24_34 T2 n1
 )
theorem g84_ok (ih : FuncId → List HT → List AV → HT → Nat → R) (hI : ∀ f ro args T nx, GOk Tryz.prog envE f args ro T nx (ih f ro args T nx)) (ro : List HT) (a0 a1 a2 : AV) (T : HT) (nx : Nat) : GOk Tryz.prog envE 84 [a0, a1, a2] ro T nx (g84 ih ro a0 a1 a2 T nx) := by
 refine GOk.of_body Tryz.func84 rfl Tryz.ntmps84 (by kernel_rfl) rfl fun r T' n' h1 w0 base ρ0 its hS hP => ?_
 have X : CtxW envE ρ0 ro r T' n' := trivial
 unfold g84 at h1
 refine sr ?_
 refine mv ?_
 refine fl hS h1 Rnf.fo114_0 Rnf.one23 fun x16_1 h2 => ?_
 refine mv ?_
 refine vy (V.ia h2 rfl rfl Rnf.el23) fun x18_2 h3 => ?_
 refine vy (V.ldA hS h3 rfl Rnf.agg32) fun x19_3 h4 => ?_
 refine LV.alloc hS h4 rfl Rnf.zr32 rfl rfl rfl fun x6_4 T1 n1 h5 ρ its hS hdr => ?_
 refine LV.stA hS h5 rfl rfl rfl Rnf.agg32 rfl rfl rfl fun T2 its h6 hS => ?_
 refine dn ?_
 refine sr ?_
 refine vy (V.fa h6 rfl Rnf.fo32_0) fun x20_5 h7 => ?_
 refine vy (V.ld hS h7 rfl Rnf.one3) fun x21_6 h8 => ?_
 refine dn ?_
 refine CV.block ?_
 refine cs6 X 0 1 2 6 21 22 [] (g84_k1 ih ro) ?_ ?_
 ·
  refine sr ?_
  refine vy (V.eq h8 rfl rfl) fun x23_33 h46 => ?_
  refine as_ ?_
  refine dn ?_
  refine CV.cond h46 rfl (fun e h47 => ?_) (fun e h47 => ?_)
  ·
   clear h1 h2 h3 h4 h5 h6 h7 h8 h46
   subst e
   refine CV.skip ?_
   exact pa6 hS h47 ⟨rfl, rfl, rfl, rfl, rfl, rfl, trivial⟩
  ·
   clear h1 h2 h3 h4 h5 h6 h7 h8 h46
   subst e
   refine CV.region ?_
   refine vy (V.eq h47 rfl rfl) fun x24_34 h48 => ?_
   refine as_ ?_
   refine LV.done ?_
   exact pa6 hS h48 ⟨rfl, rfl, rfl, rfl, rfl, rfl, trivial⟩
 ·
  intro y0 y1 y2 y6 y21 y22 T3 n3 ρ its hS h9
  unfold g84_k1 at h9
  clear h1 h2 h3 h4 h5 h6 h7 h8
  refine CV.cond h9 rfl (fun e h10 => ?_) (fun e h10 => ?_)
  ·
   clear h9
   subst e
   refine CV.region ?_
   refine mv ?_
   refine vy (V.fa h10 rfl Rnf.fo32_4) fun x26_7 h11 => ?_
   refine vy (V.ld hS h11 rfl Rnf.one30) fun x27_8 h12 => ?_
   refine vy (V.ia h12 rfl rfl Rnf.el30) fun x28_9 h13 => ?_
   refine vy (V.ld hS h13 rfl Rnf.one3) fun x29_10 h14 => ?_
   refine mv ?_
   refine LV.call hS h14 (g145_ok _ _ _ _ _ _ ) hP rfl rfl rfl rfl fun x31_11 T4 n4 h15 ρ its hS => ?_
   refine LV.done ?_
   refine PV.blockN ?_
   cases h15
   exact PV.ret (by simp) Tryz.results84 hS RS.nil rfl
  ·
   clear h9
   subst e
   refine sr ?_
   refine vy (V.eq h10 rfl rfl) fun x33_12 h16 => ?_
   refine as_ ?_
   refine dn ?_
   refine CV.cond h16 rfl (fun e h17 => ?_) (fun e h17 => ?_)
   ·
    clear h10 h16
    subst e
    cases h17
   ·
    clear h10 h16
    subst e
    refine sr ?_
    refine vy (V.eq h17 rfl rfl) fun x49_13 h18 => ?_
    refine as_ ?_
    refine dn ?_
    refine CV.cond h18 rfl (fun e h19 => ?_) (fun e h19 => ?_)
    ·
     clear h17 h18
     subst e
     refine CV.regionM [(0, .anywhere), (1, .anywhere), (2, .anywhere), (3, .held), (4, .anywhere), (5, .anywhere), (6, .held), (7, .held), (8, .alone), (9, .alone), (10, .alone), (11, .alone)] rfl (fun c a a' w hd hq => PanicOk.root (P := Tryz.prog) (fn := Tryz.f84) (w0 := w0) (base := base) (E := envE) (ro := ro) (r := r) (T' := T') (n' := n') (ρ0 := ρ0) c a a' w hd hq) (by kernel_rfl) ?_
     refine MV.step0 (i := 0) rfl (VAL.move rfl) rfl rfl rfl ?_
     refine MV.step0 (i := 1) rfl (VAL.move rfl) rfl rfl rfl ?_
     refine MV.lift0 (i := 2) rfl (V.nc h19 rfl) rfl rfl rfl fun x52_14 h20 => ?_
     refine MV.lift1 (i := 3) rfl (fun _ z => z) (V.ld hS h20 rfl Rnf.one150) rfl rfl rfl [] (by kernel_rfl) fun x53_15 h21 => ?_
     refine MV.step0 (i := 4) rfl (VAL.move rfl) rfl rfl rfl ?_
     refine MV.lift0 (i := 5) rfl (V.fa h21 rfl Rnf.fo32_3) rfl rfl rfl fun x55_16 h22 => ?_
     refine MV.lift1 (i := 6) rfl (fun _ z => z) (V.ld hS h22 rfl Rnf.one9) rfl rfl rfl [3] (by kernel_rfl) fun x56_17 h23 => ?_
     refine MV.lift1 (i := 7) rfl (fun _ z => z) (V.bld h23 rfl) rfl rfl rfl [3] (by kernel_rfl) fun x57_18 h24 => ?_
     refine MV.force (i := 8) rfl ?_
     refine LV.bslice hS h24 rfl rfl Rnf.el150 rfl rfl rfl rfl fun x58_19 T5 n5 h25 ρ its hS hdr => ?_
     refine LV.nextM [3] (by kernel_rfl) (fun _ => hdr) ?_
     refine MV.force (i := 9) rfl ?_
     obtain ⟨T6, its1, h26, hS, hW⟩ := shrK_inv hS h25
     refine LV.world hW ?_
     refine LV.app hS h26 rfl rfl rfl rfl Rnf.el150 rfl rfl rfl fun x59_20 T7 n7 h27 ρ its hS => ?_
     refine LV.nextM [] (by kernel_rfl) (fun z => absurd rfl z) ?_
     refine MV.force (i := 10) rfl ?_
     refine vy (V.nc h27 rfl) fun x60_21 h28 => ?_
     refine LV.nextM [] (by kernel_rfl) (fun z => absurd rfl z) ?_
     refine MV.force (i := 11) rfl ?_
     refine LV.st hS h28 rfl rfl rfl Rnf.siz150 rfl rfl fun T8 its h29 hS => ?_
     refine LV.nextM [] (by kernel_rfl) (fun z => absurd rfl z) ?_
     refine MV.done ?_
     refine PV.blockN ?_
     cases h29
     exact PV.ret (by simp) Tryz.results84 hS RS.nil rfl
    ·
     clear h17 h18
     subst e
     refine sr ?_
     refine vy (V.eq h19 rfl rfl) fun x62_22 h30 => ?_
     refine as_ ?_
     refine dn ?_
     refine CV.cond h30 rfl (fun e h31 => ?_) (fun e h31 => ?_)
     ·
      clear h19 h30
      subst e
      cases h31
     ·
      clear h19 h30
      subst e
      refine sr ?_
      refine vy (V.eq h31 rfl rfl) fun x89_23 h32 => ?_
      refine as_ ?_
      refine dn ?_
      refine CV.cond h32 rfl (fun e h33 => ?_) (fun e h33 => ?_)
      ·
       clear h31 h32
       subst e
       refine sr ?_
       refine vy (V.fa h33 rfl Rnf.fo32_4) fun x90_24 h34 => ?_
       refine vy (V.ld hS h34 rfl Rnf.one30) fun x91_25 h35 => ?_
       refine vy (V.lenS h35 rfl Rnf.ls30) fun x92_26 h36 => ?_
       refine mv ?_
       refine dn ?_
       refine CV.block ?_
       refine cl5 X 0 2 91 92 93 [] hS h36 ⟨rfl, rfl, rfl, rfl, rfl, trivial⟩ ?_
       intro f2 y0 y2 y91 y92 y93 T9 n9 ρ its hS h37
       unfold g84_b2 at h37
       clear h33 h34 h35 h36
       refine sr ?_
       refine vy (V.lt h37 rfl rfl) fun x94_27 h38 => ?_
       refine dn ?_
       refine CV.seq ?_
       refine CV.cond h38 rfl (fun e h39 => ?_) (fun e h39 => ?_)
       ·
        clear h37 h38
        subst e
        refine CV.skip ?_
        refine PV.thenN ?_
        refine CV.seq ?_
        refine CV.block ?_
        refine sr ?_
        refine vy (V.ia h39 rfl rfl Rnf.el30) fun x95_28 h40 => ?_
        refine vy (V.ld hS h40 rfl Rnf.one3) fun x96_29 h41 => ?_
        refine as_ ?_
        refine dn ?_
        refine CV.region ?_
        refine mv ?_
        refine mv ?_
        refine mv ?_
        refine LV.call hS h41 (hI _ _ _ _ _) hP rfl rfl rfl rfl fun x100_30 T10 n10 h42 ρ its hS => ?_
        refine LV.done ?_
        refine PV.blockN ?_
        refine PV.thenN ?_
        refine CV.region ?_
        refine vy (V.add h42 rfl rfl) fun x101_31 h43 => ?_
        refine mv ?_
        refine LV.done ?_
        exact pb5 hS h43 ⟨rfl, rfl, rfl, rfl, rfl, trivial⟩
       ·
        clear h37 h38
        subst e
        refine CV.exit ?_
        refine PV.thenE ?_
        refine PV.thenE ?_
        refine PV.blockE ?_
        refine PV.blockN ?_
        cases h39
        exact PV.ret (by simp) Tryz.results84 hS RS.nil rfl
      ·
       clear h31 h32
       subst e
       refine sr ?_
       refine vy (V.eq h33 rfl rfl) fun x103_32 h44 => ?_
       refine as_ ?_
       refine dn ?_
       refine CV.cond h44 rfl (fun e h45 => ?_) (fun e h45 => ?_)
       ·
        clear h33 h44
        subst e
        cases h45
       ·
        clear h33 h44
        subst e
        refine CV.skip ?_
        refine PV.blockN ?_
        cases h45
        exact PV.ret (by simp) Tryz.results84 hS RS.nil rfl
noncomputable def ap6 (ih : FuncId → List HT → List AV → HT → Nat → R) (f : FuncId) (ro : List HT) (args : List AV) (T : HT) (nx : Nat) : R :=
  Bool.rec (motive := fun _ => R) (.bad 2) (List.rec (motive := fun _ => R) (.bad 1) (fun a0 l0 _ => List.rec (motive := fun _ => R) (.bad 1) (fun a1 l1 _ => List.rec (motive := fun _ => R) (.bad 1) (fun a2 l2 _ => List.rec (motive := fun _ => R) (g84 ih ro a0 a1 a2 T nx) (fun _ _ _ => .bad 1) l2) l1) l0) args) (Nat.beq f 84)
noncomputable def scc6 (fuel : Nat) : FuncId → List HT → List AV → HT → Nat → R :=
  Nat.rec (motive := fun _ => FuncId → List HT → List AV → HT → Nat → R) (fun _ _ _ _ _ => .bad 3) (fun _ ih => ap6 ih) fuel
theorem ap6_ok (ih : FuncId → List HT → List AV → HT → Nat → R) (hI : ∀ f ro args T nx, GOk Tryz.prog envE f args ro T nx (ih f ro args T nx)) (f : FuncId) (ro : List HT) (args : List AV) (T : HT) (nx : Nat) : GOk Tryz.prog envE f args ro T nx (ap6 ih f ro args T nx) := by
  unfold ap6
  refine recb_go (fun hb => ?_) (fun _ => ?_)
  · obtain rfl := beqT hb
    rcases args with _ | ⟨a0, l0⟩
    · exact GOk.bad
    rcases l0 with _ | ⟨a1, l1⟩
    · exact GOk.bad
    rcases l1 with _ | ⟨a2, l2⟩
    · exact GOk.bad
    rcases l2 with _ | ⟨_, _⟩
    · exact g84_ok _ hI _ _ _ _ _ _ 
    · exact GOk.bad
  · exact GOk.bad
theorem scc6_ok : ∀ (fuel : Nat) (f : FuncId) (ro : List HT) (args : List AV) (T : HT) (nx : Nat), GOk Tryz.prog envE f args ro T nx (scc6 fuel f ro args T nx)
  | 0, _, _, _, _, _ => GOk.bad
  | fuel + 1, f, ro, args, T, nx => ap6_ok (scc6 fuel) (scc6_ok fuel) f ro args T nx
noncomputable def g161_k2 (ro : List HT) (y0 y2 : AV) (T2 : HT) (n2 : Nat) : R :=
 optK 1610004 (convV Tryz.prog 209 5 y0) fun x15_1 =>
 ixK 1610005 (.lit (.string ⟨⟨[0, 1, 2, 2, 3, 3, 3, 3, 4, 4, 4, 4, 4, 4, 4, 4, 5, 5, 5, 5, 5, 5, 5, 5, 5, 5, 5, 5, 5, 5, 5, 5, 6, 6, 6, 6, 6, 6, 6, 6, 6, 6, 6, 6, 6, 6, 6, 6, 6, 6, 6, 6, 6, 6, 6, 6, 6, 6, 6, 6, 6, 6, 6, 6, 7, 7, 7, 7, 7, 7, 7, 7, 7, 7, 7, 7, 7, 7, 7, 7, 7, 7, 7, 7, 7, 7, 7, 7, 7, 7, 7, 7, 7, 7, 7, 7, 7, 7, 7, 7, 7, 7, 7, 7, 7, 7, 7, 7, 7, 7, 7, 7, 7, 7, 7, 7, 7, 7, 7, 7, 7, 7, 7, 7, 7, 7, 7, 7, 8, 8, 8, 8, 8, 8, 8, 8, 8, 8, 8, 8, 8, 8, 8, 8, 8, 8, 8, 8, 8, 8, 8, 8, 8, 8, 8, 8, 8, 8, 8, 8, 8, 8, 8, 8, 8, 8, 8, 8, 8, 8, 8, 8, 8, 8, 8, 8, 8, 8, 8, 8, 8, 8, 8, 8, 8, 8, 8, 8, 8, 8, 8, 8, 8, 8, 8, 8, 8, 8, 8, 8, 8, 8, 8, 8, 8, 8, 8, 8, 8, 8, 8, 8, 8, 8, 8, 8, 8, 8, 8, 8, 8, 8, 8, 8, 8, 8, 8, 8, 8, 8, 8, 8, 8, 8, 8, 8, 8, 8, 8, 8, 8, 8, 8, 8, 8, 8, 8, 8, 8, 8, 8, 8, 8, 8, 8, 8]⟩⟩)) x15_1 fun x16_2 =>
 optK 1610006 (convV Tryz.prog 5 3 x16_2) fun x17_3 =>
 addK Tryz.prog 3 (.tmp 13) (.tmp 17) 1610007 y2 x17_3 fun x18_4 =>
 .ok (.val x18_4) T2 n2
noncomputable def g161_k1 (ro : List HT) (y0 y2 : AV) (T1 : HT) (n1 : Nat) : R :=
 geK Tryz.prog 209 (.tmp 7) (.const (.int .u32 (.ofNat 256))) 1610010 y0 (.lit (.int .u32 (.ofNat 256))) fun x8_5 =>
 condK 1610011 x8_5
 (
  bin0 Tryz.prog .shr 209 (.tmp 9) (.const (.int .u64 (.ofNat 8))) 1610013 y0 (.lit (.int .u64 (.ofNat 8))) fun x10_6 =>
  addK Tryz.prog 3 (.tmp 11) (.const (.int .i64 (.ofNat 8))) 1610016 y2 (.lit (.int .i64 (.ofNat 8))) fun x12_7 =>
  g161_k2 ro x10_6 x12_7 T1 n1
 )
 (
  g161_k2 ro y0 y2 T1 n1
 )
noncomputable def g161 (ro : List HT) (a0 : AV) (T : HT) (nx : Nat) : R :=
 geK Tryz.prog 209 (.tmp 3) (.const (.int .u32 (.ofNat 65536))) 1610019 a0 (.lit (.int .u32 (.ofNat 65536))) fun x4_8 =>
 condK 1610020 x4_8
 (
  bin0 Tryz.prog .shr 209 (.tmp 5) (.const (.int .u64 (.ofNat 16))) 1610022 a0 (.lit (.int .u64 (.ofNat 16))) fun x6_9 =>
  g161_k1 ro x6_9 (.lit (.int .i64 (.ofNat 16))) T nx
 )
 (
  g161_k1 ro a0 (.lit (.int .i64 (.ofNat 0))) T nx
 )
theorem g161_ok (ro : List HT) (a0 : AV) (T : HT) (nx : Nat) : GOk Tryz.prog envE 161 [a0] ro T nx (g161 ro a0 T nx) := by
 refine GOk.of_body Tryz.func161 rfl Tryz.ntmps161 (by kernel_rfl) rfl fun r T' n' h1 w0 base ρ0 its hS hP => ?_
 have X : CtxW envE ρ0 ro r T' n' := trivial
 unfold g161 at h1
 refine sr ?_
 refine as_ ?_
 refine dn ?_
 refine cs2 X 0 2 [] (g161_k1 ro) ?_ ?_
 ·
  refine sr ?_
  refine mv ?_
  refine vy (V.ge h1 rfl rfl) fun x4_8 h12 => ?_
  refine dn ?_
  refine CV.cond h12 rfl (fun e h13 => ?_) (fun e h13 => ?_)
  ·
   clear h1 h12
   subst e
   refine sr ?_
   refine mv ?_
   refine vy (V.bin0 h13 rfl rfl) fun x6_9 h14 => ?_
   refine as_ ?_
   refine dn ?_
   refine CV.region ?_
   refine as_ ?_
   refine LV.done ?_
   exact pa2 hS h14 ⟨rfl, rfl, trivial⟩
  ·
   clear h1 h12
   subst e
   refine CV.skip ?_
   exact pa2 hS h13 ⟨rfl, rfl, trivial⟩
 ·
  intro y0 y2 T1 n1 ρ its hS h2
  unfold g161_k1 at h2
  clear h1
  refine cs2 X 0 2 [] (g161_k2 ro) ?_ ?_
  ·
   refine sr ?_
   refine mv ?_
   refine vy (V.ge h2 rfl rfl) fun x8_5 h8 => ?_
   refine dn ?_
   refine CV.cond h8 rfl (fun e h9 => ?_) (fun e h9 => ?_)
   ·
    clear h2 h8
    subst e
    refine sr ?_
    refine mv ?_
    refine vy (V.bin0 h9 rfl rfl) fun x10_6 h10 => ?_
    refine as_ ?_
    refine dn ?_
    refine CV.region ?_
    refine mv ?_
    refine vy (V.add h10 rfl rfl) fun x12_7 h11 => ?_
    refine as_ ?_
    refine LV.done ?_
    exact pa2 hS h11 ⟨rfl, rfl, trivial⟩
   ·
    clear h2 h8
    subst e
    refine CV.skip ?_
    exact pa2 hS h9 ⟨rfl, rfl, trivial⟩
  ·
   intro y0 y2 T2 n2 ρ its hS h3
   unfold g161_k2 at h3
   clear h2
   refine sr ?_
   refine mv ?_
   refine mv ?_
   refine vy (V.conv h3 rfl) fun x15_1 h4 => ?_
   refine vy (V.ix h4 rfl rfl Rnf.st9) fun x16_2 h5 => ?_
   refine vy (V.conv h5 rfl) fun x17_3 h6 => ?_
   refine vy (V.add h6 rfl rfl) fun x18_4 h7 => ?_
   refine as_ ?_
   refine dn ?_
   refine CV.ret ?_
   cases h7
   exact PV.ret (by simp) Tryz.results161 hS (RS.tmp rfl RS.nil) rfl
noncomputable def g162_k3 (ro : List HT) (y0 y2 : AV) (T3 : HT) (n3 : Nat) : R :=
 optK 1620004 (convV Tryz.prog 211 5 y0) fun x21_1 =>
 ixK 1620005 (.lit (.string ⟨⟨[0, 1, 2, 2, 3, 3, 3, 3, 4, 4, 4, 4, 4, 4, 4, 4, 5, 5, 5, 5, 5, 5, 5, 5, 5, 5, 5, 5, 5, 5, 5, 5, 6, 6, 6, 6, 6, 6, 6, 6, 6, 6, 6, 6, 6, 6, 6, 6, 6, 6, 6, 6, 6, 6, 6, 6, 6, 6, 6, 6, 6, 6, 6, 6, 7, 7, 7, 7, 7, 7, 7, 7, 7, 7, 7, 7, 7, 7, 7, 7, 7, 7, 7, 7, 7, 7, 7, 7, 7, 7, 7, 7, 7, 7, 7, 7, 7, 7, 7, 7, 7, 7, 7, 7, 7, 7, 7, 7, 7, 7, 7, 7, 7, 7, 7, 7, 7, 7, 7, 7, 7, 7, 7, 7, 7, 7, 7, 7, 8, 8, 8, 8, 8, 8, 8, 8, 8, 8, 8, 8, 8, 8, 8, 8, 8, 8, 8, 8, 8, 8, 8, 8, 8, 8, 8, 8, 8, 8, 8, 8, 8, 8, 8, 8, 8, 8, 8, 8, 8, 8, 8, 8, 8, 8, 8, 8, 8, 8, 8, 8, 8, 8, 8, 8, 8, 8, 8, 8, 8, 8, 8, 8, 8, 8, 8, 8, 8, 8, 8, 8, 8, 8, 8, 8, 8, 8, 8, 8, 8, 8, 8, 8, 8, 8, 8, 8, 8, 8, 8, 8, 8, 8, 8, 8, 8, 8, 8, 8, 8, 8, 8, 8, 8, 8, 8, 8, 8, 8, 8, 8, 8, 8, 8, 8, 8, 8, 8, 8, 8, 8, 8, 8, 8, 8, 8, 8]⟩⟩)) x21_1 fun x22_2 =>
 optK 1620006 (convV Tryz.prog 5 3 x22_2) fun x23_3 =>
 addK Tryz.prog 3 (.tmp 19) (.tmp 23) 1620007 y2 x23_3 fun x24_4 =>
 .ok (.val x24_4) T3 n3
noncomputable def g162_k2 (ro : List HT) (y0 y2 : AV) (T2 : HT) (n2 : Nat) : R :=
 geK Tryz.prog 211 (.tmp 13) (.const (.int .u64 (.ofNat 256))) 1620010 y0 (.lit (.int .u64 (.ofNat 256))) fun x14_5 =>
 condK 1620011 x14_5
 (
  bin0 Tryz.prog .shr 211 (.tmp 15) (.const (.int .u64 (.ofNat 8))) 1620013 y0 (.lit (.int .u64 (.ofNat 8))) fun x16_6 =>
  addK Tryz.prog 3 (.tmp 17) (.const (.int .i64 (.ofNat 8))) 1620016 y2 (.lit (.int .i64 (.ofNat 8))) fun x18_7 =>
  g162_k3 ro x16_6 x18_7 T2 n2
 )
 (
  g162_k3 ro y0 y2 T2 n2
 )
noncomputable def g162_k1 (ro : List HT) (y0 y2 : AV) (T1 : HT) (n1 : Nat) : R :=
 geK Tryz.prog 211 (.tmp 7) (.const (.int .u64 (.ofNat 65536))) 1620019 y0 (.lit (.int .u64 (.ofNat 65536))) fun x8_8 =>
 condK 1620020 x8_8
 (
  bin0 Tryz.prog .shr 211 (.tmp 9) (.const (.int .u64 (.ofNat 16))) 1620022 y0 (.lit (.int .u64 (.ofNat 16))) fun x10_9 =>
  addK Tryz.prog 3 (.tmp 11) (.const (.int .i64 (.ofNat 16))) 1620025 y2 (.lit (.int .i64 (.ofNat 16))) fun x12_10 =>
  g162_k2 ro x10_9 x12_10 T1 n1
 )
 (
  g162_k2 ro y0 y2 T1 n1
 )
noncomputable def g162 (ro : List HT) (a0 : AV) (T : HT) (nx : Nat) : R :=
 geK Tryz.prog 211 (.tmp 3) (.const (.int .u64 (.ofNat 4294967296))) 1620028 a0 (.lit (.int .u64 (.ofNat 4294967296))) fun x4_11 =>
 condK 1620029 x4_11
 (
  bin0 Tryz.prog .shr 211 (.tmp 5) (.const (.int .u64 (.ofNat 32))) 1620031 a0 (.lit (.int .u64 (.ofNat 32))) fun x6_12 =>
  g162_k1 ro x6_12 (.lit (.int .i64 (.ofNat 32))) T nx
 )
 (
  g162_k1 ro a0 (.lit (.int .i64 (.ofNat 0))) T nx
 )
theorem g162_ok (ro : List HT) (a0 : AV) (T : HT) (nx : Nat) : GOk Tryz.prog envE 162 [a0] ro T nx (g162 ro a0 T nx) := by
 refine GOk.of_body Tryz.func162 rfl Tryz.ntmps162 (by kernel_rfl) rfl fun r T' n' h1 w0 base ρ0 its hS hP => ?_
 have X : CtxW envE ρ0 ro r T' n' := trivial
 unfold g162 at h1
 refine sr ?_
 refine as_ ?_
 refine dn ?_
 refine cs2 X 0 2 [] (g162_k1 ro) ?_ ?_
 ·
  refine sr ?_
  refine mv ?_
  refine vy (V.ge h1 rfl rfl) fun x4_11 h17 => ?_
  refine dn ?_
  refine CV.cond h17 rfl (fun e h18 => ?_) (fun e h18 => ?_)
  ·
   clear h1 h17
   subst e
   refine sr ?_
   refine mv ?_
   refine vy (V.bin0 h18 rfl rfl) fun x6_12 h19 => ?_
   refine as_ ?_
   refine dn ?_
   refine CV.region ?_
   refine as_ ?_
   refine LV.done ?_
   exact pa2 hS h19 ⟨rfl, rfl, trivial⟩
  ·
   clear h1 h17
   subst e
   refine CV.skip ?_
   exact pa2 hS h18 ⟨rfl, rfl, trivial⟩
 ·
  intro y0 y2 T1 n1 ρ its hS h2
  unfold g162_k1 at h2
  clear h1
  refine cs2 X 0 2 [] (g162_k2 ro) ?_ ?_
  ·
   refine sr ?_
   refine mv ?_
   refine vy (V.ge h2 rfl rfl) fun x8_8 h13 => ?_
   refine dn ?_
   refine CV.cond h13 rfl (fun e h14 => ?_) (fun e h14 => ?_)
   ·
    clear h2 h13
    subst e
    refine sr ?_
    refine mv ?_
    refine vy (V.bin0 h14 rfl rfl) fun x10_9 h15 => ?_
    refine as_ ?_
    refine dn ?_
    refine CV.region ?_
    refine mv ?_
    refine vy (V.add h15 rfl rfl) fun x12_10 h16 => ?_
    refine as_ ?_
    refine LV.done ?_
    exact pa2 hS h16 ⟨rfl, rfl, trivial⟩
   ·
    clear h2 h13
    subst e
    refine CV.skip ?_
    exact pa2 hS h14 ⟨rfl, rfl, trivial⟩
  ·
   intro y0 y2 T2 n2 ρ its hS h3
   unfold g162_k2 at h3
   clear h2
   refine cs2 X 0 2 [] (g162_k3 ro) ?_ ?_
   ·
    refine sr ?_
    refine mv ?_
    refine vy (V.ge h3 rfl rfl) fun x14_5 h9 => ?_
    refine dn ?_
    refine CV.cond h9 rfl (fun e h10 => ?_) (fun e h10 => ?_)
    ·
     clear h3 h9
     subst e
     refine sr ?_
     refine mv ?_
     refine vy (V.bin0 h10 rfl rfl) fun x16_6 h11 => ?_
     refine as_ ?_
     refine dn ?_
     refine CV.region ?_
     refine mv ?_
     refine vy (V.add h11 rfl rfl) fun x18_7 h12 => ?_
     refine as_ ?_
     refine LV.done ?_
     exact pa2 hS h12 ⟨rfl, rfl, trivial⟩
    ·
     clear h3 h9
     subst e
     refine CV.skip ?_
     exact pa2 hS h10 ⟨rfl, rfl, trivial⟩
   ·
    intro y0 y2 T3 n3 ρ its hS h4
    unfold g162_k3 at h4
    clear h3
    refine sr ?_
    refine mv ?_
    refine mv ?_
    refine vy (V.conv h4 rfl) fun x21_1 h5 => ?_
    refine vy (V.ix h5 rfl rfl Rnf.st9) fun x22_2 h6 => ?_
    refine vy (V.conv h6 rfl) fun x23_3 h7 => ?_
    refine vy (V.add h7 rfl rfl) fun x24_4 h8 => ?_
    refine as_ ?_
    refine dn ?_
    refine CV.ret ?_
    cases h8
    exact PV.ret (by simp) Tryz.results162 hS (RS.tmp rfl RS.nil) rfl
noncomputable def g92 (ro : List HT) (a0 : AV) (T : HT) (nx : Nat) : R :=
 condK 920002 (.lit (.bool false))
 (
  .bad 0
 )
 (
  callK (g162 ro a0 T nx) fun x7_1 T1 n1 =>
  .ok (.val x7_1) T1 n1
 )
theorem g92_ok (ro : List HT) (a0 : AV) (T : HT) (nx : Nat) : GOk Tryz.prog envE 92 [a0] ro T nx (g92 ro a0 T nx) := by
 refine GOk.of_body Tryz.func92 rfl Tryz.ntmps92 (by kernel_rfl) rfl fun r T' n' h1 w0 base ρ0 its hS hP => ?_
 have X : CtxW envE ρ0 ro r T' n' := trivial
 unfold g92 at h1
 refine sr ?_
 refine as_ ?_
 refine dn ?_
 refine CV.seq ?_
 refine CV.cond h1 rfl (fun e h2 => ?_) (fun e h2 => ?_)
 ·
  clear h1
  cases e
 ·
  clear h1
  refine CV.skip ?_
  refine PV.thenN ?_
  refine sr ?_
  refine mv ?_
  refine LV.call hS h2 (g162_ok _ _ _ _ ) hP rfl rfl rfl rfl fun x7_1 T1 n1 h3 ρ its hS => ?_
  refine as_ ?_
  refine dn ?_
  refine CV.ret ?_
  cases h3
  exact PV.ret (by simp) Tryz.results92 hS (RS.tmp rfl RS.nil) rfl
noncomputable def g192_k3 (ro : List HT) (lp1 : AV → AV → AV → AV → AV → HT → Nat → R) (lp2 : AV → AV → AV → AV → AV → AV → HT → Nat → R) (y0 y1 y2 y3 y8 y9 y34 : AV) (T3 : HT) (n3 : Nat) : R :=
 condK 1920012 y34
 (
  subK Tryz.prog 3 (.tmp 40) (.const (.int .i64 (.ofNat 1))) 1920017 y9 (.lit (.int .i64 (.ofNat 1))) fun x41_3 =>
  subK Tryz.prog 3 (.tmp 43) (.const (.int .i64 (.ofNat 1))) 1920020 y9 (.lit (.int .i64 (.ofNat 1))) fun x44_4 =>
  iaK 1920021 y0 x44_4 2 fun x45_5 =>
  ldAK 1920022 T3 ro x45_5 2 fun x46_6 =>
  iaK 1920025 y0 y9 2 fun x49_7 =>
  ldAK 1920026 T3 ro x49_7 2 fun x50_8 =>
  iaK 1920027 y0 y9 2 fun x51_9 =>
  stAK 1920028 T3 x51_9 x46_6 2 fun T4 =>
  iaK 1920029 y0 x41_3 2 fun x52_10 =>
  stAK 1920030 T4 x52_10 x50_8 2 fun T5 =>
  subK Tryz.prog 3 (.tmp 35) (.const (.int .i64 (.ofNat 1))) 1920032 y9 (.lit (.int .i64 (.ofNat 1))) fun x36_11 =>
  lp2 y0 y1 y2 y3 y8 x36_11 T5 n3
 )
 (
  addK Tryz.prog 3 (.tmp 15) (.const (.int .i64 (.ofNat 1))) 1920035 y8 (.lit (.int .i64 (.ofNat 1))) fun x16_12 =>
  lp1 y0 y1 y2 y3 x16_12 T3 n3
 )
noncomputable def g192_b2 (ro : List HT) (lp1 : AV → AV → AV → AV → AV → HT → Nat → R) (lp2 : AV → AV → AV → AV → AV → AV → HT → Nat → R) (y0 y1 y2 y3 y8 y9 : AV) (T2 : HT) (n2 : Nat) : R :=
 gtK Tryz.prog 3 (.tmp 18) (.tmp 19) 1920039 y9 y1 fun x20_13 =>
 condK 1920041 x20_13
 (
  iaK 1920045 y0 y9 2 fun x25_14 =>
  ldAK 1920046 T2 ro x25_14 2 fun x26_15 =>
  subK Tryz.prog 3 (.tmp 28) (.const (.int .i64 (.ofNat 1))) 1920049 y9 (.lit (.int .i64 (.ofNat 1))) fun x29_16 =>
  iaK 1920050 y0 x29_16 2 fun x30_17 =>
  ldAK 1920051 T2 ro x30_17 2 fun x31_18 =>
  dynK 1920052 y3 fun f p q => callK (scc3 4000 f ro (p ++ ([x26_15, x31_18] ++ q)) T2 n2) fun x32_19 T6 n6 =>
  ltK Tryz.prog 3 (.tmp 32) (.const (.int .i64 (.ofNat 0))) 1920053 x32_19 (.lit (.int .i64 (.ofNat 0))) fun x33_20 =>
  g192_k3 ro lp1 lp2 y0 y1 y2 y3 y8 y9 x33_20 T6 n6
 )
 (
  g192_k3 ro lp1 lp2 y0 y1 y2 y3 y8 y9 (.lit (.bool false)) T2 n2
 )
noncomputable def g192_b1 (ro : List HT) (lp1 : AV → AV → AV → AV → AV → HT → Nat → R) (y0 y1 y2 y3 y8 : AV) (T1 : HT) (n1 : Nat) : R :=
 ltK Tryz.prog 3 (.tmp 12) (.tmp 13) 1920007 y8 y2 fun x14_2 =>
 condK 1920008 x14_2
 (
  lpf6 1920011 (g192_b2 ro lp1) 100000 y0 y1 y2 y3 y8 y8 T1 n1
 )
 (
  .ok (.val (.tup [])) T1 n1
 )
noncomputable def g192 (ro : List HT) (a0 a1 a2 a3 : AV) (T : HT) (nx : Nat) : R :=
 addK Tryz.prog 3 (.tmp 10) (.const (.int .i64 (.ofNat 1))) 1920002 a1 (.lit (.int .i64 (.ofNat 1))) fun x11_1 =>
 lpf5 1920004 (g192_b1 ro) 100000 a0 a1 a2 a3 x11_1 T nx
theorem g192_ok (ro : List HT) (a0 a1 a2 a3 : AV) (T : HT) (nx : Nat) : GOk Tryz.prog envE 192 [a0, a1, a2, a3] ro T nx (g192 ro a0 a1 a2 a3 T nx) := by
 refine GOk.of_body Tryz.func192 rfl Tryz.ntmps192 (by kernel_rfl) rfl fun r T' n' h1 w0 base ρ0 its hS hP => ?_
 have X : CtxW envE ρ0 ro r T' n' := trivial
 unfold g192 at h1
 refine sr ?_
 refine mv ?_
 refine vy (V.add h1 rfl rfl) fun x11_1 h2 => ?_
 refine as_ ?_
 refine dn ?_
 refine CV.block ?_
 refine cl5 X 0 1 2 3 8 [] hS h2 ⟨rfl, rfl, rfl, rfl, rfl, trivial⟩ ?_
 intro f1 y0 y1 y2 y3 y8 T1 n1 ρ its hS h3
 unfold g192_b1 at h3
 clear h1 h2
 refine CV.seq ?_
 refine sr ?_
 refine mv ?_
 refine mv ?_
 refine vy (V.lt h3 rfl rfl) fun x14_2 h4 => ?_
 refine dn ?_
 refine CV.cond h4 rfl (fun e h5 => ?_) (fun e h5 => ?_)
 ·
  clear h3 h4
  subst e
  refine CV.skip ?_
  refine PV.thenN ?_
  refine CV.seq ?_
  refine CV.block ?_
  refine sr ?_
  refine mv ?_
  refine as_ ?_
  refine dn ?_
  refine CV.block ?_
  refine cl6 X 0 1 2 3 8 9 [] hS h5 ⟨rfl, rfl, rfl, rfl, rfl, rfl, trivial⟩ ?_
  intro f2 y0 y1 y2 y3 y8 y9 T2 n2 ρ its hS h6
  unfold g192_b2 at h6
  clear h5
  refine CV.seq ?_
  refine cs7 X 0 1 2 3 8 9 34 [] (g192_k3 ro (lpf5 1920004 (g192_b1 ro) f1) (lpf6 1920011 (g192_b2 ro (lpf5 1920004 (g192_b1 ro) f1)) f2)) ?_ ?_
  ·
   refine CV.regionM [(0, .anywhere), (1, .anywhere), (2, .anywhere), (3, .anywhere), (4, .anywhere), (5, .anywhere), (6, .anywhere), (7, .anywhere), (8, .held), (9, .anywhere), (10, .anywhere), (11, .anywhere), (12, .anywhere), (13, .held), (14, .alone), (15, .alone), (16, .alone)] rfl (fun c a a' w hd hq => PanicOk.root (P := Tryz.prog) (fn := Tryz.f192) (w0 := w0) (base := base) (E := envE) (ro := ro) (r := r) (T' := T') (n' := n') (ρ0 := ρ0) c a a' w hd hq) (by kernel_rfl) ?_
   refine MV.step0 (i := 0) rfl (VAL.move rfl) rfl rfl rfl ?_
   refine MV.step0 (i := 1) rfl (VAL.move rfl) rfl rfl rfl ?_
   refine MV.lift0 (i := 2) rfl (V.gt h6 rfl rfl) rfl rfl rfl fun x20_13 h21 => ?_
   refine MV.step0 (i := 3) rfl (VAL.move rfl) rfl rfl rfl ?_
   rcases condK_inv h21 with ⟨e, h22⟩ | ⟨e, h22⟩
   ·
    clear h6 h21
    subst e
    refine MV.step0 (i := 4) rfl (VAL.move rfl) rfl rfl rfl ?_
    refine MV.step0 (i := 5) rfl (VAL.move rfl) rfl rfl rfl ?_
    refine MV.step0 (i := 6) rfl (VAL.move rfl) rfl rfl rfl ?_
    refine MV.lift0 (i := 7) rfl (V.ia h22 rfl rfl Rnf.el150) rfl rfl rfl fun x25_14 h23 => ?_
    refine MV.lift1 (i := 8) rfl (fun _ z => z) (V.ldA hS h23 rfl Rnf.agg155) rfl rfl rfl [] (by kernel_rfl) fun x26_15 h24 => ?_
    refine MV.step0 (i := 9) rfl (VAL.move rfl) rfl rfl rfl ?_
    refine MV.step0 (i := 10) rfl (VAL.move rfl) rfl rfl rfl ?_
    refine MV.lift0 (i := 11) rfl (V.sub h24 rfl rfl) rfl rfl rfl fun x29_16 h25 => ?_
    refine MV.lift0 (i := 12) rfl (V.ia h25 rfl rfl Rnf.el150) rfl rfl rfl fun x30_17 h26 => ?_
    refine MV.lift1 (i := 13) rfl (fun _ z => z) (V.ldA hS h26 rfl Rnf.agg155) rfl rfl rfl [8] (by kernel_rfl) fun x31_18 h27 => ?_
    refine MV.force (i := 14) rfl ?_
    refine LV.callD (G := fun f gs => scc3 4000 f ro gs T2 n2) (qs := [x26_15, x31_18]) hS h27 (fun f gs => scc3_ok _ _ _ _ _ _) hP rfl rfl rfl rfl rfl rfl rfl fun x32_19 T6 n6 h28 ρ its hS => ?_
    refine LV.nextM [] (by kernel_rfl) (fun z => absurd rfl z) ?_
    refine MV.force (i := 15) rfl ?_
    refine vy (V.lt h28 rfl rfl) fun x33_20 h29 => ?_
    refine LV.nextM [] (by kernel_rfl) (fun z => absurd rfl z) ?_
    refine MV.force (i := 16) rfl ?_
    refine pu ?_
    refine LV.nextM [] (by kernel_rfl) (fun z => absurd rfl z) ?_
    refine MV.done ?_
    exact pa7 hS h29 ⟨rfl, rfl, rfl, rfl, rfl, rfl, rfl, trivial⟩
   ·
    clear h6 h21
    subst e
    refine MV.skip0 (i := 4) rfl rfl rfl rfl ?_
    refine MV.skip0 (i := 5) rfl rfl rfl rfl ?_
    refine MV.skip0 (i := 6) rfl rfl rfl rfl ?_
    refine MV.skip0 (i := 7) rfl rfl rfl rfl ?_
    refine MV.skip1 (i := 8) rfl (fun _ z => z) rfl rfl rfl [] (by kernel_rfl) ?_
    refine MV.skip0 (i := 9) rfl rfl rfl rfl ?_
    refine MV.skip0 (i := 10) rfl rfl rfl rfl ?_
    refine MV.skip0 (i := 11) rfl rfl rfl rfl ?_
    refine MV.skip0 (i := 12) rfl rfl rfl rfl ?_
    refine MV.skip1 (i := 13) rfl (fun _ z => z) rfl rfl rfl [8] (by kernel_rfl) ?_
    refine MV.force (i := 14) rfl ?_
    refine sk ?_
    refine LV.nextM [] (by kernel_rfl) (fun z => absurd rfl z) ?_
    refine MV.force (i := 15) rfl ?_
    refine sk ?_
    refine LV.nextM [] (by kernel_rfl) (fun z => absurd rfl z) ?_
    refine MV.force (i := 16) rfl ?_
    refine pu ?_
    refine LV.nextM [] (by kernel_rfl) (fun z => absurd rfl z) ?_
    refine MV.done ?_
    exact pa7 hS h22 ⟨rfl, rfl, rfl, rfl, rfl, rfl, rfl, trivial⟩
  ·
   intro y0 y1 y2 y3 y8 y9 y34 T3 n3 ρ its hS h7
   unfold g192_k3 at h7
   clear h6
   refine CV.cond h7 rfl (fun e h8 => ?_) (fun e h8 => ?_)
   ·
    clear h7
    subst e
    refine CV.skip ?_
    refine PV.thenN ?_
    refine CV.seq ?_
    refine CV.block ?_
    refine CV.regionM [(0, .anywhere), (1, .anywhere), (2, .anywhere), (3, .anywhere), (4, .anywhere), (5, .anywhere), (6, .anywhere), (7, .anywhere), (8, .anywhere), (9, .held), (10, .anywhere), (11, .anywhere), (12, .anywhere), (13, .held), (14, .held), (15, .alone), (16, .alone), (17, .alone)] rfl (fun c a a' w hd hq => PanicOk.root (P := Tryz.prog) (fn := Tryz.f192) (w0 := w0) (base := base) (E := envE) (ro := ro) (r := r) (T' := T') (n' := n') (ρ0 := ρ0) c a a' w hd hq) (by kernel_rfl) ?_
    refine MV.step0 (i := 0) rfl (VAL.move rfl) rfl rfl rfl ?_
    refine MV.step0 (i := 1) rfl (VAL.move rfl) rfl rfl rfl ?_
    refine MV.step0 (i := 2) rfl (VAL.move rfl) rfl rfl rfl ?_
    refine MV.step0 (i := 3) rfl (VAL.move rfl) rfl rfl rfl ?_
    refine MV.lift0 (i := 4) rfl (V.sub h8 rfl rfl) rfl rfl rfl fun x41_3 h9 => ?_
    refine MV.step0 (i := 5) rfl (VAL.move rfl) rfl rfl rfl ?_
    refine MV.step0 (i := 6) rfl (VAL.move rfl) rfl rfl rfl ?_
    refine MV.lift0 (i := 7) rfl (V.sub h9 rfl rfl) rfl rfl rfl fun x44_4 h10 => ?_
    refine MV.lift0 (i := 8) rfl (V.ia h10 rfl rfl Rnf.el150) rfl rfl rfl fun x45_5 h11 => ?_
    refine MV.lift1 (i := 9) rfl (fun _ z => z) (V.ldA hS h11 rfl Rnf.agg155) rfl rfl rfl [] (by kernel_rfl) fun x46_6 h12 => ?_
    refine MV.step0 (i := 10) rfl (VAL.move rfl) rfl rfl rfl ?_
    refine MV.step0 (i := 11) rfl (VAL.move rfl) rfl rfl rfl ?_
    refine MV.lift0 (i := 12) rfl (V.ia h12 rfl rfl Rnf.el150) rfl rfl rfl fun x49_7 h13 => ?_
    refine MV.lift1 (i := 13) rfl (fun _ z => z) (V.ldA hS h13 rfl Rnf.agg155) rfl rfl rfl [9] (by kernel_rfl) fun x50_8 h14 => ?_
    refine MV.lift1 (i := 14) rfl (fun _ z => z) (V.ia h14 rfl rfl Rnf.el150) rfl rfl rfl [] (by kernel_rfl) fun x51_9 h15 => ?_
    refine MV.force (i := 15) rfl ?_
    refine LV.stA hS h15 rfl rfl rfl Rnf.agg155 rfl rfl rfl fun T4 its h16 hS => ?_
    refine LV.nextM [] (by kernel_rfl) (fun z => absurd rfl z) ?_
    refine MV.force (i := 16) rfl ?_
    refine vy (V.ia h16 rfl rfl Rnf.el150) fun x52_10 h17 => ?_
    refine LV.nextM [] (by kernel_rfl) (fun z => absurd rfl z) ?_
    refine MV.force (i := 17) rfl ?_
    refine LV.stA hS h17 rfl rfl rfl Rnf.agg155 rfl rfl rfl fun T5 its h18 hS => ?_
    refine LV.nextM [] (by kernel_rfl) (fun z => absurd rfl z) ?_
    refine MV.done ?_
    refine PV.blockN ?_
    refine PV.thenN ?_
    refine CV.region ?_
    refine mv ?_
    refine vy (V.sub h18 rfl rfl) fun x36_11 h19 => ?_
    refine as_ ?_
    refine LV.done ?_
    exact pb6 hS h19 ⟨rfl, rfl, rfl, rfl, rfl, rfl, trivial⟩
   ·
    clear h7
    subst e
    refine CV.exit ?_
    refine PV.thenE ?_
    refine PV.thenE ?_
    refine PV.blockE ?_
    refine PV.blockN ?_
    refine PV.thenN ?_
    refine CV.region ?_
    refine mv ?_
    refine vy (V.add h8 rfl rfl) fun x16_12 h20 => ?_
    refine as_ ?_
    refine LV.done ?_
    exact pb5 hS h20 ⟨rfl, rfl, rfl, rfl, rfl, trivial⟩
 ·
  clear h3 h4
  subst e
  refine CV.exit ?_
  refine PV.thenE ?_
  refine PV.thenE ?_
  refine PV.blockE ?_
  cases h5
  exact PV.ret (by simp) Tryz.results192 hS RS.nil rfl
noncomputable def g233 (ro : List HT) (a0 a1 a2 a3 a4 : AV) (T : HT) (nx : Nat) : R :=
 iaK 2330006 a0 a2 2 fun x15_1 =>
 ldAK 2330007 T ro x15_1 2 fun x16_2 =>
 iaK 2330010 a0 a1 2 fun x19_3 =>
 ldAK 2330011 T ro x19_3 2 fun x20_4 =>
 dynK 2330012 a4 fun f p q => callK (scc3 4000 f ro (p ++ ([x16_2, x20_4] ++ q)) T nx) fun x21_5 T1 n1 =>
 ltK Tryz.prog 3 (.tmp 21) (.const (.int .i64 (.ofNat 0))) 2330013 x21_5 (.lit (.int .i64 (.ofNat 0))) fun x22_6 =>
 condK 2330014 x22_6
 (
  .bad 2330015
 )
 (
  .ok (.val (.tup [a1, a2])) T1 n1
 )
theorem g233_ok (ro : List HT) (a0 a1 a2 a3 a4 : AV) (T : HT) (nx : Nat) : GOk Tryz.prog envE 233 [a0, a1, a2, a3, a4] ro T nx (g233 ro a0 a1 a2 a3 a4 T nx) := by
 refine GOk.of_body Tryz.func233 rfl Tryz.ntmps233 (by kernel_rfl) rfl fun r T' n' h1 w0 base ρ0 its hS hP => ?_
 have X : CtxW envE ρ0 ro r T' n' := trivial
 unfold g233 at h1
 refine sr ?_
 refine as_ ?_
 refine as_ ?_
 refine dn ?_
 refine CV.seq ?_
 refine CV.seq ?_
 refine CV.regionM [(0, .anywhere), (1, .anywhere), (2, .anywhere), (3, .anywhere), (4, .held), (5, .anywhere), (6, .anywhere), (7, .anywhere), (8, .held), (9, .alone), (10, .alone)] rfl (fun c a a' w hd hq => PanicOk.root (P := Tryz.prog) (fn := Tryz.f233) (w0 := w0) (base := base) (E := envE) (ro := ro) (r := r) (T' := T') (n' := n') (ρ0 := ρ0) c a a' w hd hq) (by kernel_rfl) ?_
 refine MV.step0 (i := 0) rfl (VAL.move rfl) rfl rfl rfl ?_
 refine MV.step0 (i := 1) rfl (VAL.move rfl) rfl rfl rfl ?_
 refine MV.step0 (i := 2) rfl (VAL.move rfl) rfl rfl rfl ?_
 refine MV.lift0 (i := 3) rfl (V.ia h1 rfl rfl Rnf.el150) rfl rfl rfl fun x15_1 h2 => ?_
 refine MV.lift1 (i := 4) rfl (fun _ z => z) (V.ldA hS h2 rfl Rnf.agg155) rfl rfl rfl [] (by kernel_rfl) fun x16_2 h3 => ?_
 refine MV.step0 (i := 5) rfl (VAL.move rfl) rfl rfl rfl ?_
 refine MV.step0 (i := 6) rfl (VAL.move rfl) rfl rfl rfl ?_
 refine MV.lift0 (i := 7) rfl (V.ia h3 rfl rfl Rnf.el150) rfl rfl rfl fun x19_3 h4 => ?_
 refine MV.lift1 (i := 8) rfl (fun _ z => z) (V.ldA hS h4 rfl Rnf.agg155) rfl rfl rfl [4] (by kernel_rfl) fun x20_4 h5 => ?_
 refine MV.force (i := 9) rfl ?_
 refine LV.callD (G := fun f gs => scc3 4000 f ro gs T nx) (qs := [x16_2, x20_4]) hS h5 (fun f gs => scc3_ok _ _ _ _ _ _) hP rfl rfl rfl rfl rfl rfl rfl fun x21_5 T1 n1 h6 ρ its hS => ?_
 refine LV.nextM [] (by kernel_rfl) (fun z => absurd rfl z) ?_
 refine MV.force (i := 10) rfl ?_
 refine vy (V.lt h6 rfl rfl) fun x22_6 h7 => ?_
 refine LV.nextM [] (by kernel_rfl) (fun z => absurd rfl z) ?_
 refine mdn ?_
 refine CV.cond h7 rfl (fun e h8 => ?_) (fun e h8 => ?_)
 ·
  clear h1 h2 h3 h4 h5 h6 h7
  subst e
  cases h8
 ·
  clear h1 h2 h3 h4 h5 h6 h7
  subst e
  refine CV.skip ?_
  refine PV.thenN ?_
  refine sr ?_
  refine mv ?_
  refine mv ?_
  refine as_ ?_
  refine as_ ?_
  refine dn ?_
  refine CV.ret ?_
  cases h8
  exact PV.ret (by simp) Tryz.results233 hS (RS.tmp rfl (RS.tmp rfl RS.nil)) rfl
noncomputable def g223 (ro : List HT) (a0 a1 a2 a3 a4 a5 : AV) (T : HT) (nx : Nat) : R :=
 callK (g233 ro a0 a1 a2 a4 a5 T nx) fun x19_1 T1 n1 =>
 exK 2230009 x19_1 0 fun x20_2 =>
 exK 2230010 x19_1 1 fun x21_3 =>
 callK (g233 ro a0 x21_3 a3 a4 a5 T1 n1) fun x28_4 T2 n2 =>
 exK 2230020 x28_4 0 fun x29_5 =>
 exK 2230021 x28_4 1 fun x30_6 =>
 callK (g233 ro a0 x20_2 x29_5 a4 a5 T2 n2) fun x37_7 T3 n3 =>
 exK 2230031 x37_7 0 fun x38_8 =>
 exK 2230032 x37_7 1 fun x39_9 =>
 .ok (.val x39_9) T3 n3
theorem g223_ok (ro : List HT) (a0 a1 a2 a3 a4 a5 : AV) (T : HT) (nx : Nat) : GOk Tryz.prog envE 223 [a0, a1, a2, a3, a4, a5] ro T nx (g223 ro a0 a1 a2 a3 a4 a5 T nx) := by
 refine GOk.of_body Tryz.func223 rfl Tryz.ntmps223 (by kernel_rfl) rfl fun r T' n' h1 w0 base ρ0 its hS hP => ?_
 have X : CtxW envE ρ0 ro r T' n' := trivial
 unfold g223 at h1
 refine sr ?_
 refine as_ ?_
 refine dn ?_
 refine sr ?_
 refine mv ?_
 refine mv ?_
 refine mv ?_
 refine mv ?_
 refine mv ?_
 refine LV.call hS h1 (g233_ok _ _ _ _ _ _ _ _ ) hP rfl rfl rfl rfl fun x19_1 T1 n1 h2 ρ its hS => ?_
 refine mv ?_
 refine vy (V.ex h2 rfl) fun x20_2 h3 => ?_
 refine vy (V.ex h3 rfl) fun x21_3 h4 => ?_
 refine as_ ?_
 refine as_ ?_
 refine dn ?_
 refine sr ?_
 refine mv ?_
 refine mv ?_
 refine mv ?_
 refine mv ?_
 refine mv ?_
 refine LV.call hS h4 (g233_ok _ _ _ _ _ _ _ _ ) hP rfl rfl rfl rfl fun x28_4 T2 n2 h5 ρ its hS => ?_
 refine mv ?_
 refine vy (V.ex h5 rfl) fun x29_5 h6 => ?_
 refine vy (V.ex h6 rfl) fun x30_6 h7 => ?_
 refine as_ ?_
 refine as_ ?_
 refine dn ?_
 refine sr ?_
 refine mv ?_
 refine mv ?_
 refine mv ?_
 refine mv ?_
 refine mv ?_
 refine LV.call hS h7 (g233_ok _ _ _ _ _ _ _ _ ) hP rfl rfl rfl rfl fun x37_7 T3 n3 h8 ρ its hS => ?_
 refine mv ?_
 refine vy (V.ex h8 rfl) fun x38_8 h9 => ?_
 refine vy (V.ex h9 rfl) fun x39_9 h10 => ?_
 refine as_ ?_
 refine as_ ?_
 refine dn ?_
 refine sr ?_
 refine mv ?_
 refine as_ ?_
 refine dn ?_
 refine CV.ret ?_
 cases h10
 exact PV.ret (by simp) Tryz.results223 hS (RS.tmp rfl RS.nil) rfl
noncomputable def g195_k1 (ro : List HT) (y8 y9 y11 y13 : AV) (T2 : HT) (n2 : Nat) : R :=
 ldK 1950026 T2 ro y11 fun x55_12 =>
 eqK Tryz.prog 3 (.tmp 55) (.const (.int .i64 (.ofNat 0))) 1950027 x55_12 (.lit (.int .i64 (.ofNat 0))) fun x58_13 =>
 condK 1950029 x58_13
 (
  .ok (.val (.tup [y13, (.lit (.int .i64 (.ofNat 1)))])) T2 n2
 )
 (
  eqK Tryz.prog 3 (.tmp 55) (.const (.int .i64 (.ofNat 12))) 1950033 x55_12 (.lit (.int .i64 (.ofNat 12))) fun x61_14 =>
  .bad 1950035
 )
noncomputable def g195 (ro : List HT) (a0 a1 a2 a3 : AV) (T : HT) (nx : Nat) : R :=
 subK Tryz.prog 3 (.tmp 15) (.tmp 16) 1950005 a2 a1 fun x17_1 =>
 newK T nx (.obj [.lit (.int .i64 0)] 3) fun x11_2 T1 n1 =>
 bin0 Tryz.prog .quo 3 (.tmp 19) (.const (.int .i64 (.ofNat 4))) 1950010 x17_1 (.lit (.int .i64 (.ofNat 4))) fun x20_3 =>
 bin0 Tryz.prog .mul 3 (.tmp 20) (.const (.int .i64 (.ofNat 1))) 1950011 x20_3 (.lit (.int .i64 (.ofNat 1))) fun x21_4 =>
 addK Tryz.prog 3 (.tmp 18) (.tmp 21) 1950012 a1 x21_4 fun x22_5 =>
 bin0 Tryz.prog .quo 3 (.tmp 24) (.const (.int .i64 (.ofNat 4))) 1950016 x17_1 (.lit (.int .i64 (.ofNat 4))) fun x25_6 =>
 bin0 Tryz.prog .mul 3 (.tmp 25) (.const (.int .i64 (.ofNat 2))) 1950017 x25_6 (.lit (.int .i64 (.ofNat 2))) fun x26_7 =>
 addK Tryz.prog 3 (.tmp 23) (.tmp 26) 1950018 a1 x26_7 fun x27_8 =>
 bin0 Tryz.prog .quo 3 (.tmp 29) (.const (.int .i64 (.ofNat 4))) 1950022 x17_1 (.lit (.int .i64 (.ofNat 4))) fun x30_9 =>
 bin0 Tryz.prog .mul 3 (.tmp 30) (.const (.int .i64 (.ofNat 3))) 1950023 x30_9 (.lit (.int .i64 (.ofNat 3))) fun x31_10 =>
 addK Tryz.prog 3 (.tmp 28) (.tmp 31) 1950024 a1 x31_10 fun x32_11 =>
 geK Tryz.prog 3 (.tmp 33) (.const (.int .i64 (.ofNat 8))) 1950037 x17_1 (.lit (.int .i64 (.ofNat 8))) fun x34_15 =>
 condK 1950038 x34_15
 (
  geK Tryz.prog 3 (.tmp 35) (.const (.int .i64 (.ofNat 50))) 1950040 x17_1 (.lit (.int .i64 (.ofNat 50))) fun x36_16 =>
  condK 1950041 x36_16
  (
   .bad 1950042
  )
  (
   callK (g223 ro a0 x22_5 x27_8 x32_11 x11_2 a3 T1 n1) fun x54_17 T3 n3 =>
   g195_k1 ro (.lit (.int .i64 (.ofNat 0))) (.lit (.int .i64 (.ofNat 0))) x11_2 x54_17 T3 n3
  )
 )
 (
  g195_k1 ro (.lit (.int .i64 (.ofNat 0))) (.lit (.int .i64 (.ofNat 0))) x11_2 x27_8 T1 n1
 )
theorem g195_ok (ro : List HT) (a0 a1 a2 a3 : AV) (T : HT) (nx : Nat) : GOk Tryz.prog envE 195 [a0, a1, a2, a3] ro T nx (g195 ro a0 a1 a2 a3 T nx) := by
 refine GOk.of_body Tryz.func195 rfl Tryz.ntmps195 (by kernel_rfl) rfl fun r T' n' h1 w0 base ρ0 its hS hP => ?_
 have X : CtxW envE ρ0 ro r T' n' := trivial
 unfold g195 at h1
 refine sr ?_
 refine as_ ?_
 refine as_ ?_
 refine dn ?_
 refine sr ?_
 refine mv ?_
 refine mv ?_
 refine vy (V.sub h1 rfl rfl) fun x17_1 h2 => ?_
 refine as_ ?_
 refine dn ?_
 refine sr ?_
 refine LV.alloc hS h2 rfl Rnf.zr3 rfl rfl rfl fun x11_2 T1 n1 h3 ρ its hS hdr => ?_
 refine dn ?_
 refine sr ?_
 refine mv ?_
 refine mv ?_
 refine vy (V.bin0 h3 rfl rfl) fun x20_3 h4 => ?_
 refine vy (V.bin0 h4 rfl rfl) fun x21_4 h5 => ?_
 refine vy (V.add h5 rfl rfl) fun x22_5 h6 => ?_
 refine as_ ?_
 refine dn ?_
 refine sr ?_
 refine mv ?_
 refine mv ?_
 refine vy (V.bin0 h6 rfl rfl) fun x25_6 h7 => ?_
 refine vy (V.bin0 h7 rfl rfl) fun x26_7 h8 => ?_
 refine vy (V.add h8 rfl rfl) fun x27_8 h9 => ?_
 refine as_ ?_
 refine dn ?_
 refine sr ?_
 refine mv ?_
 refine mv ?_
 refine vy (V.bin0 h9 rfl rfl) fun x30_9 h10 => ?_
 refine vy (V.bin0 h10 rfl rfl) fun x31_10 h11 => ?_
 refine vy (V.add h11 rfl rfl) fun x32_11 h12 => ?_
 refine as_ ?_
 refine dn ?_
 refine cs4 X 8 9 11 13 [] (g195_k1 ro) ?_ ?_
 ·
  refine sr ?_
  refine mv ?_
  refine vy (V.ge h12 rfl rfl) fun x34_15 h18 => ?_
  refine dn ?_
  refine CV.cond h18 rfl (fun e h19 => ?_) (fun e h19 => ?_)
  ·
   clear h1 h2 h3 h4 h5 h6 h7 h8 h9 h10 h11 h12 h18
   subst e
   refine CV.seq ?_
   refine sr ?_
   refine mv ?_
   refine vy (V.ge h19 rfl rfl) fun x36_16 h20 => ?_
   refine dn ?_
   refine CV.cond h20 rfl (fun e h21 => ?_) (fun e h21 => ?_)
   ·
    clear h19 h20
    subst e
    cases h21
   ·
    clear h19 h20
    subst e
    refine CV.skip ?_
    refine PV.thenN ?_
    refine CV.region ?_
    refine mv ?_
    refine mv ?_
    refine mv ?_
    refine mv ?_
    refine mv ?_
    refine LV.call hS h21 (g223_ok _ _ _ _ _ _ _ _ _ ) hP rfl rfl rfl rfl fun x54_17 T3 n3 h22 ρ its hS => ?_
    refine as_ ?_
    refine LV.done ?_
    exact pa4 hS h22 ⟨rfl, rfl, rfl, rfl, trivial⟩
  ·
   clear h1 h2 h3 h4 h5 h6 h7 h8 h9 h10 h11 h12 h18
   subst e
   refine CV.skip ?_
   exact pa4 hS h19 ⟨rfl, rfl, rfl, rfl, trivial⟩
 ·
  intro y8 y9 y11 y13 T2 n2 ρ its hS h13
  unfold g195_k1 at h13
  clear h1 h2 h3 h4 h5 h6 h7 h8 h9 h10 h11 h12
  refine sr ?_
  refine vy (V.ld hS h13 rfl Rnf.one3) fun x55_12 h14 => ?_
  refine dn ?_
  refine CV.block ?_
  refine sr ?_
  refine vy (V.eq h14 rfl rfl) fun x58_13 h15 => ?_
  refine as_ ?_
  refine dn ?_
  refine CV.cond h15 rfl (fun e h16 => ?_) (fun e h16 => ?_)
  ·
   clear h13 h14 h15
   subst e
   refine sr ?_
   refine mv ?_
   refine as_ ?_
   refine as_ ?_
   refine dn ?_
   refine CV.ret ?_
   refine PV.blockR ?_
   cases h16
   exact PV.ret (by simp) Tryz.results195 hS (RS.tmp rfl (RS.tmp rfl RS.nil)) rfl
  ·
   clear h13 h14 h15
   subst e
   refine sr ?_
   refine vy (V.eq h16 rfl rfl) fun x61_14 h17 => ?_
   refine as_ ?_
   refine dn ?_
   cases h17
noncomputable def g197_k3 (ro : List HT) (lp1 : AV → AV → AV → AV → AV → AV → AV → HT → Nat → R) (lp2 : AV → AV → AV → AV → AV → AV → AV → HT → Nat → R) (y0 y1 y2 y3 y8 y9 y10 y36 : AV) (T3 : HT) (n3 : Nat) : R :=
 condK 1970011 y36
 (
  addK Tryz.prog 3 (.tmp 37) (.const (.int .i64 (.ofNat 1))) 1970013 y9 (.lit (.int .i64 (.ofNat 1))) fun x38_3 =>
  lp2 y0 y1 y2 y3 y8 x38_3 y10 T3 n3
 )
 (
  eqK Tryz.prog 3 (.tmp 39) (.tmp 40) 1970017 y9 y2 fun x41_4 =>
  condK 1970018 x41_4
  (
   .ok (.val (.lit (.bool true))) T3 n3
  )
  (
   subK Tryz.prog 3 (.tmp 42) (.tmp 43) 1970022 y2 y1 fun x44_5 =>
   ltK Tryz.prog 3 (.tmp 44) (.const (.int .i64 (.ofNat 50))) 1970023 x44_5 (.lit (.int .i64 (.ofNat 50))) fun x45_6 =>
   condK 1970024 x45_6
   (
    .bad 1970025
   )
   (
    subK Tryz.prog 3 (.tmp 49) (.const (.int .i64 (.ofNat 1))) 1970030 y9 (.lit (.int .i64 (.ofNat 1))) fun x50_7 =>
    subK Tryz.prog 3 (.tmp 52) (.const (.int .i64 (.ofNat 1))) 1970033 y9 (.lit (.int .i64 (.ofNat 1))) fun x53_8 =>
    iaK 1970034 y0 x53_8 2 fun x54_9 =>
    ldAK 1970035 T3 ro x54_9 2 fun x55_10 =>
    iaK 1970038 y0 y9 2 fun x58_11 =>
    ldAK 1970039 T3 ro x58_11 2 fun x59_12 =>
    iaK 1970040 y0 y9 2 fun x60_13 =>
    stAK 1970041 T3 x60_13 x55_10 2 fun T4 =>
    iaK 1970042 y0 x50_7 2 fun x61_14 =>
    stAK 1970043 T4 x61_14 x59_12 2 fun T5 =>
    subK Tryz.prog 3 (.tmp 62) (.tmp 63) 1970046 y9 y1 fun x64_15 =>
    geK Tryz.prog 3 (.tmp 64) (.const (.int .i64 (.ofNat 2))) 1970047 x64_15 (.lit (.int .i64 (.ofNat 2))) fun x65_16 =>
    condK 1970048 x65_16
    (
     .bad 1970049
    )
    (
     subK Tryz.prog 3 (.tmp 101) (.tmp 102) 1970052 y2 y9 fun x103_17 =>
     geK Tryz.prog 3 (.tmp 103) (.const (.int .i64 (.ofNat 2))) 1970053 x103_17 (.lit (.int .i64 (.ofNat 2))) fun x104_18 =>
     condK 1970054 x104_18
     (
      .bad 1970055
     )
     (
      addK Tryz.prog 3 (.tmp 17) (.const (.int .i64 (.ofNat 1))) 1970057 y10 (.lit (.int .i64 (.ofNat 1))) fun x18_19 =>
      lp1 y0 y1 y2 y3 y8 y9 x18_19 T5 n3
     )
    )
   )
  )
 )
noncomputable def g197_b2 (ro : List HT) (lp1 : AV → AV → AV → AV → AV → AV → AV → HT → Nat → R) (lp2 : AV → AV → AV → AV → AV → AV → AV → HT → Nat → R) (y0 y1 y2 y3 y8 y9 y10 : AV) (T2 : HT) (n2 : Nat) : R :=
 ltK Tryz.prog 3 (.tmp 19) (.tmp 20) 1970061 y9 y2 fun x21_20 =>
 condK 1970063 x21_20
 (
  iaK 1970067 y0 y9 2 fun x26_21 =>
  ldAK 1970068 T2 ro x26_21 2 fun x27_22 =>
  subK Tryz.prog 3 (.tmp 29) (.const (.int .i64 (.ofNat 1))) 1970071 y9 (.lit (.int .i64 (.ofNat 1))) fun x30_23 =>
  iaK 1970072 y0 x30_23 2 fun x31_24 =>
  ldAK 1970073 T2 ro x31_24 2 fun x32_25 =>
  dynK 1970074 y3 fun f p q => callK (scc3 4000 f ro (p ++ ([x27_22, x32_25] ++ q)) T2 n2) fun x33_26 T6 n6 =>
  ltK Tryz.prog 3 (.tmp 33) (.const (.int .i64 (.ofNat 0))) 1970075 x33_26 (.lit (.int .i64 (.ofNat 0))) fun x34_27 =>
  notK 1970076 x34_27 fun x35_28 =>
  g197_k3 ro lp1 lp2 y0 y1 y2 y3 y8 y9 y10 x35_28 T6 n6
 )
 (
  g197_k3 ro lp1 lp2 y0 y1 y2 y3 y8 y9 y10 (.lit (.bool false)) T2 n2
 )
noncomputable def g197_b1 (ro : List HT) (lp1 : AV → AV → AV → AV → AV → AV → AV → HT → Nat → R) (y0 y1 y2 y3 y8 y9 y10 : AV) (T1 : HT) (n1 : Nat) : R :=
 ltK Tryz.prog 3 (.tmp 15) (.const (.int .i64 (.ofNat 5))) 1970008 y10 (.lit (.int .i64 (.ofNat 5))) fun x16_2 =>
 condK 1970009 x16_2
 (
  lpf7 1970010 (g197_b2 ro lp1) 100000 y0 y1 y2 y3 y8 y9 y10 T1 n1
 )
 (
  .ok (.val (.lit (.bool false))) T1 n1
 )
noncomputable def g197 (ro : List HT) (a0 a1 a2 a3 : AV) (T : HT) (nx : Nat) : R :=
 addK Tryz.prog 3 (.tmp 13) (.const (.int .i64 (.ofNat 1))) 1970003 a1 (.lit (.int .i64 (.ofNat 1))) fun x14_1 =>
 lpf7 1970006 (g197_b1 ro) 100000 a0 a1 a2 a3 (.lit (.bool false)) x14_1 (.lit (.int .i64 (.ofNat 0))) T nx
theorem g197_ok (ro : List HT) (a0 a1 a2 a3 : AV) (T : HT) (nx : Nat) : GOk Tryz.prog envE 197 [a0, a1, a2, a3] ro T nx (g197 ro a0 a1 a2 a3 T nx) := by
 refine GOk.of_body Tryz.func197 rfl Tryz.ntmps197 (by kernel_rfl) rfl fun r T' n' h1 w0 base ρ0 its hS hP => ?_
 have X : CtxW envE ρ0 ro r T' n' := trivial
 unfold g197 at h1
 refine sr ?_
 refine as_ ?_
 refine dn ?_
 refine sr ?_
 refine mv ?_
 refine vy (V.add h1 rfl rfl) fun x14_1 h2 => ?_
 refine as_ ?_
 refine dn ?_
 refine CV.seq ?_
 refine sr ?_
 refine as_ ?_
 refine dn ?_
 refine CV.block ?_
 refine cl7 X 0 1 2 3 8 9 10 [] hS h2 ⟨rfl, rfl, rfl, rfl, rfl, rfl, rfl, trivial⟩ ?_
 intro f1 y0 y1 y2 y3 y8 y9 y10 T1 n1 ρ its hS h3
 unfold g197_b1 at h3
 clear h1 h2
 refine CV.seq ?_
 refine sr ?_
 refine mv ?_
 refine vy (V.lt h3 rfl rfl) fun x16_2 h4 => ?_
 refine dn ?_
 refine CV.cond h4 rfl (fun e h5 => ?_) (fun e h5 => ?_)
 ·
  clear h3 h4
  subst e
  refine CV.skip ?_
  refine PV.thenN ?_
  refine CV.seq ?_
  refine CV.block ?_
  refine CV.seq ?_
  refine CV.block ?_
  refine cl7 X 0 1 2 3 8 9 10 [] hS h5 ⟨rfl, rfl, rfl, rfl, rfl, rfl, rfl, trivial⟩ ?_
  intro f2 y0 y1 y2 y3 y8 y9 y10 T2 n2 ρ its hS h6
  unfold g197_b2 at h6
  clear h5
  refine CV.seq ?_
  refine cs8 X 0 1 2 3 8 9 10 36 [] (g197_k3 ro (lpf7 1970006 (g197_b1 ro) f1) (lpf7 1970010 (g197_b2 ro (lpf7 1970006 (g197_b1 ro) f1)) f2)) ?_ ?_
  ·
   refine CV.regionM [(0, .anywhere), (1, .anywhere), (2, .anywhere), (3, .anywhere), (4, .anywhere), (5, .anywhere), (6, .anywhere), (7, .anywhere), (8, .held), (9, .anywhere), (10, .anywhere), (11, .anywhere), (12, .anywhere), (13, .held), (14, .alone), (15, .alone), (16, .alone), (17, .alone)] rfl (fun c a a' w hd hq => PanicOk.root (P := Tryz.prog) (fn := Tryz.f197) (w0 := w0) (base := base) (E := envE) (ro := ro) (r := r) (T' := T') (n' := n') (ρ0 := ρ0) c a a' w hd hq) (by kernel_rfl) ?_
   refine MV.step0 (i := 0) rfl (VAL.move rfl) rfl rfl rfl ?_
   refine MV.step0 (i := 1) rfl (VAL.move rfl) rfl rfl rfl ?_
   refine MV.lift0 (i := 2) rfl (V.lt h6 rfl rfl) rfl rfl rfl fun x21_20 h32 => ?_
   refine MV.step0 (i := 3) rfl (VAL.move rfl) rfl rfl rfl ?_
   rcases condK_inv h32 with ⟨e, h33⟩ | ⟨e, h33⟩
   ·
    clear h6 h32
    subst e
    refine MV.step0 (i := 4) rfl (VAL.move rfl) rfl rfl rfl ?_
    refine MV.step0 (i := 5) rfl (VAL.move rfl) rfl rfl rfl ?_
    refine MV.step0 (i := 6) rfl (VAL.move rfl) rfl rfl rfl ?_
    refine MV.lift0 (i := 7) rfl (V.ia h33 rfl rfl Rnf.el150) rfl rfl rfl fun x26_21 h34 => ?_
    refine MV.lift1 (i := 8) rfl (fun _ z => z) (V.ldA hS h34 rfl Rnf.agg155) rfl rfl rfl [] (by kernel_rfl) fun x27_22 h35 => ?_
    refine MV.step0 (i := 9) rfl (VAL.move rfl) rfl rfl rfl ?_
    refine MV.step0 (i := 10) rfl (VAL.move rfl) rfl rfl rfl ?_
    refine MV.lift0 (i := 11) rfl (V.sub h35 rfl rfl) rfl rfl rfl fun x30_23 h36 => ?_
    refine MV.lift0 (i := 12) rfl (V.ia h36 rfl rfl Rnf.el150) rfl rfl rfl fun x31_24 h37 => ?_
    refine MV.lift1 (i := 13) rfl (fun _ z => z) (V.ldA hS h37 rfl Rnf.agg155) rfl rfl rfl [8] (by kernel_rfl) fun x32_25 h38 => ?_
    refine MV.force (i := 14) rfl ?_
    refine LV.callD (G := fun f gs => scc3 4000 f ro gs T2 n2) (qs := [x27_22, x32_25]) hS h38 (fun f gs => scc3_ok _ _ _ _ _ _) hP rfl rfl rfl rfl rfl rfl rfl fun x33_26 T6 n6 h39 ρ its hS => ?_
    refine LV.nextM [] (by kernel_rfl) (fun z => absurd rfl z) ?_
    refine MV.force (i := 15) rfl ?_
    refine vy (V.lt h39 rfl rfl) fun x34_27 h40 => ?_
    refine LV.nextM [] (by kernel_rfl) (fun z => absurd rfl z) ?_
    refine MV.force (i := 16) rfl ?_
    refine vy (V.not h40 rfl) fun x35_28 h41 => ?_
    refine LV.nextM [] (by kernel_rfl) (fun z => absurd rfl z) ?_
    refine MV.force (i := 17) rfl ?_
    refine pu ?_
    refine LV.nextM [] (by kernel_rfl) (fun z => absurd rfl z) ?_
    refine MV.done ?_
    exact pa8 hS h41 ⟨rfl, rfl, rfl, rfl, rfl, rfl, rfl, rfl, trivial⟩
   ·
    clear h6 h32
    subst e
    refine MV.skip0 (i := 4) rfl rfl rfl rfl ?_
    refine MV.skip0 (i := 5) rfl rfl rfl rfl ?_
    refine MV.skip0 (i := 6) rfl rfl rfl rfl ?_
    refine MV.skip0 (i := 7) rfl rfl rfl rfl ?_
    refine MV.skip1 (i := 8) rfl (fun _ z => z) rfl rfl rfl [] (by kernel_rfl) ?_
    refine MV.skip0 (i := 9) rfl rfl rfl rfl ?_
    refine MV.skip0 (i := 10) rfl rfl rfl rfl ?_
    refine MV.skip0 (i := 11) rfl rfl rfl rfl ?_
    refine MV.skip0 (i := 12) rfl rfl rfl rfl ?_
    refine MV.skip1 (i := 13) rfl (fun _ z => z) rfl rfl rfl [8] (by kernel_rfl) ?_
    refine MV.force (i := 14) rfl ?_
    refine sk ?_
    refine LV.nextM [] (by kernel_rfl) (fun z => absurd rfl z) ?_
    refine MV.force (i := 15) rfl ?_
    refine sk ?_
    refine LV.nextM [] (by kernel_rfl) (fun z => absurd rfl z) ?_
    refine MV.force (i := 16) rfl ?_
    refine sk ?_
    refine LV.nextM [] (by kernel_rfl) (fun z => absurd rfl z) ?_
    refine MV.force (i := 17) rfl ?_
    refine pu ?_
    refine LV.nextM [] (by kernel_rfl) (fun z => absurd rfl z) ?_
    refine MV.done ?_
    exact pa8 hS h33 ⟨rfl, rfl, rfl, rfl, rfl, rfl, rfl, rfl, trivial⟩
  ·
   intro y0 y1 y2 y3 y8 y9 y10 y36 T3 n3 ρ its hS h7
   unfold g197_k3 at h7
   clear h6
   refine CV.cond h7 rfl (fun e h8 => ?_) (fun e h8 => ?_)
   ·
    clear h7
    subst e
    refine CV.skip ?_
    refine PV.thenN ?_
    refine CV.block ?_
    refine CV.region ?_
    refine mv ?_
    refine vy (V.add h8 rfl rfl) fun x38_3 h9 => ?_
    refine as_ ?_
    refine LV.done ?_
    refine PV.blockN ?_
    exact pb7 hS h9 ⟨rfl, rfl, rfl, rfl, rfl, rfl, rfl, trivial⟩
   ·
    clear h7
    subst e
    refine CV.exit ?_
    refine PV.thenE ?_
    refine PV.thenE ?_
    refine PV.blockE ?_
    refine PV.thenN ?_
    refine CV.seq ?_
    refine sr ?_
    refine mv ?_
    refine mv ?_
    refine vy (V.eq h8 rfl rfl) fun x41_4 h10 => ?_
    refine dn ?_
    refine CV.cond h10 rfl (fun e h11 => ?_) (fun e h11 => ?_)
    ·
     clear h8 h10
     subst e
     refine sr ?_
     refine as_ ?_
     refine dn ?_
     refine CV.ret ?_
     refine PV.thenR ?_
     refine PV.blockR ?_
     refine PV.thenR ?_
     refine PV.thenR ?_
     refine PV.blockR ?_
     refine PV.thenR ?_
     cases h11
     exact PV.ret (by simp) Tryz.results197 hS (RS.tmp rfl RS.nil) rfl
    ·
     clear h8 h10
     subst e
     refine CV.skip ?_
     refine PV.thenN ?_
     refine CV.seq ?_
     refine sr ?_
     refine mv ?_
     refine mv ?_
     refine vy (V.sub h11 rfl rfl) fun x44_5 h12 => ?_
     refine vy (V.lt h12 rfl rfl) fun x45_6 h13 => ?_
     refine dn ?_
     refine CV.cond h13 rfl (fun e h14 => ?_) (fun e h14 => ?_)
     ·
      clear h11 h12 h13
      subst e
      cases h14
     ·
      clear h11 h12 h13
      subst e
      refine CV.skip ?_
      refine PV.thenN ?_
      refine CV.seq ?_
      refine CV.regionM [(0, .anywhere), (1, .anywhere), (2, .anywhere), (3, .anywhere), (4, .anywhere), (5, .anywhere), (6, .anywhere), (7, .anywhere), (8, .anywhere), (9, .held), (10, .anywhere), (11, .anywhere), (12, .anywhere), (13, .held), (14, .held), (15, .alone), (16, .alone), (17, .alone)] rfl (fun c a a' w hd hq => PanicOk.root (P := Tryz.prog) (fn := Tryz.f197) (w0 := w0) (base := base) (E := envE) (ro := ro) (r := r) (T' := T') (n' := n') (ρ0 := ρ0) c a a' w hd hq) (by kernel_rfl) ?_
      refine MV.step0 (i := 0) rfl (VAL.move rfl) rfl rfl rfl ?_
      refine MV.step0 (i := 1) rfl (VAL.move rfl) rfl rfl rfl ?_
      refine MV.step0 (i := 2) rfl (VAL.move rfl) rfl rfl rfl ?_
      refine MV.step0 (i := 3) rfl (VAL.move rfl) rfl rfl rfl ?_
      refine MV.lift0 (i := 4) rfl (V.sub h14 rfl rfl) rfl rfl rfl fun x50_7 h15 => ?_
      refine MV.step0 (i := 5) rfl (VAL.move rfl) rfl rfl rfl ?_
      refine MV.step0 (i := 6) rfl (VAL.move rfl) rfl rfl rfl ?_
      refine MV.lift0 (i := 7) rfl (V.sub h15 rfl rfl) rfl rfl rfl fun x53_8 h16 => ?_
      refine MV.lift0 (i := 8) rfl (V.ia h16 rfl rfl Rnf.el150) rfl rfl rfl fun x54_9 h17 => ?_
      refine MV.lift1 (i := 9) rfl (fun _ z => z) (V.ldA hS h17 rfl Rnf.agg155) rfl rfl rfl [] (by kernel_rfl) fun x55_10 h18 => ?_
      refine MV.step0 (i := 10) rfl (VAL.move rfl) rfl rfl rfl ?_
      refine MV.step0 (i := 11) rfl (VAL.move rfl) rfl rfl rfl ?_
      refine MV.lift0 (i := 12) rfl (V.ia h18 rfl rfl Rnf.el150) rfl rfl rfl fun x58_11 h19 => ?_
      refine MV.lift1 (i := 13) rfl (fun _ z => z) (V.ldA hS h19 rfl Rnf.agg155) rfl rfl rfl [9] (by kernel_rfl) fun x59_12 h20 => ?_
      refine MV.lift1 (i := 14) rfl (fun _ z => z) (V.ia h20 rfl rfl Rnf.el150) rfl rfl rfl [] (by kernel_rfl) fun x60_13 h21 => ?_
      refine MV.force (i := 15) rfl ?_
      refine LV.stA hS h21 rfl rfl rfl Rnf.agg155 rfl rfl rfl fun T4 its h22 hS => ?_
      refine LV.nextM [] (by kernel_rfl) (fun z => absurd rfl z) ?_
      refine MV.force (i := 16) rfl ?_
      refine vy (V.ia h22 rfl rfl Rnf.el150) fun x61_14 h23 => ?_
      refine LV.nextM [] (by kernel_rfl) (fun z => absurd rfl z) ?_
      refine MV.force (i := 17) rfl ?_
      refine LV.stA hS h23 rfl rfl rfl Rnf.agg155 rfl rfl rfl fun T5 its h24 hS => ?_
      refine LV.nextM [] (by kernel_rfl) (fun z => absurd rfl z) ?_
      refine mdn ?_
      refine CV.seq ?_
      refine sr ?_
      refine mv ?_
      refine mv ?_
      refine vy (V.sub h24 rfl rfl) fun x64_15 h25 => ?_
      refine vy (V.ge h25 rfl rfl) fun x65_16 h26 => ?_
      refine dn ?_
      refine CV.cond h26 rfl (fun e h27 => ?_) (fun e h27 => ?_)
      ·
       clear h14 h15 h16 h17 h18 h19 h20 h21 h22 h23 h24 h25 h26
       subst e
       cases h27
      ·
       clear h14 h15 h16 h17 h18 h19 h20 h21 h22 h23 h24 h25 h26
       subst e
       refine CV.skip ?_
       refine PV.thenN ?_
       refine sr ?_
       refine mv ?_
       refine mv ?_
       refine vy (V.sub h27 rfl rfl) fun x103_17 h28 => ?_
       refine vy (V.ge h28 rfl rfl) fun x104_18 h29 => ?_
       refine dn ?_
       refine CV.cond h29 rfl (fun e h30 => ?_) (fun e h30 => ?_)
       ·
        clear h27 h28 h29
        subst e
        cases h30
       ·
        clear h27 h28 h29
        subst e
        refine CV.skip ?_
        refine PV.blockN ?_
        refine PV.thenN ?_
        refine CV.region ?_
        refine mv ?_
        refine vy (V.add h30 rfl rfl) fun x18_19 h31 => ?_
        refine as_ ?_
        refine LV.done ?_
        exact pb7 hS h31 ⟨rfl, rfl, rfl, rfl, rfl, rfl, rfl, trivial⟩
 ·
  clear h3 h4
  subst e
  refine CV.exit ?_
  refine PV.thenE ?_
  refine PV.thenE ?_
  refine PV.blockE ?_
  refine PV.thenN ?_
  refine sr ?_
  refine as_ ?_
  refine dn ?_
  refine CV.ret ?_
  cases h5
  exact PV.ret (by simp) Tryz.results197 hS (RS.tmp rfl RS.nil) rfl
noncomputable def g199 (ro : List HT) (a0 a1 a2 a3 a4 : AV) (T : HT) (nx : Nat) : R :=
 .bad 1990001
theorem g199_ok (ro : List HT) (a0 a1 a2 a3 a4 : AV) (T : HT) (nx : Nat) : GOk Tryz.prog envE 199 [a0, a1, a2, a3, a4] ro T nx (g199 ro a0 a1 a2 a3 a4 T nx) := by
 refine GOk.of_body Tryz.func199 rfl Tryz.ntmps199 (by kernel_rfl) rfl fun r T' n' h1 w0 base ρ0 its hS hP => ?_
 have X : CtxW envE ρ0 ro r T' n' := trivial
 unfold g199 at h1
 cases h1

end Go.Proofs.YtdepmlcnllofiaaGreatDoor.Rn
