/-
  Proved here: plain functions that do what the program's functions do, each with its proof.
-/
import Derived.Test.YtdepmlcnllofiaaGreatDoorSpb
namespace Go.Proofs.YtdepmlcnllofiaaGreatDoor.Sp
open Go.EY Go.EX Go.SX Go.RowKit
noncomputable def g22_k5 (ro : List HT) (y2 y38 : AV) (T5 : HT) (n5 : Nat) : R :=
 condK 220034 y38
 (
  .ok (.val (.lit (.int .i64 (.ofNat 9)))) T5 n5
 )
 (
  .ok (.val (.lit (.int .i64 (.ofNat 0)))) T5 n5
 )
noncomputable def g22_k4 (ro : List HT) (y0 y2 y30 : AV) (T4 : HT) (n4 : Nat) : R :=
 condK 220029 y30
 (
  .bad 220030
 )
 (
  geK Tryz.prog 3 (.tmp 33) (.const (.int .i64 (.ofNat 1))) 220032 y0 (.lit (.int .i64 (.ofNat 1))) fun x34_6 =>
  condK 220037 x34_6
  (
   leK Tryz.prog 3 (.tmp 36) (.const (.int .i64 (.ofNat 34))) 220039 y0 (.lit (.int .i64 (.ofNat 34))) fun x37_7 =>
   g22_k5 ro y2 x37_7 T4 n4
  )
  (
   g22_k5 ro y2 (.lit (.bool false)) T4 n4
  )
 )
noncomputable def g22_k3 (ro : List HT) (y0 y2 y3 y24 : AV) (T3 : HT) (n3 : Nat) : R :=
 condK 220023 y24
 (
  .ok (.val (.lit (.int .i64 (.ofNat 7)))) T3 n3
 )
 (
  eqK Tryz.prog 3 (.tmp 3) (.const (.int .i64 (.ofNat 16))) 220025 y3 (.lit (.int .i64 (.ofNat 16))) fun x29_5 =>
  condK 220027 x29_5
  (
   .bad 220028
  )
  (
   eqK Tryz.prog 3 (.tmp 3) (.const (.int .i64 (.ofNat 11))) 220042 y3 (.lit (.int .i64 (.ofNat 11))) fun x31_8 =>
   condK 220044 x31_8
   (
    g22_k4 ro y0 y2 (.lit (.bool true)) T3 n3
   )
   (
    eqK Tryz.prog 3 (.tmp 3) (.const (.int .i64 (.ofNat 15))) 220045 y3 (.lit (.int .i64 (.ofNat 15))) fun x32_9 =>
    g22_k4 ro y0 y2 x32_9 T3 n3
   )
  )
 )
noncomputable def g22_k2 (ro : List HT) (y0 y2 y3 y21 : AV) (T2 : HT) (n2 : Nat) : R :=
 condK 220021 y21
 (
  .ok (.val (.lit (.int .i64 (.ofNat 6)))) T2 n2
 )
 (
  eqK Tryz.prog 3 (.tmp 3) (.const (.int .i64 (.ofNat 23))) 220047 y3 (.lit (.int .i64 (.ofNat 23))) fun x25_10 =>
  condK 220049 x25_10
  (
   g22_k3 ro y0 y2 y3 (.lit (.bool true)) T2 n2
  )
  (
   eqK Tryz.prog 3 (.tmp 3) (.const (.int .i64 (.ofNat 24))) 220050 y3 (.lit (.int .i64 (.ofNat 24))) fun x26_11 =>
   condK 220052 x26_11
   (
    g22_k3 ro y0 y2 y3 (.lit (.bool true)) T2 n2
   )
   (
    eqK Tryz.prog 3 (.tmp 3) (.const (.int .i64 (.ofNat 25))) 220053 y3 (.lit (.int .i64 (.ofNat 25))) fun x27_12 =>
    g22_k3 ro y0 y2 y3 x27_12 T2 n2
   )
  )
 )
noncomputable def g22_k1 (ro : List HT) (y0 y2 y3 y12 : AV) (T1 : HT) (n1 : Nat) : R :=
 condK 220019 y12
 (
  .ok (.val (.lit (.int .i64 (.ofNat 5)))) T1 n1
 )
 (
  eqK Tryz.prog 3 (.tmp 3) (.const (.int .i64 (.ofNat 21))) 220055 y3 (.lit (.int .i64 (.ofNat 21))) fun x22_13 =>
  condK 220057 x22_13
  (
   g22_k2 ro y0 y2 y3 (.lit (.bool true)) T1 n1
  )
  (
   eqK Tryz.prog 3 (.tmp 3) (.const (.int .i64 (.ofNat 22))) 220058 y3 (.lit (.int .i64 (.ofNat 22))) fun x23_14 =>
   g22_k2 ro y0 y2 y3 x23_14 T1 n1
  )
 )
noncomputable def g22 (ro : List HT) (a0 : AV) (T : HT) (nx : Nat) : R :=
 eqK Tryz.prog 3 (.tmp 3) (.const (.int .i64 (.ofNat 20))) 220003 a0 (.lit (.int .i64 (.ofNat 20))) fun x5_1 =>
 condK 220005 x5_1
 (
  .bad 220006
 )
 (
  eqK Tryz.prog 3 (.tmp 3) (.const (.int .i64 (.ofNat 19))) 220007 a0 (.lit (.int .i64 (.ofNat 19))) fun x7_2 =>
  condK 220009 x7_2
  (
   .ok (.val (.lit (.int .i64 (.ofNat 2)))) T nx
  )
  (
   eqK Tryz.prog 3 (.tmp 3) (.const (.int .i64 (.ofNat 18))) 220011 a0 (.lit (.int .i64 (.ofNat 18))) fun x9_3 =>
   condK 220013 x9_3
   (
    .ok (.val (.lit (.int .i64 (.ofNat 3)))) T nx
   )
   (
    eqK Tryz.prog 3 (.tmp 3) (.const (.int .i64 (.ofNat 17))) 220015 a0 (.lit (.int .i64 (.ofNat 17))) fun x11_4 =>
    condK 220017 x11_4
    (
     .bad 220018
    )
    (
     eqK Tryz.prog 3 (.tmp 3) (.const (.int .i64 (.ofNat 26))) 220060 a0 (.lit (.int .i64 (.ofNat 26))) fun x13_15 =>
     condK 220062 x13_15
     (
      g22_k1 ro a0 (.lit (.int .i64 (.ofNat 0))) a0 (.lit (.bool true)) T nx
     )
     (
      eqK Tryz.prog 3 (.tmp 3) (.const (.int .i64 (.ofNat 27))) 220063 a0 (.lit (.int .i64 (.ofNat 27))) fun x14_16 =>
      condK 220065 x14_16
      (
       g22_k1 ro a0 (.lit (.int .i64 (.ofNat 0))) a0 (.lit (.bool true)) T nx
      )
      (
       eqK Tryz.prog 3 (.tmp 3) (.const (.int .i64 (.ofNat 28))) 220066 a0 (.lit (.int .i64 (.ofNat 28))) fun x15_17 =>
       condK 220068 x15_17
       (
        g22_k1 ro a0 (.lit (.int .i64 (.ofNat 0))) a0 (.lit (.bool true)) T nx
       )
       (
        eqK Tryz.prog 3 (.tmp 3) (.const (.int .i64 (.ofNat 29))) 220069 a0 (.lit (.int .i64 (.ofNat 29))) fun x16_18 =>
        condK 220071 x16_18
        (
         g22_k1 ro a0 (.lit (.int .i64 (.ofNat 0))) a0 (.lit (.bool true)) T nx
        )
        (
         eqK Tryz.prog 3 (.tmp 3) (.const (.int .i64 (.ofNat 30))) 220072 a0 (.lit (.int .i64 (.ofNat 30))) fun x17_19 =>
         condK 220074 x17_19
         (
          g22_k1 ro a0 (.lit (.int .i64 (.ofNat 0))) a0 (.lit (.bool true)) T nx
         )
         (
          eqK Tryz.prog 3 (.tmp 3) (.const (.int .i64 (.ofNat 31))) 220075 a0 (.lit (.int .i64 (.ofNat 31))) fun x18_20 =>
          condK 220077 x18_20
          (
           g22_k1 ro a0 (.lit (.int .i64 (.ofNat 0))) a0 (.lit (.bool true)) T nx
          )
          (
           eqK Tryz.prog 3 (.tmp 3) (.const (.int .i64 (.ofNat 32))) 220078 a0 (.lit (.int .i64 (.ofNat 32))) fun x19_21 =>
           condK 220080 x19_21
           (
            g22_k1 ro a0 (.lit (.int .i64 (.ofNat 0))) a0 (.lit (.bool true)) T nx
           )
           (
            eqK Tryz.prog 3 (.tmp 3) (.const (.int .i64 (.ofNat 33))) 220081 a0 (.lit (.int .i64 (.ofNat 33))) fun x20_22 =>
            g22_k1 ro a0 (.lit (.int .i64 (.ofNat 0))) a0 x20_22 T nx
           )
          )
         )
        )
       )
      )
     )
    )
   )
  )
 )
theorem g22_ok (ro : List HT) (a0 : AV) (T : HT) (nx : Nat) : GOk Tryz.prog envE 22 [a0] ro T nx (g22 ro a0 T nx) := by
 refine GOk.of_body Tryz.func22 rfl Tryz.ntmps22 (by kernel_rfl) rfl fun r T' n' h1 w0 base ρ0 its hS hP => ?_
 have X : CtxW envE ρ0 ro r T' n' := trivial
 unfold g22 at h1
 refine sr ?_
 refine as_ ?_
 refine dn ?_
 refine CV.seq ?_
 refine sr ?_
 refine mv ?_
 refine dn ?_
 refine CV.block ?_
 refine sr ?_
 refine vy (V.eq h1 rfl rfl) fun x5_1 h2 => ?_
 refine as_ ?_
 refine dn ?_
 refine CV.cond h2 rfl (fun e h3 => ?_) (fun e h3 => ?_)
 ·
  clear h1 h2
  subst e
  cases h3
 ·
  clear h1 h2
  subst e
  refine sr ?_
  refine vy (V.eq h3 rfl rfl) fun x7_2 h4 => ?_
  refine as_ ?_
  refine dn ?_
  refine CV.cond h4 rfl (fun e h5 => ?_) (fun e h5 => ?_)
  ·
   clear h3 h4
   subst e
   refine sr ?_
   refine as_ ?_
   refine dn ?_
   refine CV.ret ?_
   refine PV.blockR ?_
   refine PV.thenR ?_
   cases h5
   exact PV.ret (by simp) Tryz.results22 hS (RS.tmp rfl RS.nil) rfl
  ·
   clear h3 h4
   subst e
   refine sr ?_
   refine vy (V.eq h5 rfl rfl) fun x9_3 h6 => ?_
   refine as_ ?_
   refine dn ?_
   refine CV.cond h6 rfl (fun e h7 => ?_) (fun e h7 => ?_)
   ·
    clear h5 h6
    subst e
    refine sr ?_
    refine as_ ?_
    refine dn ?_
    refine CV.ret ?_
    refine PV.blockR ?_
    refine PV.thenR ?_
    cases h7
    exact PV.ret (by simp) Tryz.results22 hS (RS.tmp rfl RS.nil) rfl
   ·
    clear h5 h6
    subst e
    refine sr ?_
    refine vy (V.eq h7 rfl rfl) fun x11_4 h8 => ?_
    refine as_ ?_
    refine dn ?_
    refine CV.cond h8 rfl (fun e h9 => ?_) (fun e h9 => ?_)
    ·
     clear h7 h8
     subst e
     cases h9
    ·
     clear h7 h8
     subst e
     refine cs4 X 0 2 3 12 [] (g22_k1 ro) ?_ ?_
     ·
      refine sr ?_
      refine vy (V.eq h9 rfl rfl) fun x13_15 h36 => ?_
      refine as_ ?_
      refine dn ?_
      refine CV.cond h36 rfl (fun e h37 => ?_) (fun e h37 => ?_)
      ·
       clear h9 h36
       subst e
       refine CV.skip ?_
       exact pa4 hS h37 ⟨rfl, rfl, rfl, rfl, trivial⟩
      ·
       clear h9 h36
       subst e
       refine sr ?_
       refine vy (V.eq h37 rfl rfl) fun x14_16 h38 => ?_
       refine as_ ?_
       refine dn ?_
       refine CV.cond h38 rfl (fun e h39 => ?_) (fun e h39 => ?_)
       ·
        clear h37 h38
        subst e
        refine CV.skip ?_
        exact pa4 hS h39 ⟨rfl, rfl, rfl, rfl, trivial⟩
       ·
        clear h37 h38
        subst e
        refine sr ?_
        refine vy (V.eq h39 rfl rfl) fun x15_17 h40 => ?_
        refine as_ ?_
        refine dn ?_
        refine CV.cond h40 rfl (fun e h41 => ?_) (fun e h41 => ?_)
        ·
         clear h39 h40
         subst e
         refine CV.skip ?_
         exact pa4 hS h41 ⟨rfl, rfl, rfl, rfl, trivial⟩
        ·
         clear h39 h40
         subst e
         refine sr ?_
         refine vy (V.eq h41 rfl rfl) fun x16_18 h42 => ?_
         refine as_ ?_
         refine dn ?_
         refine CV.cond h42 rfl (fun e h43 => ?_) (fun e h43 => ?_)
         ·
          clear h41 h42
          subst e
          refine CV.skip ?_
          exact pa4 hS h43 ⟨rfl, rfl, rfl, rfl, trivial⟩
         ·
          clear h41 h42
          subst e
          refine sr ?_
          refine vy (V.eq h43 rfl rfl) fun x17_19 h44 => ?_
          refine as_ ?_
          refine dn ?_
          refine CV.cond h44 rfl (fun e h45 => ?_) (fun e h45 => ?_)
          ·
           clear h43 h44
           subst e
           refine CV.skip ?_
           exact pa4 hS h45 ⟨rfl, rfl, rfl, rfl, trivial⟩
          ·
           clear h43 h44
           subst e
           refine sr ?_
           refine vy (V.eq h45 rfl rfl) fun x18_20 h46 => ?_
           refine as_ ?_
           refine dn ?_
           refine CV.cond h46 rfl (fun e h47 => ?_) (fun e h47 => ?_)
           ·
            clear h45 h46
            subst e
            refine CV.skip ?_
            exact pa4 hS h47 ⟨rfl, rfl, rfl, rfl, trivial⟩
           ·
            clear h45 h46
            subst e
            refine sr ?_
            refine vy (V.eq h47 rfl rfl) fun x19_21 h48 => ?_
            refine as_ ?_
            refine dn ?_
            refine CV.cond h48 rfl (fun e h49 => ?_) (fun e h49 => ?_)
            ·
             clear h47 h48
             subst e
             refine CV.skip ?_
             exact pa4 hS h49 ⟨rfl, rfl, rfl, rfl, trivial⟩
            ·
             clear h47 h48
             subst e
             refine CV.region ?_
             refine vy (V.eq h49 rfl rfl) fun x20_22 h50 => ?_
             refine as_ ?_
             refine LV.done ?_
             exact pa4 hS h50 ⟨rfl, rfl, rfl, rfl, trivial⟩
     ·
      intro y0 y2 y3 y12 T1 n1 ρ its hS h10
      unfold g22_k1 at h10
      clear h9
      refine CV.cond h10 rfl (fun e h11 => ?_) (fun e h11 => ?_)
      ·
       clear h10
       subst e
       refine sr ?_
       refine as_ ?_
       refine dn ?_
       refine CV.ret ?_
       refine PV.blockR ?_
       refine PV.thenR ?_
       cases h11
       exact PV.ret (by simp) Tryz.results22 hS (RS.tmp rfl RS.nil) rfl
      ·
       clear h10
       subst e
       refine cs4 X 0 2 3 21 [] (g22_k2 ro) ?_ ?_
       ·
        refine sr ?_
        refine vy (V.eq h11 rfl rfl) fun x22_13 h33 => ?_
        refine as_ ?_
        refine dn ?_
        refine CV.cond h33 rfl (fun e h34 => ?_) (fun e h34 => ?_)
        ·
         clear h11 h33
         subst e
         refine CV.skip ?_
         exact pa4 hS h34 ⟨rfl, rfl, rfl, rfl, trivial⟩
        ·
         clear h11 h33
         subst e
         refine CV.region ?_
         refine vy (V.eq h34 rfl rfl) fun x23_14 h35 => ?_
         refine as_ ?_
         refine LV.done ?_
         exact pa4 hS h35 ⟨rfl, rfl, rfl, rfl, trivial⟩
       ·
        intro y0 y2 y3 y21 T2 n2 ρ its hS h12
        unfold g22_k2 at h12
        clear h11
        refine CV.cond h12 rfl (fun e h13 => ?_) (fun e h13 => ?_)
        ·
         clear h12
         subst e
         refine sr ?_
         refine as_ ?_
         refine dn ?_
         refine CV.ret ?_
         refine PV.blockR ?_
         refine PV.thenR ?_
         cases h13
         exact PV.ret (by simp) Tryz.results22 hS (RS.tmp rfl RS.nil) rfl
        ·
         clear h12
         subst e
         refine cs4 X 0 2 3 24 [] (g22_k3 ro) ?_ ?_
         ·
          refine sr ?_
          refine vy (V.eq h13 rfl rfl) fun x25_10 h28 => ?_
          refine as_ ?_
          refine dn ?_
          refine CV.cond h28 rfl (fun e h29 => ?_) (fun e h29 => ?_)
          ·
           clear h13 h28
           subst e
           refine CV.skip ?_
           exact pa4 hS h29 ⟨rfl, rfl, rfl, rfl, trivial⟩
          ·
           clear h13 h28
           subst e
           refine sr ?_
           refine vy (V.eq h29 rfl rfl) fun x26_11 h30 => ?_
           refine as_ ?_
           refine dn ?_
           refine CV.cond h30 rfl (fun e h31 => ?_) (fun e h31 => ?_)
           ·
            clear h29 h30
            subst e
            refine CV.skip ?_
            exact pa4 hS h31 ⟨rfl, rfl, rfl, rfl, trivial⟩
           ·
            clear h29 h30
            subst e
            refine CV.region ?_
            refine vy (V.eq h31 rfl rfl) fun x27_12 h32 => ?_
            refine as_ ?_
            refine LV.done ?_
            exact pa4 hS h32 ⟨rfl, rfl, rfl, rfl, trivial⟩
         ·
          intro y0 y2 y3 y24 T3 n3 ρ its hS h14
          unfold g22_k3 at h14
          clear h13
          refine CV.cond h14 rfl (fun e h15 => ?_) (fun e h15 => ?_)
          ·
           clear h14
           subst e
           refine sr ?_
           refine as_ ?_
           refine dn ?_
           refine CV.ret ?_
           refine PV.blockR ?_
           refine PV.thenR ?_
           cases h15
           exact PV.ret (by simp) Tryz.results22 hS (RS.tmp rfl RS.nil) rfl
          ·
           clear h14
           subst e
           refine sr ?_
           refine vy (V.eq h15 rfl rfl) fun x29_5 h16 => ?_
           refine as_ ?_
           refine dn ?_
           refine CV.cond h16 rfl (fun e h17 => ?_) (fun e h17 => ?_)
           ·
            clear h15 h16
            subst e
            cases h17
           ·
            clear h15 h16
            subst e
            refine cs3 X 0 2 30 [] (g22_k4 ro) ?_ ?_
            ·
             refine sr ?_
             refine vy (V.eq h17 rfl rfl) fun x31_8 h25 => ?_
             refine as_ ?_
             refine dn ?_
             refine CV.cond h25 rfl (fun e h26 => ?_) (fun e h26 => ?_)
             ·
              clear h17 h25
              subst e
              refine CV.skip ?_
              exact pa3 hS h26 ⟨rfl, rfl, rfl, trivial⟩
             ·
              clear h17 h25
              subst e
              refine CV.region ?_
              refine vy (V.eq h26 rfl rfl) fun x32_9 h27 => ?_
              refine as_ ?_
              refine LV.done ?_
              exact pa3 hS h27 ⟨rfl, rfl, rfl, trivial⟩
            ·
             intro y0 y2 y30 T4 n4 ρ its hS h18
             unfold g22_k4 at h18
             clear h17
             refine CV.cond h18 rfl (fun e h19 => ?_) (fun e h19 => ?_)
             ·
              clear h18
              subst e
              cases h19
             ·
              clear h18
              subst e
              refine CV.skip ?_
              refine PV.blockN ?_
              refine PV.thenN ?_
              refine CV.seq ?_
              refine sr ?_
              refine mv ?_
              refine vy (V.ge h19 rfl rfl) fun x34_6 h20 => ?_
              refine mv ?_
              refine ls2 X 2 38 [] (g22_k5 ro) 3 ?_ ?_
              ·
               rcases condK_inv h20 with ⟨e, h23⟩ | ⟨e, h23⟩
               ·
                clear h19 h20
                subst e
                refine mv ?_
                refine vy (V.le h23 rfl rfl) fun x37_7 h24 => ?_
                refine pu ?_
                exact la2 hS h24 ⟨rfl, rfl, trivial⟩
               ·
                clear h19 h20
                subst e
                refine sk ?_
                refine sk ?_
                refine pu ?_
                exact la2 hS h23 ⟨rfl, rfl, trivial⟩
              ·
               intro y2 y38 T5 n5 ρ its hS h21
               unfold g22_k5 at h21
               clear h19 h20
               refine dn ?_
               refine CV.cond h21 rfl (fun e h22 => ?_) (fun e h22 => ?_)
               ·
                clear h21
                subst e
                refine sr ?_
                refine as_ ?_
                refine dn ?_
                refine CV.ret ?_
                refine PV.thenR ?_
                cases h22
                exact PV.ret (by simp) Tryz.results22 hS (RS.tmp rfl RS.nil) rfl
               ·
                clear h21
                subst e
                refine CV.skip ?_
                refine PV.thenN ?_
                refine sr ?_
                refine as_ ?_
                refine dn ?_
                refine CV.ret ?_
                cases h22
                exact PV.ret (by simp) Tryz.results22 hS (RS.tmp rfl RS.nil) rfl
noncomputable def g121 (ro : List HT) (a0 : AV) (T : HT) (nx : Nat) : R :=
 fldK 1210003 T ro a0 1 fun x6_1 =>
 lenSK 1210004 x6_1 fun x7_2 =>
 .ok (.val x7_2) T nx
theorem g121_ok (ro : List HT) (a0 : AV) (T : HT) (nx : Nat) : GOk Tryz.prog envE 121 [a0] ro T nx (g121 ro a0 T nx) := by
 refine GOk.of_body Tryz.func121 rfl Tryz.ntmps121 (by kernel_rfl) rfl fun r T' n' h1 w0 base ρ0 its hS hP => ?_
 have X : CtxW envE ρ0 ro r T' n' := trivial
 unfold g121 at h1
 refine sr ?_
 refine as_ ?_
 refine dn ?_
 refine sr ?_
 refine mv ?_
 refine fl hS h1 Spf.fo90_1 Spf.one88 fun x6_1 h2 => ?_
 refine vy (V.lenS h2 rfl Spf.ls88) fun x7_2 h3 => ?_
 refine as_ ?_
 refine dn ?_
 refine CV.ret ?_
 cases h3
 exact PV.ret (by simp) Tryz.results121 hS (RS.tmp rfl RS.nil) rfl
noncomputable def g185 (ro : List HT) (a0 : AV) (T : HT) (nx : Nat) : R :=
 fldK 1850002 T ro a0 0 fun x5_1 =>
 bin0 Tryz.prog .eql 87 (.tmp 5) (.const (.pointer none)) 1850003 x5_1 (.lit (.pointer none)) fun x6_2 =>
 condK 1850004 x6_2
 (
  ucvK 1850007 T inU a0 fun x9_3 =>
  ucvK 1850009 T (liesT Tryz.prog 90) x9_3 fun x11_4 =>
  faK 1850010 a0 0 fun x13_5 =>
  stK 1850011 T x13_5 x11_4 fun T1 =>
  .ok (.val (.tup [])) T1 nx
 )
 (
  fldK 1850013 T ro a0 0 fun x17_6 =>
  ptNeK 1850015 x17_6 a0 fun x19_7 =>
  condK 1850016 x19_7
  (
   .bad 1850017
  )
  (
   .ok (.val (.tup [])) T nx
  )
 )
theorem g185_ok (ro : List HT) (a0 : AV) (T : HT) (nx : Nat) : GOk Tryz.prog envE 185 [a0] ro T nx (g185 ro a0 T nx) := by
 refine GOk.of_body Tryz.func185 rfl Tryz.ntmps185 (by kernel_rfl) rfl fun r T' n' h1 w0 base ρ0 its hS hP => ?_
 have X : CtxW envE ρ0 ro r T' n' := trivial
 unfold g185 at h1
 refine sr ?_
 refine mv ?_
 refine fl hS h1 Spf.fo90_0 Spf.one87 fun x5_1 h2 => ?_
 refine vy (V.bin0 h2 rfl rfl) fun x6_2 h3 => ?_
 refine dn ?_
 refine CV.cond h3 rfl (fun e h4 => ?_) (fun e h4 => ?_)
 ·
  clear h1 h2 h3
  subst e
  refine CV.region ?_
  refine mv ?_
  refine mv ?_
  refine vy (V.toU hS h4 rfl Spf.pt87 Spf.un240 Spf.usz90) fun x9_3 h5 => ?_
  refine sv (VAL.same Spf.same216 rfl) ?_
  refine vy (V.frU hS h5 rfl Spf.un240 Spf.pt87 Spf.inf90) fun x11_4 h6 => ?_
  refine fa2 h6 Spf.fo90_0 fun x13_5 h7 => ?_
  refine LV.st hS h7 rfl rfl rfl Spf.siz87 rfl rfl fun T1 its h8 hS => ?_
  refine LV.done ?_
  cases h8
  exact PV.ret (by simp) Tryz.results185 hS RS.nil rfl
 ·
  clear h1 h2 h3
  subst e
  refine sr ?_
  refine mv ?_
  refine fl hS h4 Spf.fo90_0 Spf.one87 fun x17_6 h9 => ?_
  refine mv ?_
  refine vy (ptNeV h9 rfl rfl Spf.pt87 Spf.inf90) fun x19_7 h10 => ?_
  refine dn ?_
  refine CV.cond h10 rfl (fun e h11 => ?_) (fun e h11 => ?_)
  ·
   clear h4 h9 h10
   subst e
   cases h11
  ·
   clear h4 h9 h10
   subst e
   refine CV.skip ?_
   cases h11
   exact PV.ret (by simp) Tryz.results185 hS RS.nil rfl
noncomputable def g122 (ro : List HT) (a0 a1 : AV) (T : HT) (nx : Nat) : R :=
 callK (g185 ro a0 T nx) fun x7_1 T1 n1 =>
 fldK 1220007 T1 ro a0 1 fun x12_2 =>
 shrK 1220010 T1 x12_2 fun T2 =>
 appTK 1220009 T2 n1 5 x12_2 a1 fun x14_3 T3 n3 =>
 faK 1220011 a0 1 fun x16_4 =>
 stK 1220012 T3 x16_4 x14_3 fun T4 =>
 lenTK 1220014 a1 fun x18_5 =>
 .ok (.val (.tup [x18_5, (.lit (.nilIface))])) T4 n3
theorem g122_ok (ro : List HT) (a0 a1 : AV) (T : HT) (nx : Nat) : GOk Tryz.prog envE 122 [a0, a1] ro T nx (g122 ro a0 a1 T nx) := by
 refine GOk.of_body Tryz.func122 rfl Tryz.ntmps122 (by kernel_rfl) rfl fun r T' n' h1 w0 base ρ0 its hS hP => ?_
 have X : CtxW envE ρ0 ro r T' n' := trivial
 unfold g122 at h1
 refine sr ?_
 refine as_ ?_
 refine as_ ?_
 refine dn ?_
 refine sr ?_
 refine mv ?_
 refine LV.call hS h1 (g185_ok _ _ _ _ ) hP rfl rfl rfl rfl fun x7_1 T1 n1 h2 ρ its hS => ?_
 refine dn ?_
 refine sr ?_
 refine mv ?_
 refine mv ?_
 refine fl hS h2 Spf.fo90_1 Spf.one88 fun x12_2 h3 => ?_
 refine mv ?_
 obtain ⟨T2, its1, h4, hS, hW⟩ := shrK_inv hS h3
 refine LV.world hW ?_
 refine LV.appT hS h4 rfl rfl rfl rfl Spf.el88 Spf.st9 rfl rfl rfl fun x14_3 T3 n3 h5 ρ its hS => ?_
 refine fa2 h5 Spf.fo90_1 fun x16_4 h6 => ?_
 refine LV.st hS h6 rfl rfl rfl Spf.siz88 rfl rfl fun T4 its h7 hS => ?_
 refine dn ?_
 refine sr ?_
 refine mv ?_
 refine vy (V.lenT h7 rfl Spf.ls9) fun x18_5 h8 => ?_
 refine as_ ?_
 refine as_ ?_
 refine dn ?_
 refine CV.ret ?_
 cases h8
 exact PV.ret (by simp) Tryz.results122 hS (RS.tmp rfl (RS.tmp rfl RS.nil)) rfl
noncomputable def g74_k2 (ro : List HT) (lp1 : AV → AV → AV → AV → HT → Nat → R) (y0 y6 y7 y8 : AV) (T2 : HT) (n2 : Nat) : R :=
 addK Tryz.prog 3 (.tmp 8) (.const (.int .i64 (.ofNat 1))) 740007 y8 (.lit (.int .i64 (.ofNat 1))) fun x33_3 =>
 lp1 y0 y6 y7 x33_3 T2 n2
noncomputable def g74_b1 (ro : List HT) (lp1 : AV → AV → AV → AV → HT → Nat → R) (y0 y6 y7 y8 : AV) (T1 : HT) (n1 : Nat) : R :=
 ltK Tryz.prog 3 (.tmp 8) (.tmp 7) 740005 y8 y7 fun x9_2 =>
 condK 740006 x9_2
 (
  iaK 740009 y6 y8 1 fun x10_4 =>
  ldK 740010 T1 ro x10_4 fun x11_5 =>
  faK 740013 y0 1 fun x14_6 =>
  callK (g121 ro x14_6 T1 n1) fun x15_7 T3 n3 =>
  lenTK 740016 x11_5 fun x17_8 =>
  addK Tryz.prog 3 (.tmp 15) (.tmp 17) 740017 x15_7 x17_8 fun x18_9 =>
  gtK Tryz.prog 3 (.tmp 18) (.const (.int .i64 (.ofNat 65536))) 740018 x18_9 (.lit (.int .i64 (.ofNat 65536))) fun x19_10 =>
  condK 740019 x19_10
  (
   .bad 740020
  )
  (
   fldK 740022 T3 ro y0 3 fun x26_11 =>
   notK 740023 x26_11 fun x27_12 =>
   condK 740024 x27_12
   (
    faK 740026 y0 1 fun x30_13 =>
    callK (g122 ro x30_13 x11_5 T3 n3) fun x32_14 T4 n4 =>
    g74_k2 ro lp1 y0 y6 y7 y8 T4 n4
   )
   (
    g74_k2 ro lp1 y0 y6 y7 y8 T3 n3
   )
  )
 )
 (
  .ok (.val (.tup [])) T1 n1
 )
noncomputable def g74 (ro : List HT) (a0 a1 : AV) (T : HT) (nx : Nat) : R :=
 lenSK 740002 a1 fun x7_1 =>
 lpf4 740004 (g74_b1 ro) 100000 a0 a1 x7_1 (.lit (.int .i64 (.ofNat 0))) T nx
theorem g74_ok (ro : List HT) (a0 a1 : AV) (T : HT) (nx : Nat) : GOk Tryz.prog envE 74 [a0, a1] ro T nx (g74 ro a0 a1 T nx) := by
 refine GOk.of_body Tryz.func74 rfl Tryz.ntmps74 (by kernel_rfl) rfl fun r T' n' h1 w0 base ρ0 its hS hP => ?_
 have X : CtxW envE ρ0 ro r T' n' := trivial
 unfold g74 at h1
 refine sr ?_
 refine mv ?_
 refine vy (V.lenS h1 rfl Spf.ls46) fun x7_1 h2 => ?_
 refine mv ?_
 refine dn ?_
 refine CV.block ?_
 refine cl4 X 0 6 7 8 [] hS h2 ⟨rfl, rfl, rfl, rfl, trivial⟩ ?_
 intro f1 y0 y6 y7 y8 T1 n1 ρ its hS h3
 unfold g74_b1 at h3
 clear h1 h2
 refine sr ?_
 refine vy (V.lt h3 rfl rfl) fun x9_2 h4 => ?_
 refine dn ?_
 refine CV.seq ?_
 refine CV.cond h4 rfl (fun e h5 => ?_) (fun e h5 => ?_)
 ·
  clear h3 h4
  subst e
  refine CV.skip ?_
  refine PV.thenN ?_
  refine cs4 X 0 6 7 8 [] (g74_k2 ro (lpf4 740004 (g74_b1 ro) f1)) ?_ ?_
  ·
   refine CV.block ?_
   refine sr ?_
   refine vy (V.ia h5 rfl rfl Spf.el46) fun x10_4 h8 => ?_
   refine vy (V.ld hS h8 rfl Spf.one9) fun x11_5 h9 => ?_
   refine as_ ?_
   refine dn ?_
   refine CV.seq ?_
   refine sr ?_
   refine mv ?_
   refine fa2 h9 Spf.fo92_1 fun x14_6 h10 => ?_
   refine LV.call hS h10 (g121_ok _ _ _ _ ) hP rfl rfl rfl rfl fun x15_7 T3 n3 h11 ρ its hS => ?_
   refine mv ?_
   refine vy (V.lenT h11 rfl Spf.ls9) fun x17_8 h12 => ?_
   refine vy (V.add h12 rfl rfl) fun x18_9 h13 => ?_
   refine vy (V.gt h13 rfl rfl) fun x19_10 h14 => ?_
   refine dn ?_
   refine CV.cond h14 rfl (fun e h15 => ?_) (fun e h15 => ?_)
   ·
    clear h5 h8 h9 h10 h11 h12 h13 h14
    subst e
    cases h15
   ·
    clear h5 h8 h9 h10 h11 h12 h13 h14
    subst e
    refine CV.skip ?_
    refine PV.thenN ?_
    refine sr ?_
    refine mv ?_
    refine fl hS h15 Spf.fo92_2 Spf.one4 fun x26_11 h16 => ?_
    refine vy (V.not h16 rfl) fun x27_12 h17 => ?_
    refine dn ?_
    refine CV.cond h17 rfl (fun e h18 => ?_) (fun e h18 => ?_)
    ·
     clear h15 h16 h17
     subst e
     refine CV.region ?_
     refine mv ?_
     refine fa2 h18 Spf.fo92_1 fun x30_13 h19 => ?_
     refine mv ?_
     refine LV.call hS h19 (g122_ok _ _ _ _ _ ) hP rfl rfl rfl rfl fun x32_14 T4 n4 h20 ρ its hS => ?_
     refine LV.done ?_
     refine PV.blockN ?_
     exact pa4 hS h20 ⟨rfl, rfl, rfl, rfl, trivial⟩
    ·
     clear h15 h16 h17
     subst e
     refine CV.skip ?_
     refine PV.blockN ?_
     exact pa4 hS h18 ⟨rfl, rfl, rfl, rfl, trivial⟩
  ·
   intro y0 y6 y7 y8 T2 n2 ρ its hS h6
   unfold g74_k2 at h6
   clear h5
   refine CV.region ?_
   refine vy (V.add h6 rfl rfl) fun x33_3 h7 => ?_
   refine mv ?_
   refine LV.done ?_
   exact pb4 hS h7 ⟨rfl, rfl, rfl, rfl, trivial⟩
 ·
  clear h3 h4
  subst e
  refine CV.exit ?_
  refine PV.thenE ?_
  refine PV.thenE ?_
  refine PV.blockE ?_
  cases h5
  exact PV.ret (by simp) Tryz.results74 hS RS.nil rfl
noncomputable def g187_k1 (ro : List HT) (y2 y3 y4 y5 : AV) (T3 : HT) (n3 : Nat) : R :=
 .ok (.val (.tup [y4, y5])) T3 n3
noncomputable def g187_k3 (ro : List HT) (y2 y3 y4 y5 y19 : AV) (T5 : HT) (n5 : Nat) : R :=
 condK 1870018 y19
 (
  g187_k1 ro y2 y3 y4 y5 T5 n5
 )
 (
  .ok (.val (.tup [(.lit (.int .i64 (.ofNat 6))), (.lit (.int .i64 (.ofNat 6)))])) T5 n5
 )
noncomputable def g187_k2 (ro : List HT) (y2 y3 y4 y5 y10 y11 : AV) (T4 : HT) (n4 : Nat) : R :=
 condK 1870014 y11
 (
  addK Tryz.prog 3 (.tmp 22) (.const (.int .i64 (.ofNat 1))) 1870016 y5 (.lit (.int .i64 (.ofNat 1))) fun x23_3 =>
  g187_k1 ro y2 y3 y4 x23_3 T4 n4
 )
 (
  eqK Tryz.prog 3 (.tmp 10) (.const (.int .i64 (.ofNat 16))) 1870021 y10 (.lit (.int .i64 (.ofNat 16))) fun x20_4 =>
  condK 1870023 x20_4
  (
   g187_k3 ro y2 y3 y4 y5 (.lit (.bool true)) T4 n4
  )
  (
   eqK Tryz.prog 3 (.tmp 10) (.const (.int .i64 (.ofNat 17))) 1870024 y10 (.lit (.int .i64 (.ofNat 17))) fun x21_5 =>
   g187_k3 ro y2 y3 y4 y5 x21_5 T4 n4
  )
 )
noncomputable def g187 (ro : List HT) (a0 : AV) (T : HT) (nx : Nat) : R :=
 callK (g22 ro a0 T nx) fun x7_1 T1 n1 =>
 callK (g22 ro a0 T1 n1) fun x9_2 T2 n2 =>
 eqK Tryz.prog 3 (.tmp 10) (.const (.int .i64 (.ofNat 23))) 1870026 a0 (.lit (.int .i64 (.ofNat 23))) fun x12_6 =>
 condK 1870028 x12_6
 (
  g187_k2 ro (.lit (.int .i64 (.ofNat 0))) (.lit (.int .i64 (.ofNat 0))) x7_1 x9_2 a0 (.lit (.bool true)) T2 n2
 )
 (
  eqK Tryz.prog 3 (.tmp 10) (.const (.int .i64 (.ofNat 24))) 1870029 a0 (.lit (.int .i64 (.ofNat 24))) fun x13_7 =>
  condK 1870031 x13_7
  (
   g187_k2 ro (.lit (.int .i64 (.ofNat 0))) (.lit (.int .i64 (.ofNat 0))) x7_1 x9_2 a0 (.lit (.bool true)) T2 n2
  )
  (
   eqK Tryz.prog 3 (.tmp 10) (.const (.int .i64 (.ofNat 25))) 1870032 a0 (.lit (.int .i64 (.ofNat 25))) fun x14_8 =>
   condK 1870034 x14_8
   (
    g187_k2 ro (.lit (.int .i64 (.ofNat 0))) (.lit (.int .i64 (.ofNat 0))) x7_1 x9_2 a0 (.lit (.bool true)) T2 n2
   )
   (
    eqK Tryz.prog 3 (.tmp 10) (.const (.int .i64 (.ofNat 21))) 1870035 a0 (.lit (.int .i64 (.ofNat 21))) fun x15_9 =>
    condK 1870037 x15_9
    (
     g187_k2 ro (.lit (.int .i64 (.ofNat 0))) (.lit (.int .i64 (.ofNat 0))) x7_1 x9_2 a0 (.lit (.bool true)) T2 n2
    )
    (
     eqK Tryz.prog 3 (.tmp 10) (.const (.int .i64 (.ofNat 22))) 1870038 a0 (.lit (.int .i64 (.ofNat 22))) fun x16_10 =>
     condK 1870040 x16_10
     (
      g187_k2 ro (.lit (.int .i64 (.ofNat 0))) (.lit (.int .i64 (.ofNat 0))) x7_1 x9_2 a0 (.lit (.bool true)) T2 n2
     )
     (
      eqK Tryz.prog 3 (.tmp 10) (.const (.int .i64 (.ofNat 19))) 1870041 a0 (.lit (.int .i64 (.ofNat 19))) fun x17_11 =>
      condK 1870043 x17_11
      (
       g187_k2 ro (.lit (.int .i64 (.ofNat 0))) (.lit (.int .i64 (.ofNat 0))) x7_1 x9_2 a0 (.lit (.bool true)) T2 n2
      )
      (
       eqK Tryz.prog 3 (.tmp 10) (.const (.int .i64 (.ofNat 18))) 1870044 a0 (.lit (.int .i64 (.ofNat 18))) fun x18_12 =>
       g187_k2 ro (.lit (.int .i64 (.ofNat 0))) (.lit (.int .i64 (.ofNat 0))) x7_1 x9_2 a0 x18_12 T2 n2
      )
     )
    )
   )
  )
 )
theorem g187_ok (ro : List HT) (a0 : AV) (T : HT) (nx : Nat) : GOk Tryz.prog envE 187 [a0] ro T nx (g187 ro a0 T nx) := by
 refine GOk.of_body Tryz.func187 rfl Tryz.ntmps187 (by kernel_rfl) rfl fun r T' n' h1 w0 base ρ0 its hS hP => ?_
 have X : CtxW envE ρ0 ro r T' n' := trivial
 unfold g187 at h1
 refine sr ?_
 refine as_ ?_
 refine as_ ?_
 refine dn ?_
 refine sr ?_
 refine mv ?_
 refine LV.call hS h1 (g22_ok _ _ _ _ ) hP rfl rfl rfl rfl fun x7_1 T1 n1 h2 ρ its hS => ?_
 refine mv ?_
 refine LV.call hS h2 (g22_ok _ _ _ _ ) hP rfl rfl rfl rfl fun x9_2 T2 n2 h3 ρ its hS => ?_
 refine as_ ?_
 refine as_ ?_
 refine dn ?_
 refine CV.seq ?_
 refine sr ?_
 refine mv ?_
 refine dn ?_
 refine CV.block ?_
 refine cs4 X 2 3 4 5 [] (g187_k1 ro) ?_ ?_
 ·
  refine CV.block ?_
  refine CV.seq ?_
  refine CV.block ?_
  refine CV.seq ?_
  refine CV.seq ?_
  refine cs6 X 2 3 4 5 10 11 [] (g187_k2 ro) ?_ ?_
  ·
   refine sr ?_
   refine vy (V.eq h3 rfl rfl) fun x12_6 h13 => ?_
   refine as_ ?_
   refine dn ?_
   refine CV.cond h13 rfl (fun e h14 => ?_) (fun e h14 => ?_)
   ·
    clear h1 h2 h3 h13
    subst e
    refine CV.skip ?_
    exact pa6 hS h14 ⟨rfl, rfl, rfl, rfl, rfl, rfl, trivial⟩
   ·
    clear h1 h2 h3 h13
    subst e
    refine sr ?_
    refine vy (V.eq h14 rfl rfl) fun x13_7 h15 => ?_
    refine as_ ?_
    refine dn ?_
    refine CV.cond h15 rfl (fun e h16 => ?_) (fun e h16 => ?_)
    ·
     clear h14 h15
     subst e
     refine CV.skip ?_
     exact pa6 hS h16 ⟨rfl, rfl, rfl, rfl, rfl, rfl, trivial⟩
    ·
     clear h14 h15
     subst e
     refine sr ?_
     refine vy (V.eq h16 rfl rfl) fun x14_8 h17 => ?_
     refine as_ ?_
     refine dn ?_
     refine CV.cond h17 rfl (fun e h18 => ?_) (fun e h18 => ?_)
     ·
      clear h16 h17
      subst e
      refine CV.skip ?_
      exact pa6 hS h18 ⟨rfl, rfl, rfl, rfl, rfl, rfl, trivial⟩
     ·
      clear h16 h17
      subst e
      refine sr ?_
      refine vy (V.eq h18 rfl rfl) fun x15_9 h19 => ?_
      refine as_ ?_
      refine dn ?_
      refine CV.cond h19 rfl (fun e h20 => ?_) (fun e h20 => ?_)
      ·
       clear h18 h19
       subst e
       refine CV.skip ?_
       exact pa6 hS h20 ⟨rfl, rfl, rfl, rfl, rfl, rfl, trivial⟩
      ·
       clear h18 h19
       subst e
       refine sr ?_
       refine vy (V.eq h20 rfl rfl) fun x16_10 h21 => ?_
       refine as_ ?_
       refine dn ?_
       refine CV.cond h21 rfl (fun e h22 => ?_) (fun e h22 => ?_)
       ·
        clear h20 h21
        subst e
        refine CV.skip ?_
        exact pa6 hS h22 ⟨rfl, rfl, rfl, rfl, rfl, rfl, trivial⟩
       ·
        clear h20 h21
        subst e
        refine sr ?_
        refine vy (V.eq h22 rfl rfl) fun x17_11 h23 => ?_
        refine as_ ?_
        refine dn ?_
        refine CV.cond h23 rfl (fun e h24 => ?_) (fun e h24 => ?_)
        ·
         clear h22 h23
         subst e
         refine CV.skip ?_
         exact pa6 hS h24 ⟨rfl, rfl, rfl, rfl, rfl, rfl, trivial⟩
        ·
         clear h22 h23
         subst e
         refine CV.region ?_
         refine vy (V.eq h24 rfl rfl) fun x18_12 h25 => ?_
         refine as_ ?_
         refine LV.done ?_
         exact pa6 hS h25 ⟨rfl, rfl, rfl, rfl, rfl, rfl, trivial⟩
  ·
   intro y2 y3 y4 y5 y10 y11 T4 n4 ρ its hS h5
   unfold g187_k2 at h5
   clear h1 h2 h3
   refine CV.cond h5 rfl (fun e h6 => ?_) (fun e h6 => ?_)
   ·
    clear h5
    subst e
    refine CV.exit ?_
    refine PV.thenE ?_
    refine PV.thenE ?_
    refine PV.blockE ?_
    refine PV.thenN ?_
    refine CV.region ?_
    refine mv ?_
    refine vy (V.add h6 rfl rfl) fun x23_3 h7 => ?_
    refine as_ ?_
    refine LV.done ?_
    refine PV.blockN ?_
    exact pa4 hS h7 ⟨rfl, rfl, rfl, rfl, trivial⟩
   ·
    clear h5
    subst e
    refine CV.skip ?_
    refine PV.thenN ?_
    refine cs5 X 2 3 4 5 19 [] (g187_k3 ro) ?_ ?_
    ·
     refine sr ?_
     refine vy (V.eq h6 rfl rfl) fun x20_4 h10 => ?_
     refine as_ ?_
     refine dn ?_
     refine CV.cond h10 rfl (fun e h11 => ?_) (fun e h11 => ?_)
     ·
      clear h6 h10
      subst e
      refine CV.skip ?_
      exact pa5 hS h11 ⟨rfl, rfl, rfl, rfl, rfl, trivial⟩
     ·
      clear h6 h10
      subst e
      refine CV.region ?_
      refine vy (V.eq h11 rfl rfl) fun x21_5 h12 => ?_
      refine as_ ?_
      refine LV.done ?_
      exact pa5 hS h12 ⟨rfl, rfl, rfl, rfl, rfl, trivial⟩
    ·
     intro y2 y3 y4 y5 y19 T5 n5 ρ its hS h8
     unfold g187_k3 at h8
     clear h6
     refine CV.cond h8 rfl (fun e h9 => ?_) (fun e h9 => ?_)
     ·
      clear h8
      subst e
      refine CV.exit ?_
      refine PV.thenE ?_
      refine PV.blockO rfl ?_
      refine PV.thenE ?_
      refine PV.blockE ?_
      exact pa4 hS h9 ⟨rfl, rfl, rfl, rfl, trivial⟩
     ·
      clear h8
      subst e
      refine CV.skip ?_
      refine PV.thenN ?_
      refine CV.exit ?_
      refine PV.blockO rfl ?_
      refine PV.thenE ?_
      refine PV.blockO rfl ?_
      refine PV.thenE ?_
      refine PV.blockE ?_
      refine PV.thenN ?_
      refine sr ?_
      refine as_ ?_
      refine as_ ?_
      refine dn ?_
      refine CV.ret ?_
      cases h9
      exact PV.ret (by simp) Tryz.results187 hS (RS.tmp rfl (RS.tmp rfl RS.nil)) rfl
 ·
  intro y2 y3 y4 y5 T3 n3 ρ its hS h4
  unfold g187_k1 at h4
  clear h1 h2 h3
  refine CV.seq ?_
  refine sr ?_
  refine mv ?_
  refine mv ?_
  refine as_ ?_
  refine as_ ?_
  refine dn ?_
  refine CV.ret ?_
  refine PV.thenR ?_
  refine PV.blockR ?_
  refine PV.thenR ?_
  cases h4
  exact PV.ret (by simp) Tryz.results187 hS (RS.tmp rfl (RS.tmp rfl RS.nil)) rfl
noncomputable def g188 (ro : List HT) (a0 : AV) (T : HT) (nx : Nat) : R :=
 bsK 1880002 T nx 13 9 1 [(0, (.lit (.string ⟨⟨[32, 43, 32]⟩⟩))), (1, (.lit (.string ⟨⟨[32, 45, 32]⟩⟩))), (2, (.lit (.string ⟨⟨[32, 42, 32]⟩⟩))), (3, (.lit (.string ⟨⟨[32, 47, 47, 32]⟩⟩))), (4, (.lit (.string ⟨⟨[32, 37, 32]⟩⟩))), (5, (.lit (.string ⟨⟨[32, 61, 61, 32]⟩⟩))), (6, (.lit (.string ⟨⟨[32, 33, 61, 32]⟩⟩))), (7, (.lit (.string ⟨⟨[32, 60, 32]⟩⟩))), (8, (.lit (.string ⟨⟨[32, 60, 61, 32]⟩⟩))), (9, (.lit (.string ⟨⟨[32, 62, 32]⟩⟩))), (10, (.lit (.string ⟨⟨[32, 62, 61, 32]⟩⟩))), (11, (.lit (.string ⟨⟨[32, 105, 110, 32]⟩⟩))), (12, (.lit (.string ⟨⟨[32, 110, 111, 116, 32, 105, 110, 32]⟩⟩)))] fun x3_1 T1 n1 =>
 subK Tryz.prog 3 (.tmp 4) (.const (.int .i64 (.ofNat 21))) 1880004 a0 (.lit (.int .i64 (.ofNat 21))) fun x5_2 =>
 iaK 1880005 x3_1 x5_2 1 fun x6_3 =>
 ldK 1880006 T1 ro x6_3 fun x7_4 =>
 .ok (.val x7_4) T1 n1
theorem g188_ok (ro : List HT) (a0 : AV) (T : HT) (nx : Nat) : GOk Tryz.prog envE 188 [a0] ro T nx (g188 ro a0 T nx) := by
 refine GOk.of_body Tryz.func188 rfl Tryz.ntmps188 (by kernel_rfl) rfl fun r T' n' h1 w0 base ρ0 its hS hP => ?_
 have X : CtxW envE ρ0 ro r T' n' := trivial
 unfold g188 at h1
 refine sr ?_
 refine as_ ?_
 refine dn ?_
 refine sr ?_
 refine LV.bslice hS h1 rfl rfl Spf.el46 rfl rfl rfl rfl fun x3_1 T1 n1 h2 ρ its hS hdr => ?_
 refine mv ?_
 refine vy (V.sub h2 rfl rfl) fun x5_2 h3 => ?_
 refine vy (V.ia h3 rfl rfl Spf.el46) fun x6_3 h4 => ?_
 refine vy (V.ld hS h4 rfl Spf.one9) fun x7_4 h5 => ?_
 refine as_ ?_
 refine dn ?_
 refine CV.ret ?_
 cases h5
 exact PV.ret (by simp) Tryz.results188 hS (RS.tmp rfl RS.nil) rfl
noncomputable def g46 (ih : FuncId → List HT → List AV → HT → Nat → R) (ro : List HT) (a0 a1 a2 : AV) (T : HT) (nx : Nat) : R :=
 fldK 460002 T ro a0 3 fun x10_1 =>
 condK 460003 x10_1
 (
  .ok (.val (.tup [])) T nx
 )
 (
  fldK 460005 T ro a0 0 fun x14_2 =>
  iaK 460007 x14_2 a1 5 fun x16_3 =>
  ldAK 460008 T ro x16_3 5 fun x17_4 =>
  newK T nx (.obj [.lit (.int .i64 0), .lit (.int .i64 0), .lit (.int .i64 0), .lit (.string ⟨#[]⟩), .lit (.slice none 0 0)] 32) fun x6_5 T1 n1 =>
  stAK 460010 T1 x6_5 x17_4 5 fun T2 =>
  faK 460011 x6_5 0 fun x18_6 =>
  ldK 460012 T2 ro x18_6 fun x19_7 =>
  callK (g22 ro x19_7 T2 n1) fun x20_8 T3 n3 =>
  ltK Tryz.prog 3 (.tmp 20) (.tmp 21) 460015 x20_8 a2 fun x22_9 =>
  condK 460016 x22_9
  (
   bsK 460018 T3 n3 1 9 1 [(0, (.lit (.string ⟨⟨[40]⟩⟩)))] fun x24_10 T4 n4 =>
   callK (g74 ro a0 x24_10 T4 n4) fun x25_11 T5 n5 =>
   ldAK 460021 T5 ro x6_5 5 fun x27_12 =>
   callK (ih 75 ro [a0, x27_12] T5 n5) fun x28_13 T6 n6 =>
   bsK 460024 T6 n6 1 9 1 [(0, (.lit (.string ⟨⟨[41]⟩⟩)))] fun x30_14 T7 n7 =>
   callK (g74 ro a0 x30_14 T7 n7) fun x31_15 T8 n8 =>
   .ok (.val (.tup [])) T8 n8
  )
  (
   ldAK 460027 T3 ro x6_5 5 fun x33_16 =>
   callK (ih 75 ro [a0, x33_16] T3 n3) fun x34_17 T9 n9 =>
   .ok (.val (.tup [])) T9 n9
  )
 )
theorem g46_ok (ih : FuncId → List HT → List AV → HT → Nat → R) (hI : ∀ f ro args T nx, GOk Tryz.prog envE f args ro T nx (ih f ro args T nx)) (ro : List HT) (a0 a1 a2 : AV) (T : HT) (nx : Nat) : GOk Tryz.prog envE 46 [a0, a1, a2] ro T nx (g46 ih ro a0 a1 a2 T nx) := by
 refine GOk.of_body Tryz.func46 rfl Tryz.ntmps46 (by kernel_rfl) rfl fun r T' n' h1 w0 base ρ0 its hS hP => ?_
 have X : CtxW envE ρ0 ro r T' n' := trivial
 unfold g46 at h1
 refine CV.seq ?_
 refine sr ?_
 refine mv ?_
 refine fl hS h1 Spf.fo92_2 Spf.one4 fun x10_1 h2 => ?_
 refine dn ?_
 refine CV.cond h2 rfl (fun e h3 => ?_) (fun e h3 => ?_)
 ·
  clear h1 h2
  subst e
  refine CV.ret ?_
  refine PV.thenR ?_
  cases h3
  exact PV.ret (by simp) Tryz.results46 hS RS.nil rfl
 ·
  clear h1 h2
  subst e
  refine CV.skip ?_
  refine PV.thenN ?_
  refine sr ?_
  refine mv ?_
  refine fl hS h3 Spf.fo92_0 Spf.one23 fun x14_2 h4 => ?_
  refine mv ?_
  refine vy (V.ia h4 rfl rfl Spf.el23) fun x16_3 h5 => ?_
  refine vy (V.ldA hS h5 rfl Spf.agg32) fun x17_4 h6 => ?_
  refine LV.alloc hS h6 rfl Spf.zr32 rfl rfl rfl fun x6_5 T1 n1 h7 ρ its hS hdr => ?_
  refine LV.stA hS h7 rfl rfl rfl Spf.agg32 rfl rfl rfl fun T2 its h8 hS => ?_
  refine dn ?_
  refine CV.seq ?_
  refine sr ?_
  refine vy (V.fa h8 rfl Spf.fo32_0) fun x18_6 h9 => ?_
  refine vy (V.ld hS h9 rfl Spf.one3) fun x19_7 h10 => ?_
  refine LV.call hS h10 (g22_ok _ _ _ _ ) hP rfl rfl rfl rfl fun x20_8 T3 n3 h11 ρ its hS => ?_
  refine mv ?_
  refine vy (V.lt h11 rfl rfl) fun x22_9 h12 => ?_
  refine dn ?_
  refine CV.cond h12 rfl (fun e h13 => ?_) (fun e h13 => ?_)
  ·
   clear h3 h4 h5 h6 h7 h8 h9 h10 h11 h12
   subst e
   refine sr ?_
   refine mv ?_
   refine LV.bslice hS h13 rfl rfl Spf.el46 rfl rfl rfl rfl fun x24_10 T4 n4 h14 ρ its hS hdr => ?_
   refine LV.call hS h14 (g74_ok _ _ _ _ _ ) hP rfl rfl rfl rfl fun x25_11 T5 n5 h15 ρ its hS => ?_
   refine dn ?_
   refine sr ?_
   refine mv ?_
   refine vy (V.ldA hS h15 rfl Spf.agg32) fun x27_12 h16 => ?_
   refine LV.call hS h16 (hI _ _ _ _ _) hP rfl rfl rfl rfl fun x28_13 T6 n6 h17 ρ its hS => ?_
   refine dn ?_
   refine sr ?_
   refine mv ?_
   refine LV.bslice hS h17 rfl rfl Spf.el46 rfl rfl rfl rfl fun x30_14 T7 n7 h18 ρ its hS hdr => ?_
   refine LV.call hS h18 (g74_ok _ _ _ _ _ ) hP rfl rfl rfl rfl fun x31_15 T8 n8 h19 ρ its hS => ?_
   refine dn ?_
   refine CV.ret ?_
   refine PV.thenR ?_
   cases h19
   exact PV.ret (by simp) Tryz.results46 hS RS.nil rfl
  ·
   clear h3 h4 h5 h6 h7 h8 h9 h10 h11 h12
   subst e
   refine CV.skip ?_
   refine PV.thenN ?_
   refine CV.region ?_
   refine mv ?_
   refine vy (V.ldA hS h13 rfl Spf.agg32) fun x33_16 h20 => ?_
   refine LV.call hS h20 (hI _ _ _ _ _) hP rfl rfl rfl rfl fun x34_17 T9 n9 h21 ρ its hS => ?_
   refine LV.done ?_
   cases h21
   exact PV.ret (by simp) Tryz.results46 hS RS.nil rfl
noncomputable def g75_k2 (ih : FuncId → List HT → List AV → HT → Nat → R) (ro : List HT) (y0 y3 y8 y81 : AV) (T5 : HT) (n5 : Nat) : R :=
 condK 750045 y81
 (
  .bad 750046
 )
 (
  eqK Tryz.prog 3 (.tmp 8) (.const (.int .i64 (.ofNat 16))) 750047 y8 (.lit (.int .i64 (.ofNat 16))) fun x90_18 =>
  condK 750049 x90_18
  (
   .bad 750050
  )
  (
   eqK Tryz.prog 3 (.tmp 8) (.const (.int .i64 (.ofNat 17))) 750051 y8 (.lit (.int .i64 (.ofNat 17))) fun x100_19 =>
   condK 750053 x100_19
   (
    .bad 750054
   )
   (
    eqK Tryz.prog 3 (.tmp 8) (.const (.int .i64 (.ofNat 20))) 750055 y8 (.lit (.int .i64 (.ofNat 20))) fun x110_20 =>
    condK 750057 x110_20
    (
     .bad 750058
    )
    (
     ldAK 750060 T5 ro y3 5 fun x10_21 =>
     callK (ih 128 ro [y0, x10_21] T5 n5) fun x11_22 T6 n6 =>
     .ok (.val (.tup [])) T6 n6
    )
   )
  )
 )
noncomputable def g75_k1 (ih : FuncId → List HT → List AV → HT → Nat → R) (ro : List HT) (y0 y3 y8 y27 : AV) (T2 : HT) (n2 : Nat) : R :=
 condK 750019 y27
 (
  faK 750021 y3 3 fun x31_9 =>
  ldK 750022 T2 ro x31_9 fun x32_10 =>
  bsK 750023 T2 n2 1 9 1 [(0, x32_10)] fun x33_11 T3 n3 =>
  callK (g74 ro y0 x33_11 T3 n3) fun x34_12 T4 n4 =>
  .ok (.val (.tup [])) T4 n4
 )
 (
  eqK Tryz.prog 3 (.tmp 8) (.const (.int .i64 (.ofNat 5))) 750025 y8 (.lit (.int .i64 (.ofNat 5))) fun x36_13 =>
  condK 750027 x36_13
  (
   .bad 750028
  )
  (
   eqK Tryz.prog 3 (.tmp 8) (.const (.int .i64 (.ofNat 7))) 750029 y8 (.lit (.int .i64 (.ofNat 7))) fun x44_14 =>
   condK 750031 x44_14
   (
    .bad 750032
   )
   (
    eqK Tryz.prog 3 (.tmp 8) (.const (.int .i64 (.ofNat 8))) 750033 y8 (.lit (.int .i64 (.ofNat 8))) fun x55_15 =>
    condK 750035 x55_15
    (
     .bad 750036
    )
    (
     eqK Tryz.prog 3 (.tmp 8) (.const (.int .i64 (.ofNat 9))) 750037 y8 (.lit (.int .i64 (.ofNat 9))) fun x72_16 =>
     condK 750039 x72_16
     (
      .bad 750040
     )
     (
      eqK Tryz.prog 3 (.tmp 8) (.const (.int .i64 (.ofNat 34))) 750041 y8 (.lit (.int .i64 (.ofNat 34))) fun x77_17 =>
      condK 750043 x77_17
      (
       .bad 750044
      )
      (
       eqK Tryz.prog 3 (.tmp 8) (.const (.int .i64 (.ofNat 10))) 750062 y8 (.lit (.int .i64 (.ofNat 10))) fun x82_23 =>
       condK 750064 x82_23
       (
        g75_k2 ih ro y0 y3 y8 (.lit (.bool true)) T2 n2
       )
       (
        eqK Tryz.prog 3 (.tmp 8) (.const (.int .i64 (.ofNat 12))) 750065 y8 (.lit (.int .i64 (.ofNat 12))) fun x83_24 =>
        condK 750067 x83_24
        (
         g75_k2 ih ro y0 y3 y8 (.lit (.bool true)) T2 n2
        )
        (
         eqK Tryz.prog 3 (.tmp 8) (.const (.int .i64 (.ofNat 13))) 750068 y8 (.lit (.int .i64 (.ofNat 13))) fun x84_25 =>
         condK 750070 x84_25
         (
          g75_k2 ih ro y0 y3 y8 (.lit (.bool true)) T2 n2
         )
         (
          eqK Tryz.prog 3 (.tmp 8) (.const (.int .i64 (.ofNat 14))) 750071 y8 (.lit (.int .i64 (.ofNat 14))) fun x85_26 =>
          g75_k2 ih ro y0 y3 y8 x85_26 T2 n2
         )
        )
       )
      )
     )
    )
   )
  )
 )
noncomputable def g75 (ih : FuncId → List HT → List AV → HT → Nat → R) (ro : List HT) (a0 a1 : AV) (T : HT) (nx : Nat) : R :=
 boxK 750001 T nx a1 32 fun x3_1 T1 n1 =>
 faK 750002 x3_1 4 fun x5_2 =>
 ldK 750003 T1 ro x5_2 fun x6_3 =>
 faK 750005 x3_1 0 fun x7_4 =>
 ldK 750006 T1 ro x7_4 fun x8_5 =>
 eqK Tryz.prog 3 (.tmp 8) (.const (.int .i64 (.ofNat 1))) 750007 x8_5 (.lit (.int .i64 (.ofNat 1))) fun x13_6 =>
 condK 750009 x13_6
 (
  .bad 750010
 )
 (
  eqK Tryz.prog 3 (.tmp 8) (.const (.int .i64 (.ofNat 2))) 750011 x8_5 (.lit (.int .i64 (.ofNat 2))) fun x18_7 =>
  condK 750013 x18_7
  (
   .bad 750014
  )
  (
   eqK Tryz.prog 3 (.tmp 8) (.const (.int .i64 (.ofNat 3))) 750015 x8_5 (.lit (.int .i64 (.ofNat 3))) fun x23_8 =>
   condK 750017 x23_8
   (
    .bad 750018
   )
   (
    eqK Tryz.prog 3 (.tmp 8) (.const (.int .i64 (.ofNat 4))) 750073 x8_5 (.lit (.int .i64 (.ofNat 4))) fun x28_27 =>
    condK 750075 x28_27
    (
     g75_k1 ih ro a0 x3_1 x8_5 (.lit (.bool true)) T1 n1
    )
    (
     eqK Tryz.prog 3 (.tmp 8) (.const (.int .i64 (.ofNat 6))) 750076 x8_5 (.lit (.int .i64 (.ofNat 6))) fun x29_28 =>
     g75_k1 ih ro a0 x3_1 x8_5 x29_28 T1 n1
    )
   )
  )
 )
theorem g75_ok (ih : FuncId → List HT → List AV → HT → Nat → R) (hI : ∀ f ro args T nx, GOk Tryz.prog envE f args ro T nx (ih f ro args T nx)) (ro : List HT) (a0 a1 : AV) (T : HT) (nx : Nat) : GOk Tryz.prog envE 75 [a0, a1] ro T nx (g75 ih ro a0 a1 T nx) := by
 refine GOk.of_body Tryz.func75 rfl Tryz.ntmps75 (by kernel_rfl) rfl fun r T' n' h1 w0 base ρ0 its hS hP => ?_
 have X : CtxW envE ρ0 ro r T' n' := trivial
 unfold g75 at h1
 refine sr ?_
 refine LV.box hS h1 rfl rfl rfl rfl rfl fun x3_1 T1 n1 h2 ρ its hS hdr => ?_
 refine dn ?_
 refine sr ?_
 refine vy (V.fa h2 rfl Spf.fo32_4) fun x5_2 h3 => ?_
 refine vy (V.ld hS h3 rfl Spf.one30) fun x6_3 h4 => ?_
 refine as_ ?_
 refine dn ?_
 refine sr ?_
 refine vy (V.fa h4 rfl Spf.fo32_0) fun x7_4 h5 => ?_
 refine vy (V.ld hS h5 rfl Spf.one3) fun x8_5 h6 => ?_
 refine dn ?_
 refine CV.block ?_
 refine sr ?_
 refine vy (V.eq h6 rfl rfl) fun x13_6 h7 => ?_
 refine as_ ?_
 refine dn ?_
 refine CV.cond h7 rfl (fun e h8 => ?_) (fun e h8 => ?_)
 ·
  clear h1 h2 h3 h4 h5 h6 h7
  subst e
  cases h8
 ·
  clear h1 h2 h3 h4 h5 h6 h7
  subst e
  refine sr ?_
  refine vy (V.eq h8 rfl rfl) fun x18_7 h9 => ?_
  refine as_ ?_
  refine dn ?_
  refine CV.cond h9 rfl (fun e h10 => ?_) (fun e h10 => ?_)
  ·
   clear h8 h9
   subst e
   cases h10
  ·
   clear h8 h9
   subst e
   refine sr ?_
   refine vy (V.eq h10 rfl rfl) fun x23_8 h11 => ?_
   refine as_ ?_
   refine dn ?_
   refine CV.cond h11 rfl (fun e h12 => ?_) (fun e h12 => ?_)
   ·
    clear h10 h11
    subst e
    cases h12
   ·
    clear h10 h11
    subst e
    refine cs4 X 0 3 8 27 [] (g75_k1 ih ro) ?_ ?_
    ·
     refine sr ?_
     refine vy (V.eq h12 rfl rfl) fun x28_27 h46 => ?_
     refine as_ ?_
     refine dn ?_
     refine CV.cond h46 rfl (fun e h47 => ?_) (fun e h47 => ?_)
     ·
      clear h12 h46
      subst e
      refine CV.skip ?_
      exact pa4 hS h47 ⟨rfl, rfl, rfl, rfl, trivial⟩
     ·
      clear h12 h46
      subst e
      refine CV.region ?_
      refine vy (V.eq h47 rfl rfl) fun x29_28 h48 => ?_
      refine as_ ?_
      refine LV.done ?_
      exact pa4 hS h48 ⟨rfl, rfl, rfl, rfl, trivial⟩
    ·
     intro y0 y3 y8 y27 T2 n2 ρ its hS h13
     unfold g75_k1 at h13
     clear h12
     refine CV.cond h13 rfl (fun e h14 => ?_) (fun e h14 => ?_)
     ·
      clear h13
      subst e
      refine CV.region ?_
      refine mv ?_
      refine vy (V.fa h14 rfl Spf.fo32_3) fun x31_9 h15 => ?_
      refine vy (V.ld hS h15 rfl Spf.one9) fun x32_10 h16 => ?_
      refine LV.bslice hS h16 rfl rfl Spf.el46 rfl rfl rfl rfl fun x33_11 T3 n3 h17 ρ its hS hdr => ?_
      refine LV.call hS h17 (g74_ok _ _ _ _ _ ) hP rfl rfl rfl rfl fun x34_12 T4 n4 h18 ρ its hS => ?_
      refine LV.done ?_
      refine PV.blockN ?_
      cases h18
      exact PV.ret (by simp) Tryz.results75 hS RS.nil rfl
     ·
      clear h13
      subst e
      refine sr ?_
      refine vy (V.eq h14 rfl rfl) fun x36_13 h19 => ?_
      refine as_ ?_
      refine dn ?_
      refine CV.cond h19 rfl (fun e h20 => ?_) (fun e h20 => ?_)
      ·
       clear h14 h19
       subst e
       cases h20
      ·
       clear h14 h19
       subst e
       refine sr ?_
       refine vy (V.eq h20 rfl rfl) fun x44_14 h21 => ?_
       refine as_ ?_
       refine dn ?_
       refine CV.cond h21 rfl (fun e h22 => ?_) (fun e h22 => ?_)
       ·
        clear h20 h21
        subst e
        cases h22
       ·
        clear h20 h21
        subst e
        refine sr ?_
        refine vy (V.eq h22 rfl rfl) fun x55_15 h23 => ?_
        refine as_ ?_
        refine dn ?_
        refine CV.cond h23 rfl (fun e h24 => ?_) (fun e h24 => ?_)
        ·
         clear h22 h23
         subst e
         cases h24
        ·
         clear h22 h23
         subst e
         refine sr ?_
         refine vy (V.eq h24 rfl rfl) fun x72_16 h25 => ?_
         refine as_ ?_
         refine dn ?_
         refine CV.cond h25 rfl (fun e h26 => ?_) (fun e h26 => ?_)
         ·
          clear h24 h25
          subst e
          cases h26
         ·
          clear h24 h25
          subst e
          refine sr ?_
          refine vy (V.eq h26 rfl rfl) fun x77_17 h27 => ?_
          refine as_ ?_
          refine dn ?_
          refine CV.cond h27 rfl (fun e h28 => ?_) (fun e h28 => ?_)
          ·
           clear h26 h27
           subst e
           cases h28
          ·
           clear h26 h27
           subst e
           refine cs4 X 0 3 8 81 [] (g75_k2 ih ro) ?_ ?_
           ·
            refine sr ?_
            refine vy (V.eq h28 rfl rfl) fun x82_23 h39 => ?_
            refine as_ ?_
            refine dn ?_
            refine CV.cond h39 rfl (fun e h40 => ?_) (fun e h40 => ?_)
            ·
             clear h28 h39
             subst e
             refine CV.skip ?_
             exact pa4 hS h40 ⟨rfl, rfl, rfl, rfl, trivial⟩
            ·
             clear h28 h39
             subst e
             refine sr ?_
             refine vy (V.eq h40 rfl rfl) fun x83_24 h41 => ?_
             refine as_ ?_
             refine dn ?_
             refine CV.cond h41 rfl (fun e h42 => ?_) (fun e h42 => ?_)
             ·
              clear h40 h41
              subst e
              refine CV.skip ?_
              exact pa4 hS h42 ⟨rfl, rfl, rfl, rfl, trivial⟩
             ·
              clear h40 h41
              subst e
              refine sr ?_
              refine vy (V.eq h42 rfl rfl) fun x84_25 h43 => ?_
              refine as_ ?_
              refine dn ?_
              refine CV.cond h43 rfl (fun e h44 => ?_) (fun e h44 => ?_)
              ·
               clear h42 h43
               subst e
               refine CV.skip ?_
               exact pa4 hS h44 ⟨rfl, rfl, rfl, rfl, trivial⟩
              ·
               clear h42 h43
               subst e
               refine CV.region ?_
               refine vy (V.eq h44 rfl rfl) fun x85_26 h45 => ?_
               refine as_ ?_
               refine LV.done ?_
               exact pa4 hS h45 ⟨rfl, rfl, rfl, rfl, trivial⟩
           ·
            intro y0 y3 y8 y81 T5 n5 ρ its hS h29
            unfold g75_k2 at h29
            clear h28
            refine CV.cond h29 rfl (fun e h30 => ?_) (fun e h30 => ?_)
            ·
             clear h29
             subst e
             cases h30
            ·
             clear h29
             subst e
             refine sr ?_
             refine vy (V.eq h30 rfl rfl) fun x90_18 h31 => ?_
             refine as_ ?_
             refine dn ?_
             refine CV.cond h31 rfl (fun e h32 => ?_) (fun e h32 => ?_)
             ·
              clear h30 h31
              subst e
              cases h32
             ·
              clear h30 h31
              subst e
              refine sr ?_
              refine vy (V.eq h32 rfl rfl) fun x100_19 h33 => ?_
              refine as_ ?_
              refine dn ?_
              refine CV.cond h33 rfl (fun e h34 => ?_) (fun e h34 => ?_)
              ·
               clear h32 h33
               subst e
               cases h34
              ·
               clear h32 h33
               subst e
               refine sr ?_
               refine vy (V.eq h34 rfl rfl) fun x110_20 h35 => ?_
               refine as_ ?_
               refine dn ?_
               refine CV.cond h35 rfl (fun e h36 => ?_) (fun e h36 => ?_)
               ·
                clear h34 h35
                subst e
                cases h36
               ·
                clear h34 h35
                subst e
                refine CV.region ?_
                refine mv ?_
                refine vy (V.ldA hS h36 rfl Spf.agg32) fun x10_21 h37 => ?_
                refine LV.call hS h37 (hI _ _ _ _ _) hP rfl rfl rfl rfl fun x11_22 T6 n6 h38 ρ its hS => ?_
                refine LV.done ?_
                refine PV.blockN ?_
                cases h38
                exact PV.ret (by simp) Tryz.results75 hS RS.nil rfl
noncomputable def g128_k1 (ih : FuncId → List HT → List AV → HT → Nat → R) (ro : List HT) (y0 y3 y5 : AV) (T4 : HT) (n4 : Nat) : R :=
 faK 1280018 y3 4 fun x38_12 =>
 ldK 1280019 T4 ro x38_12 fun x39_13 =>
 iaK 1280020 x39_13 (.lit (.int .i64 (.ofNat 1))) 1 fun x40_14 =>
 ldK 1280021 T4 ro x40_14 fun x41_15 =>
 callK (ih 46 ro [y0, x41_15, y5] T4 n4) fun x43_16 T5 n5 =>
 .ok (.val (.tup [])) T5 n5
noncomputable def g128 (ih : FuncId → List HT → List AV → HT → Nat → R) (ro : List HT) (a0 a1 : AV) (T : HT) (nx : Nat) : R :=
 boxK 1280001 T nx a1 32 fun x3_1 T1 n1 =>
 faK 1280002 x3_1 0 fun x7_2 =>
 ldK 1280003 T1 ro x7_2 fun x8_3 =>
 callK (g187 ro x8_3 T1 n1) fun x9_4 T2 n2 =>
 exK 1280006 x9_4 0 fun x10_5 =>
 exK 1280007 x9_4 1 fun x11_6 =>
 faK 1280011 x3_1 4 fun x13_7 =>
 ldK 1280012 T2 ro x13_7 fun x14_8 =>
 iaK 1280013 x14_8 (.lit (.int .i64 (.ofNat 0))) 1 fun x15_9 =>
 ldK 1280014 T2 ro x15_9 fun x16_10 =>
 callK (ih 46 ro [a0, x16_10, x10_5] T2 n2) fun x18_11 T3 n3 =>
 faK 1280024 x3_1 0 fun x19_17 =>
 ldK 1280025 T3 ro x19_17 fun x20_18 =>
 eqK Tryz.prog 3 (.tmp 20) (.const (.int .i64 (.ofNat 18))) 1280026 x20_18 (.lit (.int .i64 (.ofNat 18))) fun x28_19 =>
 condK 1280028 x28_19
 (
  bsK 1280030 T3 n3 1 9 1 [(0, (.lit (.string ⟨⟨[32, 97, 110, 100, 32]⟩⟩)))] fun x30_20 T6 n6 =>
  callK (g74 ro a0 x30_20 T6 n6) fun x31_21 T7 n7 =>
  g128_k1 ih ro a0 x3_1 x11_6 T7 n7
 )
 (
  eqK Tryz.prog 3 (.tmp 20) (.const (.int .i64 (.ofNat 19))) 1280032 x20_18 (.lit (.int .i64 (.ofNat 19))) fun x33_22 =>
  condK 1280034 x33_22
  (
   bsK 1280036 T3 n3 1 9 1 [(0, (.lit (.string ⟨⟨[32, 111, 114, 32]⟩⟩)))] fun x35_23 T8 n8 =>
   callK (g74 ro a0 x35_23 T8 n8) fun x36_24 T9 n9 =>
   g128_k1 ih ro a0 x3_1 x11_6 T9 n9
  )
  (
   faK 1280039 x3_1 0 fun x22_25 =>
   ldK 1280040 T3 ro x22_25 fun x23_26 =>
   callK (g188 ro x23_26 T3 n3) fun x24_27 T10 n10 =>
   bsK 1280042 T10 n10 1 9 1 [(0, x24_27)] fun x25_28 T11 n11 =>
   callK (g74 ro a0 x25_28 T11 n11) fun x26_29 T12 n12 =>
   g128_k1 ih ro a0 x3_1 x11_6 T12 n12
  )
 )
theorem g128_ok (ih : FuncId → List HT → List AV → HT → Nat → R) (hI : ∀ f ro args T nx, GOk Tryz.prog envE f args ro T nx (ih f ro args T nx)) (ro : List HT) (a0 a1 : AV) (T : HT) (nx : Nat) : GOk Tryz.prog envE 128 [a0, a1] ro T nx (g128 ih ro a0 a1 T nx) := by
 refine GOk.of_body Tryz.func128 rfl Tryz.ntmps128 (by kernel_rfl) rfl fun r T' n' h1 w0 base ρ0 its hS hP => ?_
 have X : CtxW envE ρ0 ro r T' n' := trivial
 unfold g128 at h1
 refine sr ?_
 refine LV.box hS h1 rfl rfl rfl rfl rfl fun x3_1 T1 n1 h2 ρ its hS hdr => ?_
 refine dn ?_
 refine sr ?_
 refine vy (V.fa h2 rfl Spf.fo32_0) fun x7_2 h3 => ?_
 refine vy (V.ld hS h3 rfl Spf.one3) fun x8_3 h4 => ?_
 refine LV.call hS h4 (g187_ok _ _ _ _ ) hP rfl rfl rfl rfl fun x9_4 T2 n2 h5 ρ its hS => ?_
 refine mv ?_
 refine vy (V.ex h5 rfl) fun x10_5 h6 => ?_
 refine vy (V.ex h6 rfl) fun x11_6 h7 => ?_
 refine as_ ?_
 refine as_ ?_
 refine dn ?_
 refine sr ?_
 refine mv ?_
 refine vy (V.fa h7 rfl Spf.fo32_4) fun x13_7 h8 => ?_
 refine vy (V.ld hS h8 rfl Spf.one30) fun x14_8 h9 => ?_
 refine vy (V.ia h9 rfl rfl Spf.el30) fun x15_9 h10 => ?_
 refine vy (V.ld hS h10 rfl Spf.one3) fun x16_10 h11 => ?_
 refine mv ?_
 refine LV.call hS h11 (hI _ _ _ _ _) hP rfl rfl rfl rfl fun x18_11 T3 n3 h12 ρ its hS => ?_
 refine dn ?_
 refine cs3 X 0 3 5 [] (g128_k1 ih ro) ?_ ?_
 ·
  refine sr ?_
  refine vy (V.fa h12 rfl Spf.fo32_0) fun x19_17 h19 => ?_
  refine vy (V.ld hS h19 rfl Spf.one3) fun x20_18 h20 => ?_
  refine dn ?_
  refine CV.block ?_
  refine sr ?_
  refine vy (V.eq h20 rfl rfl) fun x28_19 h21 => ?_
  refine as_ ?_
  refine dn ?_
  refine CV.cond h21 rfl (fun e h22 => ?_) (fun e h22 => ?_)
  ·
   clear h1 h2 h3 h4 h5 h6 h7 h8 h9 h10 h11 h12 h19 h20 h21
   subst e
   refine CV.region ?_
   refine mv ?_
   refine LV.bslice hS h22 rfl rfl Spf.el46 rfl rfl rfl rfl fun x30_20 T6 n6 h23 ρ its hS hdr => ?_
   refine LV.call hS h23 (g74_ok _ _ _ _ _ ) hP rfl rfl rfl rfl fun x31_21 T7 n7 h24 ρ its hS => ?_
   refine LV.done ?_
   refine PV.blockN ?_
   exact pa3 hS h24 ⟨rfl, rfl, rfl, trivial⟩
  ·
   clear h1 h2 h3 h4 h5 h6 h7 h8 h9 h10 h11 h12 h19 h20 h21
   subst e
   refine sr ?_
   refine vy (V.eq h22 rfl rfl) fun x33_22 h25 => ?_
   refine as_ ?_
   refine dn ?_
   refine CV.cond h25 rfl (fun e h26 => ?_) (fun e h26 => ?_)
   ·
    clear h22 h25
    subst e
    refine CV.region ?_
    refine mv ?_
    refine LV.bslice hS h26 rfl rfl Spf.el46 rfl rfl rfl rfl fun x35_23 T8 n8 h27 ρ its hS hdr => ?_
    refine LV.call hS h27 (g74_ok _ _ _ _ _ ) hP rfl rfl rfl rfl fun x36_24 T9 n9 h28 ρ its hS => ?_
    refine LV.done ?_
    refine PV.blockN ?_
    exact pa3 hS h28 ⟨rfl, rfl, rfl, trivial⟩
   ·
    clear h22 h25
    subst e
    refine CV.region ?_
    refine mv ?_
    refine vy (V.fa h26 rfl Spf.fo32_0) fun x22_25 h29 => ?_
    refine vy (V.ld hS h29 rfl Spf.one3) fun x23_26 h30 => ?_
    refine LV.call hS h30 (g188_ok _ _ _ _ ) hP rfl rfl rfl rfl fun x24_27 T10 n10 h31 ρ its hS => ?_
    refine LV.bslice hS h31 rfl rfl Spf.el46 rfl rfl rfl rfl fun x25_28 T11 n11 h32 ρ its hS hdr => ?_
    refine LV.call hS h32 (g74_ok _ _ _ _ _ ) hP rfl rfl rfl rfl fun x26_29 T12 n12 h33 ρ its hS => ?_
    refine LV.done ?_
    refine PV.blockN ?_
    exact pa3 hS h33 ⟨rfl, rfl, rfl, trivial⟩
 ·
  intro y0 y3 y5 T4 n4 ρ its hS h13
  unfold g128_k1 at h13
  clear h1 h2 h3 h4 h5 h6 h7 h8 h9 h10 h11 h12
  refine CV.region ?_
  refine mv ?_
  refine vy (V.fa h13 rfl Spf.fo32_4) fun x38_12 h14 => ?_
  refine vy (V.ld hS h14 rfl Spf.one30) fun x39_13 h15 => ?_
  refine vy (V.ia h15 rfl rfl Spf.el30) fun x40_14 h16 => ?_
  refine vy (V.ld hS h16 rfl Spf.one3) fun x41_15 h17 => ?_
  refine mv ?_
  refine LV.call hS h17 (hI _ _ _ _ _) hP rfl rfl rfl rfl fun x43_16 T5 n5 h18 ρ its hS => ?_
  refine LV.done ?_
  cases h18
  exact PV.ret (by simp) Tryz.results128 hS RS.nil rfl
noncomputable def ap3 (ih : FuncId → List HT → List AV → HT → Nat → R) (f : FuncId) (ro : List HT) (args : List AV) (T : HT) (nx : Nat) : R :=
  Bool.rec (motive := fun _ => R) (Bool.rec (motive := fun _ => R) (Bool.rec (motive := fun _ => R) (.bad 2) (List.rec (motive := fun _ => R) (.bad 1) (fun a0 l0 _ => List.rec (motive := fun _ => R) (.bad 1) (fun a1 l1 _ => List.rec (motive := fun _ => R) (g128 ih ro a0 a1 T nx) (fun _ _ _ => .bad 1) l1) l0) args) (Nat.beq f 128)) (Bool.rec (motive := fun _ => R) (.bad 2) (List.rec (motive := fun _ => R) (.bad 1) (fun a0 l0 _ => List.rec (motive := fun _ => R) (.bad 1) (fun a1 l1 _ => List.rec (motive := fun _ => R) (g75 ih ro a0 a1 T nx) (fun _ _ _ => .bad 1) l1) l0) args) (Nat.beq f 75)) (Nat.ble f 75)) (Bool.rec (motive := fun _ => R) (.bad 2) (List.rec (motive := fun _ => R) (.bad 1) (fun a0 l0 _ => List.rec (motive := fun _ => R) (.bad 1) (fun a1 l1 _ => List.rec (motive := fun _ => R) (.bad 1) (fun a2 l2 _ => List.rec (motive := fun _ => R) (g46 ih ro a0 a1 a2 T nx) (fun _ _ _ => .bad 1) l2) l1) l0) args) (Nat.beq f 46)) (Nat.ble f 46)
noncomputable def scc3 (fuel : Nat) : FuncId → List HT → List AV → HT → Nat → R :=
  Nat.rec (motive := fun _ => FuncId → List HT → List AV → HT → Nat → R) (fun _ _ _ _ _ => .bad 3) (fun _ ih => ap3 ih) fuel
theorem ap3_ok (ih : FuncId → List HT → List AV → HT → Nat → R) (hI : ∀ f ro args T nx, GOk Tryz.prog envE f args ro T nx (ih f ro args T nx)) (f : FuncId) (ro : List HT) (args : List AV) (T : HT) (nx : Nat) : GOk Tryz.prog envE f args ro T nx (ap3 ih f ro args T nx) := by
  unfold ap3
  refine recb_go (fun hb => ?_) (fun _ => ?_)
  · refine recb_go (fun hb => ?_) (fun _ => ?_)
    · obtain rfl := beqT hb
      rcases args with _ | ⟨a0, l0⟩
      · exact GOk.bad
      rcases l0 with _ | ⟨a1, l1⟩
      · exact GOk.bad
      rcases l1 with _ | ⟨a2, l2⟩
      · exact GOk.bad
      rcases l2 with _ | ⟨_, _⟩
      · exact g46_ok _ hI _ _ _ _ _ _ 
      · exact GOk.bad
    · exact GOk.bad
  · refine recb_go (fun hb => ?_) (fun _ => ?_)
    · refine recb_go (fun hb => ?_) (fun _ => ?_)
      · obtain rfl := beqT hb
        rcases args with _ | ⟨a0, l0⟩
        · exact GOk.bad
        rcases l0 with _ | ⟨a1, l1⟩
        · exact GOk.bad
        rcases l1 with _ | ⟨_, _⟩
        · exact g75_ok _ hI _ _ _ _ _ 
        · exact GOk.bad
      · exact GOk.bad
    · refine recb_go (fun hb => ?_) (fun _ => ?_)
      · obtain rfl := beqT hb
        rcases args with _ | ⟨a0, l0⟩
        · exact GOk.bad
        rcases l0 with _ | ⟨a1, l1⟩
        · exact GOk.bad
        rcases l1 with _ | ⟨_, _⟩
        · exact g128_ok _ hI _ _ _ _ _ 
        · exact GOk.bad
      · exact GOk.bad
theorem scc3_ok : ∀ (fuel : Nat) (f : FuncId) (ro : List HT) (args : List AV) (T : HT) (nx : Nat), GOk Tryz.prog envE f args ro T nx (scc3 fuel f ro args T nx)
  | 0, _, _, _, _, _ => GOk.bad
  | fuel + 1, f, ro, args, T, nx => ap3_ok (scc3 fuel) (scc3_ok fuel) f ro args T nx
noncomputable def g76 (ro : List HT) (a0 : AV) (T : HT) (nx : Nat) : R :=
 ncK 760003 a0 fun x4_1 =>
 faK 760004 x4_1 1 fun x5_2 =>
 ldK 760005 T ro x5_2 fun x6_3 =>
 usdK 760006 T ro x6_3 fun x7_4 =>
 ncK 760008 a0 fun x9_5 =>
 faK 760009 x9_5 1 fun x10_6 =>
 ldK 760010 T ro x10_6 fun x11_7 =>
 lenSK 760011 x11_7 fun x12_8 =>
 ustK 760012 T 5 x7_4 x12_8 fun x13_9 T1 =>
 .ok (.val x13_9) T1 nx
theorem g76_ok (ro : List HT) (a0 : AV) (T : HT) (nx : Nat) : GOk Tryz.prog envE 76 [a0] ro T nx (g76 ro a0 T nx) := by
 refine GOk.of_body Tryz.func76 rfl Tryz.ntmps76 (by kernel_rfl) rfl fun r T' n' h1 w0 base ρ0 its hS hP => ?_
 have X : CtxW envE ρ0 ro r T' n' := trivial
 unfold g76 at h1
 refine sr ?_
 refine as_ ?_
 refine dn ?_
 refine CV.seq ?_
 refine CV.regionM [(0, .anywhere), (1, .anywhere), (2, .anywhere), (3, .held), (4, .held), (5, .anywhere), (6, .anywhere), (7, .anywhere), (8, .held), (9, .held), (10, .alone), (11, .alone)] rfl (fun c a a' w hd hq => PanicOk.root (P := Tryz.prog) (fn := Tryz.f76) (w0 := w0) (base := base) (E := envE) (ro := ro) (r := r) (T' := T') (n' := n') (ρ0 := ρ0) c a a' w hd hq) (by kernel_rfl) ?_
 refine MV.step0 (i := 0) rfl (VAL.move rfl) rfl rfl rfl ?_
 refine MV.lift0 (i := 1) rfl (V.nc h1 rfl) rfl rfl rfl fun x4_1 h2 => ?_
 refine MV.lift0 (i := 2) rfl (V.fa h2 rfl Spf.fo90_1) rfl rfl rfl fun x5_2 h3 => ?_
 refine MV.lift1 (i := 3) rfl (fun _ z => z) (V.ld hS h3 rfl Spf.one88) rfl rfl rfl [] (by kernel_rfl) fun x6_3 h4 => ?_
 refine MV.lift1 (i := 4) rfl (fun _ z => z) (V.usd hS h4 rfl) rfl rfl rfl [] (by kernel_rfl) fun x7_4 h5 => ?_
 refine MV.step0 (i := 5) rfl (VAL.move rfl) rfl rfl rfl ?_
 refine MV.lift0 (i := 6) rfl (V.nc h5 rfl) rfl rfl rfl fun x9_5 h6 => ?_
 refine MV.lift0 (i := 7) rfl (V.fa h6 rfl Spf.fo90_1) rfl rfl rfl fun x10_6 h7 => ?_
 refine MV.lift1 (i := 8) rfl (fun _ z => z) (V.ld hS h7 rfl Spf.one88) rfl rfl rfl [4] (by kernel_rfl) fun x11_7 h8 => ?_
 refine MV.lift1 (i := 9) rfl (fun _ z => z) (V.lenS h8 rfl Spf.ls88) rfl rfl rfl [4] (by kernel_rfl) fun x12_8 h9 => ?_
 refine MV.force (i := 10) rfl ?_
 refine LV.ust hS h9 rfl rfl rfl rfl Spf.pt186 Spf.co5 rfl rfl rfl fun x13_9 T1 its h10 hS => ?_
 refine LV.nextM [] (by kernel_rfl) (fun z => absurd rfl z) ?_
 refine MV.force (i := 11) rfl ?_
 refine as_ ?_
 refine LV.nextM [] (by kernel_rfl) (fun z => absurd rfl z) ?_
 refine mdn ?_
 refine CV.ret ?_
 cases h10
 exact PV.ret (by simp) Tryz.results76 hS (RS.tmp rfl RS.nil) rfl
noncomputable def g47 (ro : List HT) (a0 : AV) (T : HT) (nx : Nat) : R :=
 fldK 470004 T ro a0 3 fun x7_1 =>
 condK 470005 x7_1
 (
  .bad 470006
 )
 (
  faK 470008 a0 1 fun x11_2 =>
  callK (g76 ro x11_2 T nx) fun x12_3 T1 n1 =>
  .ok (.val (.tup [x12_3, (.lit (.nilIface))])) T1 n1
 )
theorem g47_ok (ro : List HT) (a0 : AV) (T : HT) (nx : Nat) : GOk Tryz.prog envE 47 [a0] ro T nx (g47 ro a0 T nx) := by
 refine GOk.of_body Tryz.func47 rfl Tryz.ntmps47 (by kernel_rfl) rfl fun r T' n' h1 w0 base ρ0 its hS hP => ?_
 have X : CtxW envE ρ0 ro r T' n' := trivial
 unfold g47 at h1
 refine sr ?_
 refine as_ ?_
 refine as_ ?_
 refine dn ?_
 refine CV.seq ?_
 refine sr ?_
 refine mv ?_
 refine fl hS h1 Spf.fo92_2 Spf.one4 fun x7_1 h2 => ?_
 refine dn ?_
 refine CV.cond h2 rfl (fun e h3 => ?_) (fun e h3 => ?_)
 ·
  clear h1 h2
  subst e
  cases h3
 ·
  clear h1 h2
  subst e
  refine CV.skip ?_
  refine PV.thenN ?_
  refine sr ?_
  refine mv ?_
  refine fa2 h3 Spf.fo92_1 fun x11_2 h4 => ?_
  refine LV.call hS h4 (g76_ok _ _ _ _ ) hP rfl rfl rfl rfl fun x12_3 T1 n1 h5 ρ its hS => ?_
  refine as_ ?_
  refine as_ ?_
  refine dn ?_
  refine CV.ret ?_
  cases h5
  exact PV.ret (by simp) Tryz.results47 hS (RS.tmp rfl (RS.tmp rfl RS.nil)) rfl
noncomputable def g19 (ro : List HT) (a0 : AV) (T : HT) (nx : Nat) : R :=
 lenSK 190004 a0 fun x8_1 =>
 addK Tryz.prog 3 (.tmp 8) (.const (.int .i64 (.ofNat 2))) 190005 x8_1 (.lit (.int .i64 (.ofNat 2))) fun x9_2 =>
 mk0K 190006 T nx 32 5 64 x9_2 fun x10_3 T1 n1 =>
 shrK 190009 T1 x10_3 fun T2 =>
 appK 190008 T2 ro n1 32 5 64 x10_3 a0 fun x12_4 T3 n3 =>
 lenSK 190011 a0 fun x14_5 =>
 subK Tryz.prog 3 (.tmp 14) (.const (.int .i64 (.ofNat 1))) 190012 x14_5 (.lit (.int .i64 (.ofNat 1))) fun x15_6 =>
 bsK 190013 T3 n3 1 3 1 [(0, x15_6)] fun x16_7 T4 n4 =>
 optK 190014 (bld32 [(0, (.lit (.int .i64 (.ofNat 35)))), (4, x16_7)]) fun x17_8 =>
 lenSK 190016 a0 fun x19_9 =>
 bsK 190017 T4 n4 1 3 1 [(0, x19_9)] fun x20_10 T5 n5 =>
 optK 190018 (bld32 [(0, (.lit (.int .i64 (.ofNat 47)))), (4, x20_10)]) fun x21_11 =>
 bsK 190019 T5 n5 2 32 5 [(0, x17_8), (1, x21_11)] fun x22_12 T6 n6 =>
 shrK 190021 T6 x12_4 fun T7 =>
 appK 190020 T7 ro n6 32 5 64 x12_4 x22_12 fun x23_13 T8 n8 =>
 callK (g12 ro x23_13 T8 n8) fun x25_14 T9 n9 =>
 bin0 Tryz.prog .neq 25 (.tmp 26) (.const (.nilIface)) 190027 x25_14 (.lit (.nilIface)) fun x27_15 =>
 condK 190028 x27_15
 (
  .bad 190029
 )
 (
  optK 190031 (bld92 [(0, a0)]) fun x30_16 =>
  boxK 190032 T9 n9 x30_16 92 fun x31_17 T10 n10 =>
  lenSK 190036 a0 fun x34_18 =>
  subK Tryz.prog 3 (.tmp 34) (.const (.int .i64 (.ofNat 1))) 190037 x34_18 (.lit (.int .i64 (.ofNat 1))) fun x35_19 =>
  callK (scc3 4000 46 ro [x31_17, x35_19, (.lit (.int .i64 (.ofNat 1)))] T10 n10) fun x36_20 T11 n11 =>
  callK (g47 ro x31_17 T11 n11) fun x38_21 T12 n12 =>
  exK 190041 x38_21 0 fun x39_22 =>
  exK 190042 x38_21 1 fun x40_23 =>
  .ok (.val (.tup [x39_22, x40_23])) T12 n12
 )
theorem g19_ok (ro : List HT) (a0 : AV) (T : HT) (nx : Nat) : GOk Tryz.prog envE 19 [a0] ro T nx (g19 ro a0 T nx) := by
 refine GOk.of_body Tryz.func19 rfl Tryz.ntmps19 (by kernel_rfl) rfl fun r T' n' h1 w0 base ρ0 its hS hP => ?_
 have X : CtxW envE ρ0 ro r T' n' := trivial
 unfold g19 at h1
 refine sr ?_
 refine as_ ?_
 refine as_ ?_
 refine dn ?_
 refine sr ?_
 refine mv ?_
 refine vy (V.lenS h1 rfl Spf.ls23) fun x8_1 h2 => ?_
 refine vy (V.add h2 rfl rfl) fun x9_2 h3 => ?_
 refine LV.mk0 hS h3 rfl rfl rfl Spf.el23 rfl rfl rfl fun x10_3 T1 n1 h4 ρ its hS hdr => ?_
 refine mv ?_
 obtain ⟨T2, its1, h5, hS, hW⟩ := shrK_inv hS h4
 refine LV.world hW ?_
 refine LV.app hS h5 rfl rfl rfl rfl Spf.el23 rfl rfl rfl fun x12_4 T3 n3 h6 ρ its hS => ?_
 refine mv ?_
 refine vy (V.lenS h6 rfl Spf.ls23) fun x14_5 h7 => ?_
 refine vy (V.sub h7 rfl rfl) fun x15_6 h8 => ?_
 refine LV.bslice hS h8 rfl rfl Spf.el30 rfl rfl rfl rfl fun x16_7 T4 n4 h9 ρ its hS hdr => ?_
 refine vy (V.bld h9 rfl) fun x17_8 h10 => ?_
 refine mv ?_
 refine vy (V.lenS h10 rfl Spf.ls23) fun x19_9 h11 => ?_
 refine LV.bslice hS h11 rfl rfl Spf.el30 rfl rfl rfl rfl fun x20_10 T5 n5 h12 ρ its hS hdr => ?_
 refine vy (V.bld h12 rfl) fun x21_11 h13 => ?_
 refine LV.bslice hS h13 rfl rfl Spf.el23 rfl rfl rfl rfl fun x22_12 T6 n6 h14 ρ its hS hdr => ?_
 obtain ⟨T7, its1, h15, hS, hW⟩ := shrK_inv hS h14
 refine LV.world hW ?_
 refine LV.app hS h15 rfl rfl rfl rfl Spf.el23 rfl rfl rfl fun x23_13 T8 n8 h16 ρ its hS => ?_
 refine as_ ?_
 refine dn ?_
 refine CV.seq ?_
 refine sr ?_
 refine mv ?_
 refine LV.call hS h16 (g12_ok _ _ _ _ ) hP rfl rfl rfl rfl fun x25_14 T9 n9 h17 ρ its hS => ?_
 refine as_ ?_
 refine dn ?_
 refine sr ?_
 refine mv ?_
 refine vy (V.bin0 h17 rfl rfl) fun x27_15 h18 => ?_
 refine dn ?_
 refine CV.cond h18 rfl (fun e h19 => ?_) (fun e h19 => ?_)
 ·
  clear h1 h2 h3 h4 h5 h6 h7 h8 h9 h10 h11 h12 h13 h14 h15 h16 h17 h18
  subst e
  cases h19
 ·
  clear h1 h2 h3 h4 h5 h6 h7 h8 h9 h10 h11 h12 h13 h14 h15 h16 h17 h18
  subst e
  refine CV.skip ?_
  refine PV.thenN ?_
  refine sr ?_
  refine mv ?_
  refine vy (V.bld h19 rfl) fun x30_16 h20 => ?_
  refine LV.box hS h20 rfl rfl rfl rfl rfl fun x31_17 T10 n10 h21 ρ its hS hdr => ?_
  refine as_ ?_
  refine dn ?_
  refine sr ?_
  refine mv ?_
  refine mv ?_
  refine vy (V.lenS h21 rfl Spf.ls23) fun x34_18 h22 => ?_
  refine vy (V.sub h22 rfl rfl) fun x35_19 h23 => ?_
  refine LV.call hS h23 (scc3_ok _ _ _ _ _ _) hP rfl rfl rfl rfl fun x36_20 T11 n11 h24 ρ its hS => ?_
  refine dn ?_
  refine sr ?_
  refine mv ?_
  refine LV.call hS h24 (g47_ok _ _ _ _ ) hP rfl rfl rfl rfl fun x38_21 T12 n12 h25 ρ its hS => ?_
  refine vy (V.ex h25 rfl) fun x39_22 h26 => ?_
  refine vy (V.ex h26 rfl) fun x40_23 h27 => ?_
  refine as_ ?_
  refine as_ ?_
  refine dn ?_
  refine CV.ret ?_
  cases h27
  exact PV.ret (by simp) Tryz.results19 hS (RS.tmp rfl (RS.tmp rfl RS.nil)) rfl
noncomputable def g98 (ro : List HT) (a0 a1 a2 a3 : AV) (T : HT) (nx : Nat) : R :=
 fldK 980003 T ro a0 2 fun x12_1 =>
 optK 980007 (bld139 [(0, a1), (1, a2), (2, a3)]) fun x16_2 =>
 bsK 980008 T nx 1 139 3 [(0, x16_2)] fun x17_3 T1 n1 =>
 shrK 980010 T1 x12_1 fun T2 =>
 appK 980009 T2 ro n1 139 3 32 x12_1 x17_3 fun x18_4 T3 n3 =>
 faK 980011 a0 2 fun x20_5 =>
 stK 980012 T3 x20_5 x18_4 fun T4 =>
 .ok (.val (.tup [])) T4 n3
theorem g98_ok (ro : List HT) (a0 a1 a2 a3 : AV) (T : HT) (nx : Nat) : GOk Tryz.prog envE 98 [a0, a1, a2, a3] ro T nx (g98 ro a0 a1 a2 a3 T nx) := by
 refine GOk.of_body Tryz.func98 rfl Tryz.ntmps98 (by kernel_rfl) rfl fun r T' n' h1 w0 base ρ0 its hS hP => ?_
 have X : CtxW envE ρ0 ro r T' n' := trivial
 unfold g98 at h1
 refine CV.region ?_
 refine mv ?_
 refine mv ?_
 refine fl hS h1 Spf.fo168_2 Spf.one96 fun x12_1 h2 => ?_
 refine mv ?_
 refine mv ?_
 refine mv ?_
 refine vy (V.bld h2 rfl) fun x16_2 h3 => ?_
 refine LV.bslice hS h3 rfl rfl Spf.el96 rfl rfl rfl rfl fun x17_3 T1 n1 h4 ρ its hS hdr => ?_
 obtain ⟨T2, its1, h5, hS, hW⟩ := shrK_inv hS h4
 refine LV.world hW ?_
 refine LV.app hS h5 rfl rfl rfl rfl Spf.el96 rfl rfl rfl fun x18_4 T3 n3 h6 ρ its hS => ?_
 refine fa2 h6 Spf.fo168_2 fun x20_5 h7 => ?_
 refine LV.st hS h7 rfl rfl rfl Spf.siz96 rfl rfl fun T4 its h8 hS => ?_
 refine LV.done ?_
 cases h8
 exact PV.ret (by simp) Tryz.results98 hS RS.nil rfl
noncomputable def g207_k1 (ro : List HT) (y17 : AV) (T1 : HT) (n1 : Nat) : R :=
 .ok (.val y17) T1 n1
noncomputable def g207 (ro : List HT) (a0 a1 : AV) (T : HT) (nx : Nat) : R :=
 lenTK 2070003 a0 fun x6_1 =>
 lenTK 2070005 a1 fun x8_2 =>
 geK Tryz.prog 3 (.tmp 6) (.tmp 8) 2070006 x6_1 x8_2 fun x9_3 =>
 condK 2070009 x9_3
 (
  lenTK 2070012 a1 fun x13_4 =>
  sliceF 2070013 a0 none (some x13_4) fun x14_5 =>
  eqSK Tryz.prog 9 (.tmp 14) (.tmp 15) 2070015 x14_5 a1 fun x16_6 =>
  g207_k1 ro x16_6 T nx
 )
 (
  g207_k1 ro (.lit (.bool false)) T nx
 )
theorem g207_ok (ro : List HT) (a0 a1 : AV) (T : HT) (nx : Nat) : GOk Tryz.prog envE 207 [a0, a1] ro T nx (g207 ro a0 a1 T nx) := by
 refine GOk.of_body Tryz.func207 rfl Tryz.ntmps207 (by kernel_rfl) rfl fun r T' n' h1 w0 base ρ0 its hS hP => ?_
 have X : CtxW envE ρ0 ro r T' n' := trivial
 unfold g207 at h1
 refine sr ?_
 refine as_ ?_
 refine dn ?_
 refine sr ?_
 refine mv ?_
 refine vy (V.lenT h1 rfl Spf.ls9) fun x6_1 h2 => ?_
 refine mv ?_
 refine vy (V.lenT h2 rfl Spf.ls9) fun x8_2 h3 => ?_
 refine vy (V.ge h3 rfl rfl) fun x9_3 h4 => ?_
 refine mv ?_
 refine ls1 X 17 [(4, (.lit (.bool false)))] (g207_k1 ro) 7 ?_ ?_
 ·
  rcases condK_inv h4 with ⟨e, h6⟩ | ⟨e, h6⟩
  ·
   clear h1 h2 h3 h4
   subst e
   refine mv ?_
   refine mv ?_
   refine vy (V.lenT h6 rfl Spf.ls9) fun x13_4 h7 => ?_
   refine vy (V.slHi (sliceF_ok h7) rfl rfl Spf.st9) fun x14_5 h8 => ?_
   refine mv ?_
   refine vy (V.eqS h8 rfl rfl) fun x16_6 h9 => ?_
   refine pu ?_
   exact la1 hS h9 ⟨rfl, rfl, trivial⟩
  ·
   clear h1 h2 h3 h4
   subst e
   refine sk ?_
   refine sk ?_
   refine sk ?_
   refine sk ?_
   refine sk ?_
   refine sk ?_
   refine pu ?_
   exact la1 hS h6 ⟨rfl, rfl, trivial⟩
 ·
  intro y17 T1 n1 ρ its hS h5
  unfold g207_k1 at h5
  clear h1 h2 h3 h4
  refine as_ ?_
  refine dn ?_
  refine CV.ret ?_
  cases h5
  exact PV.ret (by simp) Tryz.results207 hS (RS.tmp rfl RS.nil) rfl
noncomputable def g164 (ro : List HT) (a0 a1 : AV) (T : HT) (nx : Nat) : R :=
 callK (g207 ro a0 a1 T nx) fun x7_1 T1 n1 =>
 .ok (.val x7_1) T1 n1
theorem g164_ok (ro : List HT) (a0 a1 : AV) (T : HT) (nx : Nat) : GOk Tryz.prog envE 164 [a0, a1] ro T nx (g164 ro a0 a1 T nx) := by
 refine GOk.of_body Tryz.func164 rfl Tryz.ntmps164 (by kernel_rfl) rfl fun r T' n' h1 w0 base ρ0 its hS hP => ?_
 have X : CtxW envE ρ0 ro r T' n' := trivial
 unfold g164 at h1
 refine sr ?_
 refine as_ ?_
 refine dn ?_
 refine sr ?_
 refine mv ?_
 refine mv ?_
 refine LV.call hS h1 (g207_ok _ _ _ _ _ ) hP rfl rfl rfl rfl fun x7_1 T1 n1 h2 ρ its hS => ?_
 refine as_ ?_
 refine dn ?_
 refine CV.ret ?_
 cases h2
 exact PV.ret (by simp) Tryz.results164 hS (RS.tmp rfl RS.nil) rfl
noncomputable def g228 (ro : List HT) (T : HT) (nx : Nat) : R :=
 bsK 2280002 T nx 22 9 1 [(0, (.lit (.string ⟨⟨[61, 61]⟩⟩))), (1, (.lit (.string ⟨⟨[33, 61]⟩⟩))), (2, (.lit (.string ⟨⟨[60, 61]⟩⟩))), (3, (.lit (.string ⟨⟨[62, 61]⟩⟩))), (4, (.lit (.string ⟨⟨[43, 61]⟩⟩))), (5, (.lit (.string ⟨⟨[47, 47]⟩⟩))), (6, (.lit (.string ⟨⟨[60]⟩⟩))), (7, (.lit (.string ⟨⟨[62]⟩⟩))), (8, (.lit (.string ⟨⟨[61]⟩⟩))), (9, (.lit (.string ⟨⟨[43]⟩⟩))), (10, (.lit (.string ⟨⟨[45]⟩⟩))), (11, (.lit (.string ⟨⟨[42]⟩⟩))), (12, (.lit (.string ⟨⟨[37]⟩⟩))), (13, (.lit (.string ⟨⟨[40]⟩⟩))), (14, (.lit (.string ⟨⟨[41]⟩⟩))), (15, (.lit (.string ⟨⟨[91]⟩⟩))), (16, (.lit (.string ⟨⟨[93]⟩⟩))), (17, (.lit (.string ⟨⟨[123]⟩⟩))), (18, (.lit (.string ⟨⟨[125]⟩⟩))), (19, (.lit (.string ⟨⟨[44]⟩⟩))), (20, (.lit (.string ⟨⟨[58]⟩⟩))), (21, (.lit (.string ⟨⟨[46]⟩⟩)))] fun x1_1 T1 n1 =>
 .ok (.val x1_1) T1 n1
theorem g228_ok (ro : List HT) (T : HT) (nx : Nat) : GOk Tryz.prog envE 228 [] ro T nx (g228 ro T nx) := by
 refine GOk.of_body Tryz.func228 rfl Tryz.ntmps228 (by kernel_rfl) rfl fun r T' n' h1 w0 base ρ0 its hS hP => ?_
 have X : CtxW envE ρ0 ro r T' n' := trivial
 unfold g228 at h1
 refine sr ?_
 refine as_ ?_
 refine dn ?_
 refine sr ?_
 refine LV.bslice hS h1 rfl rfl Spf.el46 rfl rfl rfl rfl fun x1_1 T1 n1 h2 ρ its hS hdr => ?_
 refine as_ ?_
 refine dn ?_
 refine CV.ret ?_
 cases h2
 exact PV.ret (by simp) Tryz.results228 hS (RS.tmp rfl RS.nil) rfl
noncomputable def g213_b1 (ro : List HT) (lp1 : AV → AV → AV → AV → AV → HT → Nat → R) (y0 y2 y5 y6 y7 : AV) (T2 : HT) (n2 : Nat) : R :=
 ltK Tryz.prog 3 (.tmp 7) (.tmp 6) 2130006 y7 y6 fun x8_3 =>
 condK 2130007 x8_3
 (
  iaK 2130008 y5 y7 1 fun x9_4 =>
  ldK 2130009 T2 ro x9_4 fun x10_5 =>
  ncK 2130012 y0 fun x12_6 =>
  faK 2130013 x12_6 0 fun x13_7 =>
  ldK 2130014 T2 ro x13_7 fun x14_8 =>
  ncK 2130016 y0 fun x16_9 =>
  faK 2130017 x16_9 1 fun x17_10 =>
  ldK 2130018 T2 ro x17_10 fun x18_11 =>
  sliceF 2130019 x14_8 (some x18_11) none fun x19_12 =>
  callK (g164 ro x19_12 x10_5 T2 n2) fun x21_13 T3 n3 =>
  condK 2130022 x21_13
  (
   .ok (.val x10_5) T3 n3
  )
  (
   addK Tryz.prog 3 (.tmp 7) (.const (.int .i64 (.ofNat 1))) 2130025 y7 (.lit (.int .i64 (.ofNat 1))) fun x23_14 =>
   lp1 y0 y2 y5 y6 x23_14 T3 n3
  )
 )
 (
  .ok (.val (.lit (.string ⟨⟨[]⟩⟩))) T2 n2
 )
noncomputable def g213 (ro : List HT) (a0 : AV) (T : HT) (nx : Nat) : R :=
 callK (g228 ro T nx) fun x5_1 T1 n1 =>
 lenSK 2130003 x5_1 fun x6_2 =>
 lpf5 2130005 (g213_b1 ro) 100000 a0 (.lit (.string ⟨⟨[]⟩⟩)) x5_1 x6_2 (.lit (.int .i64 (.ofNat 0))) T1 n1
theorem g213_ok (ro : List HT) (a0 : AV) (T : HT) (nx : Nat) : GOk Tryz.prog envE 213 [a0] ro T nx (g213 ro a0 T nx) := by
 refine GOk.of_body Tryz.func213 rfl Tryz.ntmps213 (by kernel_rfl) rfl fun r T' n' h1 w0 base ρ0 its hS hP => ?_
 have X : CtxW envE ρ0 ro r T' n' := trivial
 unfold g213 at h1
 refine sr ?_
 refine as_ ?_
 refine dn ?_
 refine CV.seq ?_
 refine sr ?_
 refine LV.call hS h1 (g228_ok _ _ _ ) hP rfl rfl rfl rfl fun x5_1 T1 n1 h2 ρ its hS => ?_
 refine vy (V.lenS h2 rfl Spf.ls46) fun x6_2 h3 => ?_
 refine mv ?_
 refine dn ?_
 refine CV.block ?_
 refine cl5 X 0 2 5 6 7 [] hS h3 ⟨rfl, rfl, rfl, rfl, rfl, trivial⟩ ?_
 intro f1 y0 y2 y5 y6 y7 T2 n2 ρ its hS h4
 unfold g213_b1 at h4
 clear h1 h2 h3
 refine sr ?_
 refine vy (V.lt h4 rfl rfl) fun x8_3 h5 => ?_
 refine dn ?_
 refine CV.seq ?_
 refine CV.cond h5 rfl (fun e h6 => ?_) (fun e h6 => ?_)
 ·
  clear h4 h5
  subst e
  refine CV.skip ?_
  refine PV.thenN ?_
  refine CV.seq ?_
  refine CV.block ?_
  refine sr ?_
  refine vy (V.ia h6 rfl rfl Spf.el46) fun x9_4 h7 => ?_
  refine vy (V.ld hS h7 rfl Spf.one9) fun x10_5 h8 => ?_
  refine as_ ?_
  refine dn ?_
  refine CV.seq ?_
  refine CV.regionM [(0, .anywhere), (1, .anywhere), (2, .anywhere), (3, .held), (4, .anywhere), (5, .anywhere), (6, .anywhere), (7, .held), (8, .held), (9, .anywhere), (10, .alone)] rfl (fun c a a' w hd hq => PanicOk.root (P := Tryz.prog) (fn := Tryz.f213) (w0 := w0) (base := base) (E := envE) (ro := ro) (r := r) (T' := T') (n' := n') (ρ0 := ρ0) c a a' w hd hq) (by kernel_rfl) ?_
  refine MV.step0 (i := 0) rfl (VAL.move rfl) rfl rfl rfl ?_
  refine MV.lift0 (i := 1) rfl (V.nc h8 rfl) rfl rfl rfl fun x12_6 h9 => ?_
  refine MV.lift0 (i := 2) rfl (V.fa h9 rfl Spf.fo168_0) rfl rfl rfl fun x13_7 h10 => ?_
  refine MV.lift1 (i := 3) rfl (fun _ z => z) (V.ld hS h10 rfl Spf.one9) rfl rfl rfl [] (by kernel_rfl) fun x14_8 h11 => ?_
  refine MV.step0 (i := 4) rfl (VAL.move rfl) rfl rfl rfl ?_
  refine MV.lift0 (i := 5) rfl (V.nc h11 rfl) rfl rfl rfl fun x16_9 h12 => ?_
  refine MV.lift0 (i := 6) rfl (V.fa h12 rfl Spf.fo168_1) rfl rfl rfl fun x17_10 h13 => ?_
  refine MV.lift1 (i := 7) rfl (fun _ z => z) (V.ld hS h13 rfl Spf.one3) rfl rfl rfl [3] (by kernel_rfl) fun x18_11 h14 => ?_
  refine MV.lift1 (i := 8) rfl (fun _ z => z) (V.slLo (sliceF_ok h14) rfl rfl Spf.st9) rfl rfl rfl [] (by kernel_rfl) fun x19_12 h15 => ?_
  refine MV.step0 (i := 9) rfl (VAL.move rfl) rfl rfl rfl ?_
  refine MV.force (i := 10) rfl ?_
  refine LV.call hS h15 (g164_ok _ _ _ _ _ ) hP rfl rfl rfl rfl fun x21_13 T3 n3 h16 ρ its hS => ?_
  refine LV.nextM [] (by kernel_rfl) (fun z => absurd rfl z) ?_
  refine mdn ?_
  refine CV.cond h16 rfl (fun e h17 => ?_) (fun e h17 => ?_)
  ·
   clear h6 h7 h8 h9 h10 h11 h12 h13 h14 h15 h16
   subst e
   refine sr ?_
   refine mv ?_
   refine as_ ?_
   refine dn ?_
   refine CV.ret ?_
   refine PV.blockR ?_
   refine PV.thenR ?_
   refine PV.thenR ?_
   refine PV.blockR ?_
   refine PV.thenR ?_
   cases h17
   exact PV.ret (by simp) Tryz.results213 hS (RS.tmp rfl RS.nil) rfl
  ·
   clear h6 h7 h8 h9 h10 h11 h12 h13 h14 h15 h16
   subst e
   refine CV.skip ?_
   refine PV.blockN ?_
   refine PV.thenN ?_
   refine CV.region ?_
   refine vy (V.add h17 rfl rfl) fun x23_14 h18 => ?_
   refine mv ?_
   refine LV.done ?_
   exact pb5 hS h18 ⟨rfl, rfl, rfl, rfl, rfl, trivial⟩
 ·
  clear h4 h5
  subst e
  refine CV.exit ?_
  refine PV.thenE ?_
  refine PV.thenE ?_
  refine PV.blockE ?_
  refine PV.thenN ?_
  refine sr ?_
  refine as_ ?_
  refine dn ?_
  refine CV.ret ?_
  cases h6
  exact PV.ret (by simp) Tryz.results213 hS (RS.tmp rfl RS.nil) rfl
noncomputable def g209_k3 (ro : List HT) (y0 y26 : AV) (T4 : HT) (n4 : Nat) : R :=
 condK 2090017 y26
 (
  .ok (.val (.lit (.bool true))) T4 n4
 )
 (
  callK (g213 ro y0 T4 n4) fun x28_9 T5 n5 =>
  neSK Tryz.prog 9 (.tmp 28) (.const (.string ⟨⟨[]⟩⟩)) 2090021 x28_9 (.lit (.string ⟨⟨[]⟩⟩)) fun x29_10 =>
  .ok (.val x29_10) T5 n5
 )
noncomputable def g209_k2 (ro : List HT) (y0 y3 y22 : AV) (T3 : HT) (n3 : Nat) : R :=
 condK 2090023 y22
 (
  g209_k3 ro y0 (.lit (.bool true)) T3 n3
 )
 (
  eqK Tryz.prog 5 (.tmp 24) (.const (.int .u8 (.ofNat 39))) 2090026 y3 (.lit (.int .u8 (.ofNat 39))) fun x25_11 =>
  g209_k3 ro y0 x25_11 T3 n3
 )
noncomputable def g209_k1 (ro : List HT) (y0 y3 y18 : AV) (T2 : HT) (n2 : Nat) : R :=
 condK 2090028 y18
 (
  g209_k2 ro y0 y3 (.lit (.bool true)) T2 n2
 )
 (
  eqK Tryz.prog 5 (.tmp 20) (.const (.int .u8 (.ofNat 34))) 2090031 y3 (.lit (.int .u8 (.ofNat 34))) fun x21_12 =>
  g209_k2 ro y0 y3 x21_12 T2 n2
 )
noncomputable def g209 (ro : List HT) (a0 : AV) (T : HT) (nx : Nat) : R :=
 ncK 2090003 a0 fun x5_1 =>
 faK 2090004 x5_1 0 fun x6_2 =>
 ldK 2090005 T ro x6_2 fun x7_3 =>
 ncK 2090007 a0 fun x9_4 =>
 faK 2090008 x9_4 1 fun x10_5 =>
 ldK 2090009 T ro x10_5 fun x11_6 =>
 ixK 2090010 x7_3 x11_6 fun x12_7 =>
 callK (g104 ro x12_7 T nx) fun x14_8 T1 n1 =>
 condK 2090033 x14_8
 (
  g209_k1 ro a0 x12_7 (.lit (.bool true)) T1 n1
 )
 (
  callK (g105 ro x12_7 T1 n1) fun x17_13 T6 n6 =>
  g209_k1 ro a0 x12_7 x17_13 T6 n6
 )
theorem g209_ok (ro : List HT) (a0 : AV) (T : HT) (nx : Nat) : GOk Tryz.prog envE 209 [a0] ro T nx (g209 ro a0 T nx) := by
 refine GOk.of_body Tryz.func209 rfl Tryz.ntmps209 (by kernel_rfl) rfl fun r T' n' h1 w0 base ρ0 its hS hP => ?_
 have X : CtxW envE ρ0 ro r T' n' := trivial
 unfold g209 at h1
 refine sr ?_
 refine as_ ?_
 refine dn ?_
 refine CV.seq ?_
 refine CV.regionM [(0, .anywhere), (1, .anywhere), (2, .anywhere), (3, .held), (4, .anywhere), (5, .anywhere), (6, .anywhere), (7, .held), (8, .held), (9, .held)] rfl (fun c a a' w hd hq => PanicOk.root (P := Tryz.prog) (fn := Tryz.f209) (w0 := w0) (base := base) (E := envE) (ro := ro) (r := r) (T' := T') (n' := n') (ρ0 := ρ0) c a a' w hd hq) (by kernel_rfl) ?_
 refine MV.step0 (i := 0) rfl (VAL.move rfl) rfl rfl rfl ?_
 refine MV.lift0 (i := 1) rfl (V.nc h1 rfl) rfl rfl rfl fun x5_1 h2 => ?_
 refine MV.lift0 (i := 2) rfl (V.fa h2 rfl Spf.fo168_0) rfl rfl rfl fun x6_2 h3 => ?_
 refine MV.lift1 (i := 3) rfl (fun _ z => z) (V.ld hS h3 rfl Spf.one9) rfl rfl rfl [] (by kernel_rfl) fun x7_3 h4 => ?_
 refine MV.step0 (i := 4) rfl (VAL.move rfl) rfl rfl rfl ?_
 refine MV.lift0 (i := 5) rfl (V.nc h4 rfl) rfl rfl rfl fun x9_4 h5 => ?_
 refine MV.lift0 (i := 6) rfl (V.fa h5 rfl Spf.fo168_1) rfl rfl rfl fun x10_5 h6 => ?_
 refine MV.lift1 (i := 7) rfl (fun _ z => z) (V.ld hS h6 rfl Spf.one3) rfl rfl rfl [3] (by kernel_rfl) fun x11_6 h7 => ?_
 refine MV.lift1 (i := 8) rfl (fun _ z => z) (V.ix h7 rfl rfl Spf.st9) rfl rfl rfl [] (by kernel_rfl) fun x12_7 h8 => ?_
 refine MV.step1 (i := 9) rfl (fun _ z => z) (VAL.assign rfl) rfl rfl rfl [] (by kernel_rfl) ?_
 refine mdn ?_
 refine CV.seq ?_
 refine sr ?_
 refine mv ?_
 refine LV.call hS h8 (g104_ok _ _ _ _ ) hP rfl rfl rfl rfl fun x14_8 T1 n1 h9 ρ its hS => ?_
 refine mv ?_
 refine ls3 X 0 3 18 [(2, (.lit (.bool false)))] (g209_k1 ro) 3 ?_ ?_
 ·
  rcases condK_inv h9 with ⟨e, h20⟩ | ⟨e, h20⟩
  ·
   clear h1 h2 h3 h4 h5 h6 h7 h8 h9
   subst e
   refine sk ?_
   refine sk ?_
   refine pu ?_
   exact la3 hS h20 ⟨rfl, rfl, rfl, rfl, trivial⟩
  ·
   clear h1 h2 h3 h4 h5 h6 h7 h8 h9
   subst e
   refine mv ?_
   refine LV.call hS h20 (g105_ok _ _ _ _ ) hP rfl rfl rfl rfl fun x17_13 T6 n6 h21 ρ its hS => ?_
   refine pu ?_
   exact la3 hS h21 ⟨rfl, rfl, rfl, rfl, trivial⟩
 ·
  intro y0 y3 y18 T2 n2 ρ its hS h10
  unfold g209_k1 at h10
  clear h1 h2 h3 h4 h5 h6 h7 h8 h9
  refine mv ?_
  refine ls3 X 0 3 22 [(2, (.lit (.bool false)))] (g209_k2 ro) 3 ?_ ?_
  ·
   rcases condK_inv h10 with ⟨e, h18⟩ | ⟨e, h18⟩
   ·
    clear h10
    subst e
    refine sk ?_
    refine sk ?_
    refine pu ?_
    exact la3 hS h18 ⟨rfl, rfl, rfl, rfl, trivial⟩
   ·
    clear h10
    subst e
    refine mv ?_
    refine vy (V.eq h18 rfl rfl) fun x21_12 h19 => ?_
    refine pu ?_
    exact la3 hS h19 ⟨rfl, rfl, rfl, rfl, trivial⟩
  ·
   intro y0 y3 y22 T3 n3 ρ its hS h11
   unfold g209_k2 at h11
   clear h10
   refine mv ?_
   refine ls2 X 0 26 [(2, (.lit (.bool false)))] (g209_k3 ro) 3 ?_ ?_
   ·
    rcases condK_inv h11 with ⟨e, h16⟩ | ⟨e, h16⟩
    ·
     clear h11
     subst e
     refine sk ?_
     refine sk ?_
     refine pu ?_
     exact la2 hS h16 ⟨rfl, rfl, rfl, trivial⟩
    ·
     clear h11
     subst e
     refine mv ?_
     refine vy (V.eq h16 rfl rfl) fun x25_11 h17 => ?_
     refine pu ?_
     exact la2 hS h17 ⟨rfl, rfl, rfl, trivial⟩
   ·
    intro y0 y26 T4 n4 ρ its hS h12
    unfold g209_k3 at h12
    clear h11
    refine dn ?_
    refine CV.cond h12 rfl (fun e h13 => ?_) (fun e h13 => ?_)
    ·
     clear h12
     subst e
     refine sr ?_
     refine as_ ?_
     refine dn ?_
     refine CV.ret ?_
     refine PV.thenR ?_
     cases h13
     exact PV.ret (by simp) Tryz.results209 hS (RS.tmp rfl RS.nil) rfl
    ·
     clear h12
     subst e
     refine CV.skip ?_
     refine PV.thenN ?_
     refine sr ?_
     refine mv ?_
     refine LV.call hS h13 (g213_ok _ _ _ _ ) hP rfl rfl rfl rfl fun x28_9 T5 n5 h14 ρ its hS => ?_
     refine vy (V.neS h14 rfl rfl) fun x29_10 h15 => ?_
     refine as_ ?_
     refine dn ?_
     refine CV.ret ?_
     cases h15
     exact PV.ret (by simp) Tryz.results209 hS (RS.tmp rfl RS.nil) rfl
noncomputable def g226_b1 (ro : List HT) (lp1 : AV → AV → AV → AV → HT → Nat → R) (y0 y1 y4 y5 : AV) (T1 : HT) (n1 : Nat) : R :=
 geK Tryz.prog 3 (.tmp 9) (.const (.int .i64 (.ofNat 0))) 2260008 y5 (.lit (.int .i64 (.ofNat 0))) fun x10_3 =>
 condK 2260009 x10_3
 (
  ixK 2260012 y0 y5 fun x15_4 =>
  eqK Tryz.prog 5 (.tmp 15) (.tmp 16) 2260014 x15_4 y1 fun x17_5 =>
  condK 2260015 x17_5
  (
   .ok (.val y5) T1 n1
  )
  (
   subK Tryz.prog 3 (.tmp 11) (.const (.int .i64 (.ofNat 1))) 2260019 y5 (.lit (.int .i64 (.ofNat 1))) fun x12_6 =>
   lp1 y0 y1 y4 x12_6 T1 n1
  )
 )
 (
  .ok (.val (.lit (.int .i64 (.negSucc 0)))) T1 n1
 )
noncomputable def g226 (ro : List HT) (a0 a1 : AV) (T : HT) (nx : Nat) : R :=
 lenTK 2260003 a0 fun x7_1 =>
 subK Tryz.prog 3 (.tmp 7) (.const (.int .i64 (.ofNat 1))) 2260004 x7_1 (.lit (.int .i64 (.ofNat 1))) fun x8_2 =>
 lpf4 2260006 (g226_b1 ro) 100000 a0 a1 (.lit (.int .i64 (.ofNat 0))) x8_2 T nx
theorem g226_ok (ro : List HT) (a0 a1 : AV) (T : HT) (nx : Nat) : GOk Tryz.prog envE 226 [a0, a1] ro T nx (g226 ro a0 a1 T nx) := by
 refine GOk.of_body Tryz.func226 rfl Tryz.ntmps226 (by kernel_rfl) rfl fun r T' n' h1 w0 base ρ0 its hS hP => ?_
 have X : CtxW envE ρ0 ro r T' n' := trivial
 unfold g226 at h1
 refine sr ?_
 refine as_ ?_
 refine dn ?_
 refine CV.seq ?_
 refine sr ?_
 refine mv ?_
 refine vy (V.lenT h1 rfl Spf.ls9) fun x7_1 h2 => ?_
 refine vy (V.sub h2 rfl rfl) fun x8_2 h3 => ?_
 refine as_ ?_
 refine dn ?_
 refine CV.block ?_
 refine cl4 X 0 1 4 5 [] hS h3 ⟨rfl, rfl, rfl, rfl, trivial⟩ ?_
 intro f1 y0 y1 y4 y5 T1 n1 ρ its hS h4
 unfold g226_b1 at h4
 clear h1 h2 h3
 refine CV.seq ?_
 refine sr ?_
 refine mv ?_
 refine vy (V.ge h4 rfl rfl) fun x10_3 h5 => ?_
 refine dn ?_
 refine CV.cond h5 rfl (fun e h6 => ?_) (fun e h6 => ?_)
 ·
  clear h4 h5
  subst e
  refine CV.skip ?_
  refine PV.thenN ?_
  refine CV.seq ?_
  refine CV.block ?_
  refine sr ?_
  refine mv ?_
  refine mv ?_
  refine vy (V.ix h6 rfl rfl Spf.st9) fun x15_4 h7 => ?_
  refine mv ?_
  refine vy (V.eq h7 rfl rfl) fun x17_5 h8 => ?_
  refine dn ?_
  refine CV.cond h8 rfl (fun e h9 => ?_) (fun e h9 => ?_)
  ·
   clear h6 h7 h8
   subst e
   refine sr ?_
   refine mv ?_
   refine as_ ?_
   refine dn ?_
   refine CV.ret ?_
   refine PV.blockR ?_
   refine PV.thenR ?_
   refine PV.thenR ?_
   refine PV.blockR ?_
   refine PV.thenR ?_
   cases h9
   exact PV.ret (by simp) Tryz.results226 hS (RS.tmp rfl RS.nil) rfl
  ·
   clear h6 h7 h8
   subst e
   refine CV.skip ?_
   refine PV.blockN ?_
   refine PV.thenN ?_
   refine CV.region ?_
   refine mv ?_
   refine vy (V.sub h9 rfl rfl) fun x12_6 h10 => ?_
   refine as_ ?_
   refine LV.done ?_
   exact pb4 hS h10 ⟨rfl, rfl, rfl, rfl, trivial⟩
 ·
  clear h4 h5
  subst e
  refine CV.exit ?_
  refine PV.thenE ?_
  refine PV.thenE ?_
  refine PV.blockE ?_
  refine PV.thenN ?_
  refine sr ?_
  refine as_ ?_
  refine dn ?_
  refine CV.ret ?_
  cases h6
  exact PV.ret (by simp) Tryz.results226 hS (RS.tmp rfl RS.nil) rfl
noncomputable def g210 (ro : List HT) (a0 a1 : AV) (T : HT) (nx : Nat) : R :=
 callK (g226 ro a0 a1 T nx) fun x7_1 T1 n1 =>
 .ok (.val x7_1) T1 n1
theorem g210_ok (ro : List HT) (a0 a1 : AV) (T : HT) (nx : Nat) : GOk Tryz.prog envE 210 [a0, a1] ro T nx (g210 ro a0 a1 T nx) := by
 refine GOk.of_body Tryz.func210 rfl Tryz.ntmps210 (by kernel_rfl) rfl fun r T' n' h1 w0 base ρ0 its hS hP => ?_
 have X : CtxW envE ρ0 ro r T' n' := trivial
 unfold g210 at h1
 refine sr ?_
 refine as_ ?_
 refine dn ?_
 refine sr ?_
 refine mv ?_
 refine mv ?_
 refine LV.call hS h1 (g226_ok _ _ _ _ _ ) hP rfl rfl rfl rfl fun x7_1 T1 n1 h2 ρ its hS => ?_
 refine as_ ?_
 refine dn ?_
 refine CV.ret ?_
 cases h2
 exact PV.ret (by simp) Tryz.results210 hS (RS.tmp rfl RS.nil) rfl
noncomputable def g170_b1 (ro : List HT) (lp1 : AV → AV → AV → HT → Nat → R) (y0 y2 y3 : AV) (T3 : HT) (n3 : Nat) : R :=
 ncK 1700048 y0 fun x76_28 =>
 faK 1700049 x76_28 3 fun x77_29 =>
 ldK 1700050 T3 ro x77_29 fun x78_30 =>
 ncK 1700052 y0 fun x80_31 =>
 faK 1700053 x80_31 3 fun x81_32 =>
 ldK 1700054 T3 ro x81_32 fun x82_33 =>
 lenSK 1700055 x82_33 fun x83_34 =>
 subK Tryz.prog 3 (.tmp 83) (.const (.int .i64 (.ofNat 1))) 1700056 x83_34 (.lit (.int .i64 (.ofNat 1))) fun x84_35 =>
 iaK 1700057 x78_30 x84_35 1 fun x85_36 =>
 ldK 1700058 T3 ro x85_36 fun x86_37 =>
 ltK Tryz.prog 3 (.tmp 74) (.tmp 86) 1700059 y3 x86_37 fun x87_38 =>
 condK 1700060 x87_38
 (
  ncK 1700063 y0 fun x90_39 =>
  faK 1700064 x90_39 3 fun x91_40 =>
  ldK 1700065 T3 ro x91_40 fun x92_41 =>
  ncK 1700067 y0 fun x94_42 =>
  faK 1700068 x94_42 3 fun x95_43 =>
  ldK 1700069 T3 ro x95_43 fun x96_44 =>
  lenSK 1700070 x96_44 fun x97_45 =>
  subK Tryz.prog 3 (.tmp 97) (.const (.int .i64 (.ofNat 1))) 1700071 x97_45 (.lit (.int .i64 (.ofNat 1))) fun x98_46 =>
  cutHiK 1700072 T3 ro x92_41 x98_46 fun x99_47 =>
  ncK 1700073 y0 fun x100_48 =>
  faK 1700074 x100_48 3 fun x101_49 =>
  stK 1700075 T3 x101_49 x99_47 fun T4 =>
  fldK 1700078 T4 ro y0 1 fun x106_50 =>
  callK (g98 ro y0 (.lit (.int .i64 (.ofNat 7))) (.lit (.string ⟨⟨[]⟩⟩)) x106_50 T4 n3) fun x107_51 T5 n5 =>
  lp1 y0 y2 y3 T5 n5
 )
 (
  ncK 1700082 y0 fun x110_52 =>
  faK 1700083 x110_52 3 fun x111_53 =>
  ldK 1700084 T3 ro x111_53 fun x112_54 =>
  ncK 1700086 y0 fun x114_55 =>
  faK 1700087 x114_55 3 fun x115_56 =>
  ldK 1700088 T3 ro x115_56 fun x116_57 =>
  lenSK 1700089 x116_57 fun x117_58 =>
  subK Tryz.prog 3 (.tmp 117) (.const (.int .i64 (.ofNat 1))) 1700090 x117_58 (.lit (.int .i64 (.ofNat 1))) fun x118_59 =>
  iaK 1700091 x112_54 x118_59 1 fun x119_60 =>
  ldK 1700092 T3 ro x119_60 fun x120_61 =>
  neK Tryz.prog 3 (.tmp 108) (.tmp 120) 1700093 y3 x120_61 fun x121_62 =>
  condK 1700094 x121_62
  (
   .bad 1700095
  )
  (
   .ok (.val (.lit (.nilIface))) T3 n3
  )
 )
noncomputable def g170 (ro : List HT) (a0 : AV) (T : HT) (nx : Nat) : R :=
 callK (g209 ro a0 T nx) fun x6_1 T1 n1 =>
 notK 1700004 x6_1 fun x7_2 =>
 condK 1700005 x7_2
 (
  .bad 1700006
 )
 (
  faK 1700008 a0 5 fun x15_3 =>
  stK 1700009 T1 x15_3 (.lit (.bool true)) fun T2 =>
  ncK 1700011 a0 fun x17_4 =>
  faK 1700012 x17_4 1 fun x18_5 =>
  ldK 1700013 T2 ro x18_5 fun x19_6 =>
  ncK 1700015 a0 fun x21_7 =>
  faK 1700016 x21_7 0 fun x22_8 =>
  ldK 1700017 T2 ro x22_8 fun x23_9 =>
  ncK 1700019 a0 fun x25_10 =>
  faK 1700020 x25_10 1 fun x26_11 =>
  ldK 1700021 T2 ro x26_11 fun x27_12 =>
  sliceF 1700022 x23_9 none (some x27_12) fun x28_13 =>
  callQ 1700023 (g210 (T2 :: ro) x28_13 (.lit (.int .u8 (.ofNat 10))) .nil n1) fun x29_14 =>
  addK Tryz.prog 3 (.tmp 29) (.const (.int .i64 (.ofNat 1))) 1700024 x29_14 (.lit (.int .i64 (.ofNat 1))) fun x30_15 =>
  subK Tryz.prog 3 (.tmp 19) (.tmp 30) 1700025 x19_6 x30_15 fun x31_16 =>
  ncK 1700028 a0 fun x33_17 =>
  faK 1700029 x33_17 3 fun x34_18 =>
  ldK 1700030 T2 ro x34_18 fun x35_19 =>
  ncK 1700032 a0 fun x37_20 =>
  faK 1700033 x37_20 3 fun x38_21 =>
  ldK 1700034 T2 ro x38_21 fun x39_22 =>
  lenSK 1700035 x39_22 fun x40_23 =>
  subK Tryz.prog 3 (.tmp 40) (.const (.int .i64 (.ofNat 1))) 1700036 x40_23 (.lit (.int .i64 (.ofNat 1))) fun x41_24 =>
  iaK 1700037 x35_19 x41_24 1 fun x42_25 =>
  ldK 1700038 T2 ro x42_25 fun x43_26 =>
  gtK Tryz.prog 3 (.tmp 44) (.tmp 45) 1700042 x31_16 x43_26 fun x46_27 =>
  condK 1700043 x46_27
  (
   .bad 1700044
  )
  (
   lpf3 1700045 (g170_b1 ro) 100000 a0 (.lit (.nilIface)) x31_16 T2 n1
  )
 )
theorem g170_ok (ro : List HT) (a0 : AV) (T : HT) (nx : Nat) : GOk Tryz.prog envE 170 [a0] ro T nx (g170 ro a0 T nx) := by
 refine GOk.of_body Tryz.func170 rfl Tryz.ntmps170 (by kernel_rfl) rfl fun r T' n' h1 w0 base ρ0 its hS hP => ?_
 have X : CtxW envE ρ0 ro r T' n' := trivial
 unfold g170 at h1
 refine sr ?_
 refine as_ ?_
 refine dn ?_
 refine CV.seq ?_
 refine sr ?_
 refine mv ?_
 refine LV.call hS h1 (g209_ok _ _ _ _ ) hP rfl rfl rfl rfl fun x6_1 T1 n1 h2 ρ its hS => ?_
 refine vy (V.not h2 rfl) fun x7_2 h3 => ?_
 refine dn ?_
 refine CV.cond h3 rfl (fun e h4 => ?_) (fun e h4 => ?_)
 ·
  clear h1 h2 h3
  subst e
  cases h4
 ·
  clear h1 h2 h3
  subst e
  refine CV.skip ?_
  refine PV.thenN ?_
  refine sr ?_
  refine mv ?_
  refine fa2 h4 Spf.fo168_5 fun x15_3 h5 => ?_
  refine LV.st hS h5 rfl rfl rfl Spf.siz4 rfl rfl fun T2 its h6 hS => ?_
  refine dn ?_
  refine CV.seq ?_
  refine CV.regionM [(0, .anywhere), (1, .anywhere), (2, .anywhere), (3, .held), (4, .anywhere), (5, .anywhere), (6, .anywhere), (7, .held), (8, .anywhere), (9, .anywhere), (10, .anywhere), (11, .held), (12, .held), (13, .alone), (14, .alone), (15, .alone), (16, .alone)] rfl (fun c a a' w hd hq => PanicOk.root (P := Tryz.prog) (fn := Tryz.f170) (w0 := w0) (base := base) (E := envE) (ro := ro) (r := r) (T' := T') (n' := n') (ρ0 := ρ0) c a a' w hd hq) (by kernel_rfl) ?_
  refine MV.step0 (i := 0) rfl (VAL.move rfl) rfl rfl rfl ?_
  refine MV.lift0 (i := 1) rfl (V.nc h6 rfl) rfl rfl rfl fun x17_4 h7 => ?_
  refine MV.lift0 (i := 2) rfl (V.fa h7 rfl Spf.fo168_1) rfl rfl rfl fun x18_5 h8 => ?_
  refine MV.lift1 (i := 3) rfl (fun _ z => z) (V.ld hS h8 rfl Spf.one3) rfl rfl rfl [] (by kernel_rfl) fun x19_6 h9 => ?_
  refine MV.step0 (i := 4) rfl (VAL.move rfl) rfl rfl rfl ?_
  refine MV.lift0 (i := 5) rfl (V.nc h9 rfl) rfl rfl rfl fun x21_7 h10 => ?_
  refine MV.lift0 (i := 6) rfl (V.fa h10 rfl Spf.fo168_0) rfl rfl rfl fun x22_8 h11 => ?_
  refine MV.lift1 (i := 7) rfl (fun _ z => z) (V.ld hS h11 rfl Spf.one9) rfl rfl rfl [3] (by kernel_rfl) fun x23_9 h12 => ?_
  refine MV.step0 (i := 8) rfl (VAL.move rfl) rfl rfl rfl ?_
  refine MV.lift0 (i := 9) rfl (V.nc h12 rfl) rfl rfl rfl fun x25_10 h13 => ?_
  refine MV.lift0 (i := 10) rfl (V.fa h13 rfl Spf.fo168_1) rfl rfl rfl fun x26_11 h14 => ?_
  refine MV.lift1 (i := 11) rfl (fun _ z => z) (V.ld hS h14 rfl Spf.one3) rfl rfl rfl [7, 3] (by kernel_rfl) fun x27_12 h15 => ?_
  refine MV.lift1 (i := 12) rfl (fun _ z => z) (V.slHi (sliceF_ok h15) rfl rfl Spf.st9) rfl rfl rfl [3] (by kernel_rfl) fun x28_13 h16 => ?_
  refine MV.force (i := 13) rfl ?_
  refine LV.callQ hS h16 (g210_ok _ _ _ _ _ ) rfl rfl rfl rfl fun x29_14 h17 => ?_
  refine LV.nextM [3] (by kernel_rfl) (fun _ => fun _ z => z) ?_
  refine MV.force (i := 14) rfl ?_
  refine vy (V.add h17 rfl rfl) fun x30_15 h18 => ?_
  refine LV.nextM [3] (by kernel_rfl) (fun _ => fun _ z => z) ?_
  refine MV.force (i := 15) rfl ?_
  refine vy (V.sub h18 rfl rfl) fun x31_16 h19 => ?_
  refine LV.nextM [] (by kernel_rfl) (fun z => absurd rfl z) ?_
  refine MV.force (i := 16) rfl ?_
  refine as_ ?_
  refine LV.nextM [] (by kernel_rfl) (fun z => absurd rfl z) ?_
  refine mdn ?_
  refine CV.seq ?_
  refine CV.regionM [(0, .anywhere), (1, .anywhere), (2, .anywhere), (3, .held), (4, .anywhere), (5, .anywhere), (6, .anywhere), (7, .held), (8, .held), (9, .held), (10, .held), (11, .held), (12, .held)] rfl (fun c a a' w hd hq => PanicOk.root (P := Tryz.prog) (fn := Tryz.f170) (w0 := w0) (base := base) (E := envE) (ro := ro) (r := r) (T' := T') (n' := n') (ρ0 := ρ0) c a a' w hd hq) (by kernel_rfl) ?_
  refine MV.step0 (i := 0) rfl (VAL.move rfl) rfl rfl rfl ?_
  refine MV.lift0 (i := 1) rfl (V.nc h19 rfl) rfl rfl rfl fun x33_17 h20 => ?_
  refine MV.lift0 (i := 2) rfl (V.fa h20 rfl Spf.fo168_3) rfl rfl rfl fun x34_18 h21 => ?_
  refine MV.lift1 (i := 3) rfl (fun _ z => z) (V.ld hS h21 rfl Spf.one30) rfl rfl rfl [] (by kernel_rfl) fun x35_19 h22 => ?_
  refine MV.step0 (i := 4) rfl (VAL.move rfl) rfl rfl rfl ?_
  refine MV.lift0 (i := 5) rfl (V.nc h22 rfl) rfl rfl rfl fun x37_20 h23 => ?_
  refine MV.lift0 (i := 6) rfl (V.fa h23 rfl Spf.fo168_3) rfl rfl rfl fun x38_21 h24 => ?_
  refine MV.lift1 (i := 7) rfl (fun _ z => z) (V.ld hS h24 rfl Spf.one30) rfl rfl rfl [3] (by kernel_rfl) fun x39_22 h25 => ?_
  refine MV.lift1 (i := 8) rfl (fun _ z => z) (V.lenS h25 rfl Spf.ls30) rfl rfl rfl [3] (by kernel_rfl) fun x40_23 h26 => ?_
  refine MV.lift1 (i := 9) rfl (fun _ z => z) (V.sub h26 rfl rfl) rfl rfl rfl [3] (by kernel_rfl) fun x41_24 h27 => ?_
  refine MV.lift1 (i := 10) rfl (fun _ z => z) (V.ia h27 rfl rfl Spf.el30) rfl rfl rfl [] (by kernel_rfl) fun x42_25 h28 => ?_
  refine MV.lift1 (i := 11) rfl (fun _ z => z) (V.ld hS h28 rfl Spf.one3) rfl rfl rfl [] (by kernel_rfl) fun x43_26 h29 => ?_
  refine MV.step1 (i := 12) rfl (fun _ z => z) (VAL.assign rfl) rfl rfl rfl [] (by kernel_rfl) ?_
  refine mdn ?_
  refine CV.seq ?_
  refine sr ?_
  refine mv ?_
  refine mv ?_
  refine vy (V.gt h29 rfl rfl) fun x46_27 h30 => ?_
  refine dn ?_
  refine CV.cond h30 rfl (fun e h31 => ?_) (fun e h31 => ?_)
  ·
   clear h4 h5 h6 h7 h8 h9 h10 h11 h12 h13 h14 h15 h16 h17 h18 h19 h20 h21 h22 h23 h24 h25 h26 h27 h28 h29 h30
   subst e
   cases h31
  ·
   clear h4 h5 h6 h7 h8 h9 h10 h11 h12 h13 h14 h15 h16 h17 h18 h19 h20 h21 h22 h23 h24 h25 h26 h27 h28 h29 h30
   subst e
   refine CV.skip ?_
   refine PV.thenN ?_
   refine CV.seq ?_
   refine CV.block ?_
   refine cl3 X 0 2 3 [] hS h31 ⟨rfl, rfl, rfl, trivial⟩ ?_
   intro f1 y0 y2 y3 T3 n3 ρ its hS h32
   unfold g170_b1 at h32
   clear h31
   refine CV.seq ?_
   refine CV.seq ?_
   refine CV.regionM [(0, .anywhere), (1, .anywhere), (2, .anywhere), (3, .anywhere), (4, .held), (5, .anywhere), (6, .anywhere), (7, .anywhere), (8, .held), (9, .held), (10, .held), (11, .held), (12, .held), (13, .held)] rfl (fun c a a' w hd hq => PanicOk.root (P := Tryz.prog) (fn := Tryz.f170) (w0 := w0) (base := base) (E := envE) (ro := ro) (r := r) (T' := T') (n' := n') (ρ0 := ρ0) c a a' w hd hq) (by kernel_rfl) ?_
   refine MV.step0 (i := 0) rfl (VAL.move rfl) rfl rfl rfl ?_
   refine MV.step0 (i := 1) rfl (VAL.move rfl) rfl rfl rfl ?_
   refine MV.lift0 (i := 2) rfl (V.nc h32 rfl) rfl rfl rfl fun x76_28 h33 => ?_
   refine MV.lift0 (i := 3) rfl (V.fa h33 rfl Spf.fo168_3) rfl rfl rfl fun x77_29 h34 => ?_
   refine MV.lift1 (i := 4) rfl (fun _ z => z) (V.ld hS h34 rfl Spf.one30) rfl rfl rfl [] (by kernel_rfl) fun x78_30 h35 => ?_
   refine MV.step0 (i := 5) rfl (VAL.move rfl) rfl rfl rfl ?_
   refine MV.lift0 (i := 6) rfl (V.nc h35 rfl) rfl rfl rfl fun x80_31 h36 => ?_
   refine MV.lift0 (i := 7) rfl (V.fa h36 rfl Spf.fo168_3) rfl rfl rfl fun x81_32 h37 => ?_
   refine MV.lift1 (i := 8) rfl (fun _ z => z) (V.ld hS h37 rfl Spf.one30) rfl rfl rfl [4] (by kernel_rfl) fun x82_33 h38 => ?_
   refine MV.lift1 (i := 9) rfl (fun _ z => z) (V.lenS h38 rfl Spf.ls30) rfl rfl rfl [4] (by kernel_rfl) fun x83_34 h39 => ?_
   refine MV.lift1 (i := 10) rfl (fun _ z => z) (V.sub h39 rfl rfl) rfl rfl rfl [4] (by kernel_rfl) fun x84_35 h40 => ?_
   refine MV.lift1 (i := 11) rfl (fun _ z => z) (V.ia h40 rfl rfl Spf.el30) rfl rfl rfl [] (by kernel_rfl) fun x85_36 h41 => ?_
   refine MV.lift1 (i := 12) rfl (fun _ z => z) (V.ld hS h41 rfl Spf.one3) rfl rfl rfl [] (by kernel_rfl) fun x86_37 h42 => ?_
   refine MV.lift1 (i := 13) rfl (fun _ z => z) (V.lt h42 rfl rfl) rfl rfl rfl [] (by kernel_rfl) fun x87_38 h43 => ?_
   refine mdn ?_
   refine CV.cond h43 rfl (fun e h44 => ?_) (fun e h44 => ?_)
   ·
    clear h32 h33 h34 h35 h36 h37 h38 h39 h40 h41 h42 h43
    subst e
    refine CV.skip ?_
    refine PV.thenN ?_
    refine CV.block ?_
    refine CV.seq ?_
    refine CV.regionM [(0, .anywhere), (1, .anywhere), (2, .anywhere), (3, .anywhere), (4, .held), (5, .anywhere), (6, .anywhere), (7, .anywhere), (8, .held), (9, .held), (10, .held), (11, .held), (12, .held), (13, .held), (14, .alone)] rfl (fun c a a' w hd hq => PanicOk.root (P := Tryz.prog) (fn := Tryz.f170) (w0 := w0) (base := base) (E := envE) (ro := ro) (r := r) (T' := T') (n' := n') (ρ0 := ρ0) c a a' w hd hq) (by kernel_rfl) ?_
    refine MV.step0 (i := 0) rfl (VAL.move rfl) rfl rfl rfl ?_
    refine MV.step0 (i := 1) rfl (VAL.move rfl) rfl rfl rfl ?_
    refine MV.lift0 (i := 2) rfl (V.nc h44 rfl) rfl rfl rfl fun x90_39 h45 => ?_
    refine MV.lift0 (i := 3) rfl (V.fa h45 rfl Spf.fo168_3) rfl rfl rfl fun x91_40 h46 => ?_
    refine MV.lift1 (i := 4) rfl (fun _ z => z) (V.ld hS h46 rfl Spf.one30) rfl rfl rfl [] (by kernel_rfl) fun x92_41 h47 => ?_
    refine MV.step0 (i := 5) rfl (VAL.move rfl) rfl rfl rfl ?_
    refine MV.lift0 (i := 6) rfl (V.nc h47 rfl) rfl rfl rfl fun x94_42 h48 => ?_
    refine MV.lift0 (i := 7) rfl (V.fa h48 rfl Spf.fo168_3) rfl rfl rfl fun x95_43 h49 => ?_
    refine MV.lift1 (i := 8) rfl (fun _ z => z) (V.ld hS h49 rfl Spf.one30) rfl rfl rfl [4] (by kernel_rfl) fun x96_44 h50 => ?_
    refine MV.lift1 (i := 9) rfl (fun _ z => z) (V.lenS h50 rfl Spf.ls30) rfl rfl rfl [4] (by kernel_rfl) fun x97_45 h51 => ?_
    refine MV.lift1 (i := 10) rfl (fun _ z => z) (V.sub h51 rfl rfl) rfl rfl rfl [4] (by kernel_rfl) fun x98_46 h52 => ?_
    refine MV.lift1 (i := 11) rfl (fun _ z => z) (V.cutHi hS h52 rfl rfl Spf.el30) rfl rfl rfl [] (by kernel_rfl) fun x99_47 h53 => ?_
    refine MV.lift1 (i := 12) rfl (fun _ z => z) (V.nc h53 rfl) rfl rfl rfl [] (by kernel_rfl) fun x100_48 h54 => ?_
    refine MV.lift1 (i := 13) rfl (fun _ z => z) (V.fa h54 rfl Spf.fo168_3) rfl rfl rfl [] (by kernel_rfl) fun x101_49 h55 => ?_
    refine MV.force (i := 14) rfl ?_
    refine LV.st hS h55 rfl rfl rfl Spf.siz30 rfl rfl fun T4 its h56 hS => ?_
    refine LV.nextM [] (by kernel_rfl) (fun z => absurd rfl z) ?_
    refine mdn ?_
    refine CV.region ?_
    refine mv ?_
    refine mv ?_
    refine fl hS h56 Spf.fo168_1 Spf.one3 fun x106_50 h57 => ?_
    refine LV.call hS h57 (g98_ok _ _ _ _ _ _ _ ) hP rfl rfl rfl rfl fun x107_51 T5 n5 h58 ρ its hS => ?_
    refine LV.done ?_
    refine PV.blockN ?_
    exact pb3 hS h58 ⟨rfl, rfl, rfl, trivial⟩
   ·
    clear h32 h33 h34 h35 h36 h37 h38 h39 h40 h41 h42 h43
    subst e
    refine CV.exit ?_
    refine PV.thenE ?_
    refine PV.thenE ?_
    refine PV.blockE ?_
    refine PV.thenN ?_
    refine CV.seq ?_
    refine CV.seq ?_
    refine CV.regionM [(0, .anywhere), (1, .anywhere), (2, .anywhere), (3, .anywhere), (4, .held), (5, .anywhere), (6, .anywhere), (7, .anywhere), (8, .held), (9, .held), (10, .held), (11, .held), (12, .held), (13, .held)] rfl (fun c a a' w hd hq => PanicOk.root (P := Tryz.prog) (fn := Tryz.f170) (w0 := w0) (base := base) (E := envE) (ro := ro) (r := r) (T' := T') (n' := n') (ρ0 := ρ0) c a a' w hd hq) (by kernel_rfl) ?_
    refine MV.step0 (i := 0) rfl (VAL.move rfl) rfl rfl rfl ?_
    refine MV.step0 (i := 1) rfl (VAL.move rfl) rfl rfl rfl ?_
    refine MV.lift0 (i := 2) rfl (V.nc h44 rfl) rfl rfl rfl fun x110_52 h59 => ?_
    refine MV.lift0 (i := 3) rfl (V.fa h59 rfl Spf.fo168_3) rfl rfl rfl fun x111_53 h60 => ?_
    refine MV.lift1 (i := 4) rfl (fun _ z => z) (V.ld hS h60 rfl Spf.one30) rfl rfl rfl [] (by kernel_rfl) fun x112_54 h61 => ?_
    refine MV.step0 (i := 5) rfl (VAL.move rfl) rfl rfl rfl ?_
    refine MV.lift0 (i := 6) rfl (V.nc h61 rfl) rfl rfl rfl fun x114_55 h62 => ?_
    refine MV.lift0 (i := 7) rfl (V.fa h62 rfl Spf.fo168_3) rfl rfl rfl fun x115_56 h63 => ?_
    refine MV.lift1 (i := 8) rfl (fun _ z => z) (V.ld hS h63 rfl Spf.one30) rfl rfl rfl [4] (by kernel_rfl) fun x116_57 h64 => ?_
    refine MV.lift1 (i := 9) rfl (fun _ z => z) (V.lenS h64 rfl Spf.ls30) rfl rfl rfl [4] (by kernel_rfl) fun x117_58 h65 => ?_
    refine MV.lift1 (i := 10) rfl (fun _ z => z) (V.sub h65 rfl rfl) rfl rfl rfl [4] (by kernel_rfl) fun x118_59 h66 => ?_
    refine MV.lift1 (i := 11) rfl (fun _ z => z) (V.ia h66 rfl rfl Spf.el30) rfl rfl rfl [] (by kernel_rfl) fun x119_60 h67 => ?_
    refine MV.lift1 (i := 12) rfl (fun _ z => z) (V.ld hS h67 rfl Spf.one3) rfl rfl rfl [] (by kernel_rfl) fun x120_61 h68 => ?_
    refine MV.lift1 (i := 13) rfl (fun _ z => z) (V.ne h68 rfl rfl) rfl rfl rfl [] (by kernel_rfl) fun x121_62 h69 => ?_
    refine mdn ?_
    refine CV.cond h69 rfl (fun e h70 => ?_) (fun e h70 => ?_)
    ·
     clear h44 h59 h60 h61 h62 h63 h64 h65 h66 h67 h68 h69
     subst e
     cases h70
    ·
     clear h44 h59 h60 h61 h62 h63 h64 h65 h66 h67 h68 h69
     subst e
     refine CV.skip ?_
     refine PV.thenN ?_
     refine sr ?_
     refine as_ ?_
     refine dn ?_
     refine CV.ret ?_
     cases h70
     exact PV.ret (by simp) Tryz.results170 hS (RS.tmp rfl RS.nil) rfl

end Go.Proofs.YtdepmlcnllofiaaGreatDoor.Sp
