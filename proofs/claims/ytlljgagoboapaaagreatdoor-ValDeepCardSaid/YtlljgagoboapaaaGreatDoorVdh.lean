/-
  Proved here: plain functions that do what the program's functions do, each with its proof.
-/
import Derived.Test.YtlljgagoboapaaaGreatDoorVdg
namespace Go.Proofs.YtlljgagoboapaaaGreatDoor.Vd
open Go.EY Go.EX Go.SX Go.RowKit
noncomputable def g90_k2 (ih : FuncId → List HT → List AV → HT → Nat → R) (ro : List HT) (y4 y5 y6 y7 y47 y48 : AV) (T9 : HT) (n9 : Nat) : R :=
 condK 900048 y48
 (
  .bad 900049
 )
 (
  eqK Tryz.prog 3 (.tmp 47) (.const (.int .i64 (.ofNat 4))) 900050 y47 (.lit (.int .i64 (.ofNat 4))) fun x56_22 =>
  condK 900052 x56_22
  (
   faK 900053 y6 3 fun x58_23 =>
   ldK 900054 T9 ro x58_23 fun x59_24 =>
   callK (g123 ro x59_24 T9 n9) fun x60_25 T10 n10 =>
   exK 900057 x60_25 0 fun x61_26 =>
   exK 900058 x60_25 1 fun x62_27 =>
   newK T10 n10 (.obj [.lit (.bool false), .lit (.slice none 0 0)] 29) fun x12_28 T11 n11 =>
   stAK 900060 T11 x12_28 x61_26 2 fun T12 =>
   ldAK 900062 T12 ro x12_28 2 fun x63_29 =>
   callK (g8 ro x63_29 T12 n11) fun x64_30 T13 n13 =>
   .ok (.val (.tup [x64_30, (.lit (.nilIface))])) T13 n13
  )
  (
   eqK Tryz.prog 3 (.tmp 47) (.const (.int .i64 (.ofNat 5))) 900066 y47 (.lit (.int .i64 (.ofNat 5))) fun x66_31 =>
   condK 900068 x66_31
   (
    faK 900069 y6 3 fun x67_32 =>
    ldK 900070 T9 ro x67_32 fun x68_33 =>
    callK (g19 ro x68_33 T9 n9) fun x69_34 T14 n14 =>
    .ok (.val (.tup [x69_34, (.lit (.nilIface))])) T14 n14
   )
   (
    eqK Tryz.prog 3 (.tmp 47) (.const (.int .i64 (.ofNat 16))) 900074 y47 (.lit (.int .i64 (.ofNat 16))) fun x71_35 =>
    condK 900076 x71_35
    (
     .bad 900077
    )
    (
     eqK Tryz.prog 3 (.tmp 47) (.const (.int .i64 (.ofNat 7))) 900078 y47 (.lit (.int .i64 (.ofNat 7))) fun x83_36 =>
     condK 900080 x83_36
     (
      callK (g11 ro y7 T9 n9) fun x85_37 T15 n15 =>
      .ok (.val (.tup [(.iface 32 x85_37), (.lit (.nilIface))])) T15 n15
     )
     (
      eqK Tryz.prog 3 (.tmp 47) (.const (.int .i64 (.ofNat 8))) 900086 y47 (.lit (.int .i64 (.ofNat 8))) fun x88_38 =>
      condK 900088 x88_38
      (
       callK (g10 ro y7 T9 n9) fun x90_39 T16 n16 =>
       .ok (.val (.tup [x90_39, (.lit (.nilIface))])) T16 n16
      )
      (
       eqK Tryz.prog 3 (.tmp 47) (.const (.int .i64 (.ofNat 9))) 900093 y47 (.lit (.int .i64 (.ofNat 9))) fun x92_40 =>
       condK 900095 x92_40
       (
        callK (g126 ro y7 T9 n9) fun x94_41 T17 n17 =>
        exK 900098 x94_41 0 fun x95_42 =>
        exK 900099 x94_41 1 fun x96_43 =>
        .ok (.val (.tup [x95_42, x96_43])) T17 n17
       )
       (
        callK (g17 ro T9 n9) fun x97_44 T18 n18 =>
        .ok (.val (.tup [x97_44, (.lit (.nilIface))])) T18 n18
       )
      )
     )
    )
   )
  )
 )
noncomputable def g90_b1 (ih : FuncId → List HT → List AV → HT → Nat → R) (ro : List HT) (lp1 : AV → AV → AV → AV → AV → AV → AV → AV → HT → Nat → R) (y0 y4 y5 y6 y7 y21 y22 y23 : AV) (T3 : HT) (n3 : Nat) : R :=
 ltK Tryz.prog 3 (.tmp 23) (.tmp 22) 900015 y23 y22 fun x24_7 =>
 condK 900016 x24_7
 (
  iaK 900017 y21 y23 1 fun x25_8 =>
  ldK 900018 T3 ro x25_8 fun x26_9 =>
  callK (ih 90 ro [y0, x26_9] T3 n3) fun x30_10 T4 n4 =>
  exK 900024 x30_10 0 fun x31_11 =>
  exK 900025 x30_10 1 fun x32_12 =>
  bin0 Tryz.prog .neq 36 (.tmp 33) (.const (.nilIface)) 900029 x32_12 (.lit (.nilIface)) fun x34_13 =>
  condK 900030 x34_13
  (
   .bad 900031
  )
  (
   bsK 900034 T4 n4 1 25 1 [(0, x31_11)] fun x38_14 T5 n5 =>
   shrK 900036 T5 y7 fun T6 =>
   appEK 900035 T6 ro n5 25 1 16 y7 x38_14 fun x39_15 T7 n7 =>
   addK Tryz.prog 3 (.tmp 23) (.const (.int .i64 (.ofNat 1))) 900038 y23 (.lit (.int .i64 (.ofNat 1))) fun x40_16 =>
   lp1 y0 y4 y5 y6 x39_15 y21 y22 x40_16 T7 n7
  )
 )
 (
  ldAK 900041 T3 ro y6 5 fun x42_17 =>
  callK (g121 ro y0 x42_17 T3 n3) fun x43_18 T8 n8 =>
  notK 900043 x43_18 fun x44_19 =>
  condK 900044 x44_19
  (
   .bad 900045
  )
  (
   faK 900046 y6 0 fun x46_20 =>
   ldK 900047 T8 ro x46_20 fun x47_21 =>
   eqK Tryz.prog 3 (.tmp 47) (.const (.int .i64 (.ofNat 2))) 900105 x47_21 (.lit (.int .i64 (.ofNat 2))) fun x49_45 =>
   condK 900107 x49_45
   (
    g90_k2 ih ro y4 y5 y6 y7 x47_21 (.lit (.bool true)) T8 n8
   )
   (
    eqK Tryz.prog 3 (.tmp 47) (.const (.int .i64 (.ofNat 3))) 900108 x47_21 (.lit (.int .i64 (.ofNat 3))) fun x50_46 =>
    g90_k2 ih ro y4 y5 y6 y7 x47_21 x50_46 T8 n8
   )
  )
 )
noncomputable def g90 (ih : FuncId → List HT → List AV → HT → Nat → R) (ro : List HT) (a0 a1 : AV) (T : HT) (nx : Nat) : R :=
 iaK 900005 a0 a1 5 fun x18_1 =>
 ldAK 900006 T ro x18_1 5 fun x19_2 =>
 newK T nx (.obj [.lit (.int .i64 0), .lit (.int .i64 0), .lit (.int .i64 0), .lit (.string ⟨#[]⟩), .lit (.slice none 0 0)] 172) fun x6_3 T1 n1 =>
 stAK 900008 T1 x6_3 x19_2 5 fun T2 =>
 faK 900010 x6_3 4 fun x20_4 =>
 ldK 900011 T2 ro x20_4 fun x21_5 =>
 lenSK 900012 x21_5 fun x22_6 =>
 lpf8 900014 (g90_b1 ih ro) 100000 a0 (.lit (.nilIface)) (.lit (.nilIface)) x6_3 (.lit (.slice none 0 0)) x21_5 x22_6 (.lit (.int .i64 (.ofNat 0))) T2 n1
theorem g90_ok (ih : FuncId → List HT → List AV → HT → Nat → R) (hI : ∀ f ro args T nx, GOk Tryz.prog envE f args ro T nx (ih f ro args T nx)) (ro : List HT) (a0 a1 : AV) (T : HT) (nx : Nat) : GOk Tryz.prog envE 90 [a0, a1] ro T nx (g90 ih ro a0 a1 T nx) := by
 refine GOk.of_body Tryz.func90 rfl Tryz.ntmps90 (by kernel_rfl) rfl fun r T' n' h1 w0 base ρ0 its hS hP => ?_
 have X : CtxW envE ρ0 ro r T' n' := trivial
 unfold g90 at h1
 refine sr ?_
 refine as_ ?_
 refine as_ ?_
 refine dn ?_
 refine sr ?_
 refine mv ?_
 refine mv ?_
 refine vy (V.ia h1 rfl rfl Vdf.el109) fun x18_1 h2 => ?_
 refine vy (V.ldA hS h2 rfl Vdf.agg172) fun x19_2 h3 => ?_
 refine LV.alloc hS h3 rfl Vdf.zr172 rfl rfl rfl fun x6_3 T1 n1 h4 ρ its hS hdr => ?_
 refine LV.stA hS h4 rfl rfl rfl Vdf.agg172 rfl rfl rfl fun T2 its h5 hS => ?_
 refine dn ?_
 refine sr ?_
 refine as_ ?_
 refine dn ?_
 refine CV.seq ?_
 refine sr ?_
 refine vy (V.fa h5 rfl Vdf.fo172_4) fun x20_4 h6 => ?_
 refine vy (V.ld hS h6 rfl Vdf.one170) fun x21_5 h7 => ?_
 refine vy (V.lenS h7 rfl Vdf.ls170) fun x22_6 h8 => ?_
 refine mv ?_
 refine dn ?_
 refine CV.block ?_
 refine cl8 X 0 4 5 6 7 21 22 23 [] hS h8 ⟨rfl, rfl, rfl, rfl, rfl, rfl, rfl, rfl, trivial⟩ ?_
 intro f1 y0 y4 y5 y6 y7 y21 y22 y23 T3 n3 ρ its hS h9
 unfold g90_b1 at h9
 clear h1 h2 h3 h4 h5 h6 h7 h8
 refine sr ?_
 refine vy (V.lt h9 rfl rfl) fun x24_7 h10 => ?_
 refine dn ?_
 refine CV.seq ?_
 refine CV.cond h10 rfl (fun e h11 => ?_) (fun e h11 => ?_)
 ·
  clear h9 h10
  subst e
  refine CV.skip ?_
  refine PV.thenN ?_
  refine CV.seq ?_
  refine CV.block ?_
  refine sr ?_
  refine vy (V.ia h11 rfl rfl Vdf.el170) fun x25_8 h12 => ?_
  refine vy (V.ld hS h12 rfl Vdf.one3) fun x26_9 h13 => ?_
  refine as_ ?_
  refine dn ?_
  refine sr ?_
  refine mv ?_
  refine mv ?_
  refine LV.call hS h13 (hI _ _ _ _ _) hP rfl rfl rfl rfl fun x30_10 T4 n4 h14 ρ its hS => ?_
  refine mv ?_
  refine vy (V.ex h14 rfl) fun x31_11 h15 => ?_
  refine vy (V.ex h15 rfl) fun x32_12 h16 => ?_
  refine as_ ?_
  refine as_ ?_
  refine dn ?_
  refine CV.seq ?_
  refine sr ?_
  refine mv ?_
  refine vy (V.bin0 h16 rfl rfl) fun x34_13 h17 => ?_
  refine dn ?_
  refine CV.cond h17 rfl (fun e h18 => ?_) (fun e h18 => ?_)
  ·
   clear h11 h12 h13 h14 h15 h16 h17
   subst e
   cases h18
  ·
   clear h11 h12 h13 h14 h15 h16 h17
   subst e
   refine CV.skip ?_
   refine PV.thenN ?_
   refine CV.region ?_
   refine mv ?_
   refine mv ?_
   refine LV.bslice hS h18 rfl rfl Vdf.el71 rfl rfl rfl rfl fun x38_14 T5 n5 h19 ρ its hS hdr => ?_
   obtain ⟨T6, its1, h20, hS, hW⟩ := shrK_inv hS h19
   refine LV.world hW ?_
   refine LV.appE hS h20 rfl rfl rfl rfl Vdf.el71 rfl rfl rfl fun x39_15 T7 n7 h21 ρ its hS => ?_
   refine as_ ?_
   refine LV.done ?_
   refine PV.blockN ?_
   refine PV.thenN ?_
   refine CV.region ?_
   refine vy (V.add h21 rfl rfl) fun x40_16 h22 => ?_
   refine mv ?_
   refine LV.done ?_
   exact pb8 hS h22 ⟨rfl, rfl, rfl, rfl, rfl, rfl, rfl, rfl, trivial⟩
 ·
  clear h9 h10
  subst e
  refine CV.exit ?_
  refine PV.thenE ?_
  refine PV.thenE ?_
  refine PV.blockE ?_
  refine PV.thenN ?_
  refine CV.seq ?_
  refine sr ?_
  refine mv ?_
  refine vy (V.ldA hS h11 rfl Vdf.agg172) fun x42_17 h23 => ?_
  refine LV.call hS h23 (g121_ok _ _ _ _ _ ) hP rfl rfl rfl rfl fun x43_18 T8 n8 h24 ρ its hS => ?_
  refine vy (V.not h24 rfl) fun x44_19 h25 => ?_
  refine dn ?_
  refine CV.cond h25 rfl (fun e h26 => ?_) (fun e h26 => ?_)
  ·
   clear h11 h23 h24 h25
   subst e
   cases h26
  ·
   clear h11 h23 h24 h25
   subst e
   refine CV.skip ?_
   refine PV.thenN ?_
   refine CV.seq ?_
   refine sr ?_
   refine vy (V.fa h26 rfl Vdf.fo172_0) fun x46_20 h27 => ?_
   refine vy (V.ld hS h27 rfl Vdf.one3) fun x47_21 h28 => ?_
   refine dn ?_
   refine CV.block ?_
   refine cs6 X 4 5 6 7 47 48 [] (g90_k2 ih ro) ?_ ?_
   ·
    refine sr ?_
    refine vy (V.eq h28 rfl rfl) fun x49_45 h61 => ?_
    refine as_ ?_
    refine dn ?_
    refine CV.cond h61 rfl (fun e h62 => ?_) (fun e h62 => ?_)
    ·
     clear h26 h27 h28 h61
     subst e
     refine CV.skip ?_
     exact pa6 hS h62 ⟨rfl, rfl, rfl, rfl, rfl, rfl, trivial⟩
    ·
     clear h26 h27 h28 h61
     subst e
     refine CV.region ?_
     refine vy (V.eq h62 rfl rfl) fun x50_46 h63 => ?_
     refine as_ ?_
     refine LV.done ?_
     exact pa6 hS h63 ⟨rfl, rfl, rfl, rfl, rfl, rfl, trivial⟩
   ·
    intro y4 y5 y6 y7 y47 y48 T9 n9 ρ its hS h29
    unfold g90_k2 at h29
    clear h26 h27 h28
    refine CV.cond h29 rfl (fun e h30 => ?_) (fun e h30 => ?_)
    ·
     clear h29
     subst e
     cases h30
    ·
     clear h29
     subst e
     refine sr ?_
     refine vy (V.eq h30 rfl rfl) fun x56_22 h31 => ?_
     refine as_ ?_
     refine dn ?_
     refine CV.cond h31 rfl (fun e h32 => ?_) (fun e h32 => ?_)
     ·
      clear h30 h31
      subst e
      refine sr ?_
      refine vy (V.fa h32 rfl Vdf.fo172_3) fun x58_23 h33 => ?_
      refine vy (V.ld hS h33 rfl Vdf.one9) fun x59_24 h34 => ?_
      refine LV.call hS h34 (g123_ok _ _ _ _ ) hP rfl rfl rfl rfl fun x60_25 T10 n10 h35 ρ its hS => ?_
      refine mv ?_
      refine vy (V.ex h35 rfl) fun x61_26 h36 => ?_
      refine vy (V.ex h36 rfl) fun x62_27 h37 => ?_
      refine LV.alloc hS h37 rfl Vdf.zr29 rfl rfl rfl fun x12_28 T11 n11 h38 ρ its hS hdr => ?_
      refine LV.stA hS h38 rfl rfl rfl Vdf.agg29 rfl rfl rfl fun T12 its h39 hS => ?_
      refine as_ ?_
      refine dn ?_
      refine sr ?_
      refine vy (V.ldA hS h39 rfl Vdf.agg29) fun x63_29 h40 => ?_
      refine LV.call hS h40 (g8_ok _ _ _ _ ) hP rfl rfl rfl rfl fun x64_30 T13 n13 h41 ρ its hS => ?_
      refine as_ ?_
      refine as_ ?_
      refine dn ?_
      refine CV.ret ?_
      refine PV.blockR ?_
      refine PV.thenR ?_
      cases h41
      exact PV.ret (by simp) Tryz.results90 hS (RS.tmp rfl (RS.tmp rfl RS.nil)) rfl
     ·
      clear h30 h31
      subst e
      refine sr ?_
      refine vy (V.eq h32 rfl rfl) fun x66_31 h42 => ?_
      refine as_ ?_
      refine dn ?_
      refine CV.cond h42 rfl (fun e h43 => ?_) (fun e h43 => ?_)
      ·
       clear h32 h42
       subst e
       refine sr ?_
       refine vy (V.fa h43 rfl Vdf.fo172_3) fun x67_32 h44 => ?_
       refine vy (V.ld hS h44 rfl Vdf.one9) fun x68_33 h45 => ?_
       refine LV.call hS h45 (g19_ok _ _ _ _ ) hP rfl rfl rfl rfl fun x69_34 T14 n14 h46 ρ its hS => ?_
       refine as_ ?_
       refine as_ ?_
       refine dn ?_
       refine CV.ret ?_
       refine PV.blockR ?_
       refine PV.thenR ?_
       cases h46
       exact PV.ret (by simp) Tryz.results90 hS (RS.tmp rfl (RS.tmp rfl RS.nil)) rfl
      ·
       clear h32 h42
       subst e
       refine sr ?_
       refine vy (V.eq h43 rfl rfl) fun x71_35 h47 => ?_
       refine as_ ?_
       refine dn ?_
       refine CV.cond h47 rfl (fun e h48 => ?_) (fun e h48 => ?_)
       ·
        clear h43 h47
        subst e
        cases h48
       ·
        clear h43 h47
        subst e
        refine sr ?_
        refine vy (V.eq h48 rfl rfl) fun x83_36 h49 => ?_
        refine as_ ?_
        refine dn ?_
        refine CV.cond h49 rfl (fun e h50 => ?_) (fun e h50 => ?_)
        ·
         clear h48 h49
         subst e
         refine sr ?_
         refine mv ?_
         refine LV.call hS h50 (g11_ok _ _ _ _ ) hP rfl rfl rfl rfl fun x85_37 T15 n15 h51 ρ its hS => ?_
         refine sv (VAL.mkI rfl Vdf.ni32) ?_
         refine as_ ?_
         refine as_ ?_
         refine dn ?_
         refine CV.ret ?_
         refine PV.blockR ?_
         refine PV.thenR ?_
         cases h51
         exact PV.ret (by simp) Tryz.results90 hS (RS.tmp rfl (RS.tmp rfl RS.nil)) rfl
        ·
         clear h48 h49
         subst e
         refine sr ?_
         refine vy (V.eq h50 rfl rfl) fun x88_38 h52 => ?_
         refine as_ ?_
         refine dn ?_
         refine CV.cond h52 rfl (fun e h53 => ?_) (fun e h53 => ?_)
         ·
          clear h50 h52
          subst e
          refine sr ?_
          refine mv ?_
          refine LV.call hS h53 (g10_ok _ _ _ _ ) hP rfl rfl rfl rfl fun x90_39 T16 n16 h54 ρ its hS => ?_
          refine as_ ?_
          refine as_ ?_
          refine dn ?_
          refine CV.ret ?_
          refine PV.blockR ?_
          refine PV.thenR ?_
          cases h54
          exact PV.ret (by simp) Tryz.results90 hS (RS.tmp rfl (RS.tmp rfl RS.nil)) rfl
         ·
          clear h50 h52
          subst e
          refine sr ?_
          refine vy (V.eq h53 rfl rfl) fun x92_40 h55 => ?_
          refine as_ ?_
          refine dn ?_
          refine CV.cond h55 rfl (fun e h56 => ?_) (fun e h56 => ?_)
          ·
           clear h53 h55
           subst e
           refine sr ?_
           refine mv ?_
           refine LV.call hS h56 (g126_ok _ _ _ _ ) hP rfl rfl rfl rfl fun x94_41 T17 n17 h57 ρ its hS => ?_
           refine vy (V.ex h57 rfl) fun x95_42 h58 => ?_
           refine vy (V.ex h58 rfl) fun x96_43 h59 => ?_
           refine as_ ?_
           refine as_ ?_
           refine dn ?_
           refine CV.ret ?_
           refine PV.blockR ?_
           refine PV.thenR ?_
           cases h59
           exact PV.ret (by simp) Tryz.results90 hS (RS.tmp rfl (RS.tmp rfl RS.nil)) rfl
          ·
           clear h53 h55
           subst e
           refine CV.skip ?_
           refine PV.blockN ?_
           refine PV.thenN ?_
           refine sr ?_
           refine LV.call hS h56 (g17_ok _ _ _ ) hP rfl rfl rfl rfl fun x97_44 T18 n18 h60 ρ its hS => ?_
           refine as_ ?_
           refine as_ ?_
           refine dn ?_
           refine CV.ret ?_
           cases h60
           exact PV.ret (by simp) Tryz.results90 hS (RS.tmp rfl (RS.tmp rfl RS.nil)) rfl
noncomputable def ap5 (ih : FuncId → List HT → List AV → HT → Nat → R) (f : FuncId) (ro : List HT) (args : List AV) (T : HT) (nx : Nat) : R :=
  Bool.rec (motive := fun _ => R) (.bad 2) (List.rec (motive := fun _ => R) (.bad 1) (fun a0 l0 _ => List.rec (motive := fun _ => R) (.bad 1) (fun a1 l1 _ => List.rec (motive := fun _ => R) (g90 ih ro a0 a1 T nx) (fun _ _ _ => .bad 1) l1) l0) args) (Nat.beq f 90)
noncomputable def scc5 (fuel : Nat) : FuncId → List HT → List AV → HT → Nat → R :=
  Nat.rec (motive := fun _ => FuncId → List HT → List AV → HT → Nat → R) (fun _ _ _ _ _ => .bad 3) (fun _ ih => ap5 ih) fuel
theorem ap5_ok (ih : FuncId → List HT → List AV → HT → Nat → R) (hI : ∀ f ro args T nx, GOk Tryz.prog envE f args ro T nx (ih f ro args T nx)) (f : FuncId) (ro : List HT) (args : List AV) (T : HT) (nx : Nat) : GOk Tryz.prog envE f args ro T nx (ap5 ih f ro args T nx) := by
  unfold ap5
  refine recb_go (fun hb => ?_) (fun _ => ?_)
  · obtain rfl := beqT hb
    rcases args with _ | ⟨a0, l0⟩
    · exact GOk.bad
    rcases l0 with _ | ⟨a1, l1⟩
    · exact GOk.bad
    rcases l1 with _ | ⟨_, _⟩
    · exact g90_ok _ hI _ _ _ _ _ 
    · exact GOk.bad
  · exact GOk.bad
theorem scc5_ok : ∀ (fuel : Nat) (f : FuncId) (ro : List HT) (args : List AV) (T : HT) (nx : Nat), GOk Tryz.prog envE f args ro T nx (scc5 fuel f ro args T nx)
  | 0, _, _, _, _, _ => GOk.bad
  | fuel + 1, f, ro, args, T, nx => ap5_ok (scc5 fuel) (scc5_ok fuel) f ro args T nx
noncomputable def g50 (ro : List HT) (a0 : AV) (T : HT) (nx : Nat) : R :=
 lenSK 500004 a0 fun x7_1 =>
 callK (g88 ro a0 T nx) fun x9_2 T1 n1 =>
 subK Tryz.prog 3 (.tmp 10) (.const (.int .i64 (.ofNat 1))) 500009 x7_1 (.lit (.int .i64 (.ofNat 1))) fun x11_3 =>
 bsK 500010 T1 n1 1 3 1 [(0, x11_3)] fun x12_4 T2 n2 =>
 optK 500011 (bld172 [(0, (.lit (.int .i64 (.ofNat 35)))), (4, x12_4)]) fun x13_5 =>
 bsK 500013 T2 n2 1 3 1 [(0, x7_1)] fun x15_6 T3 n3 =>
 optK 500014 (bld172 [(0, (.lit (.int .i64 (.ofNat 47)))), (4, x15_6)]) fun x16_7 =>
 bsK 500015 T3 n3 2 172 5 [(0, x13_5), (1, x16_7)] fun x17_8 T4 n4 =>
 shrK 500017 T4 x9_2 fun T5 =>
 appEK 500016 T5 ro n4 172 5 64 x9_2 x17_8 fun x18_9 T6 n6 =>
 callK (g89 ro x18_9 T6 n6) fun x20_10 T7 n7 =>
 bin0 Tryz.prog .neq 36 (.tmp 20) (.const (.nilIface)) 500021 x20_10 (.lit (.nilIface)) fun x21_11 =>
 condK 500022 x21_11
 (
  .bad 500023
 )
 (
  subK Tryz.prog 3 (.tmp 24) (.const (.int .i64 (.ofNat 1))) 500026 x7_1 (.lit (.int .i64 (.ofNat 1))) fun x25_12 =>
  callK (scc5 4000 90 ro [a0, x25_12] T7 n7) fun x26_13 T8 n8 =>
  exK 500028 x26_13 0 fun x27_14 =>
  exK 500029 x26_13 1 fun x28_15 =>
  .ok (.val (.tup [x27_14, x28_15])) T8 n8
 )
theorem g50_ok (ro : List HT) (a0 : AV) (T : HT) (nx : Nat) : GOk Tryz.prog envE 50 [a0] ro T nx (g50 ro a0 T nx) := by
 refine GOk.of_body Tryz.func50 rfl Tryz.ntmps50 (by kernel_rfl) rfl fun r T' n' h1 w0 base ρ0 its hS hP => ?_
 have X : CtxW envE ρ0 ro r T' n' := trivial
 unfold g50 at h1
 refine sr ?_
 refine as_ ?_
 refine as_ ?_
 refine dn ?_
 refine sr ?_
 refine mv ?_
 refine vy (V.lenS h1 rfl Vdf.ls109) fun x7_1 h2 => ?_
 refine as_ ?_
 refine dn ?_
 refine sr ?_
 refine mv ?_
 refine LV.call hS h2 (g88_ok _ _ _ _ ) hP rfl rfl rfl rfl fun x9_2 T1 n1 h3 ρ its hS => ?_
 refine mv ?_
 refine vy (V.sub h3 rfl rfl) fun x11_3 h4 => ?_
 refine LV.bslice hS h4 rfl rfl Vdf.el170 rfl rfl rfl rfl fun x12_4 T2 n2 h5 ρ its hS hdr => ?_
 refine vy (V.bld h5 rfl) fun x13_5 h6 => ?_
 refine mv ?_
 refine LV.bslice hS h6 rfl rfl Vdf.el170 rfl rfl rfl rfl fun x15_6 T3 n3 h7 ρ its hS hdr => ?_
 refine vy (V.bld h7 rfl) fun x16_7 h8 => ?_
 refine LV.bslice hS h8 rfl rfl Vdf.el109 rfl rfl rfl rfl fun x17_8 T4 n4 h9 ρ its hS hdr => ?_
 obtain ⟨T5, its1, h10, hS, hW⟩ := shrK_inv hS h9
 refine LV.world hW ?_
 refine LV.appE hS h10 rfl rfl rfl rfl Vdf.el109 rfl rfl rfl fun x18_9 T6 n6 h11 ρ its hS => ?_
 refine as_ ?_
 refine dn ?_
 refine CV.seq ?_
 refine sr ?_
 refine mv ?_
 refine LV.call hS h11 (g89_ok _ _ _ _ ) hP rfl rfl rfl rfl fun x20_10 T7 n7 h12 ρ its hS => ?_
 refine vy (V.bin0 h12 rfl rfl) fun x21_11 h13 => ?_
 refine dn ?_
 refine CV.cond h13 rfl (fun e h14 => ?_) (fun e h14 => ?_)
 ·
  clear h1 h2 h3 h4 h5 h6 h7 h8 h9 h10 h11 h12 h13
  subst e
  cases h14
 ·
  clear h1 h2 h3 h4 h5 h6 h7 h8 h9 h10 h11 h12 h13
  subst e
  refine CV.skip ?_
  refine PV.thenN ?_
  refine sr ?_
  refine mv ?_
  refine mv ?_
  refine vy (V.sub h14 rfl rfl) fun x25_12 h15 => ?_
  refine LV.call hS h15 (scc5_ok _ _ _ _ _ _) hP rfl rfl rfl rfl fun x26_13 T8 n8 h16 ρ its hS => ?_
  refine vy (V.ex h16 rfl) fun x27_14 h17 => ?_
  refine vy (V.ex h17 rfl) fun x28_15 h18 => ?_
  refine as_ ?_
  refine as_ ?_
  refine dn ?_
  refine CV.ret ?_
  cases h18
  exact PV.ret (by simp) Tryz.results50 hS (RS.tmp rfl (RS.tmp rfl RS.nil)) rfl
noncomputable def g29 (ro : List HT) (a0 : AV) (T : HT) (nx : Nat) : R :=
 callK (g49 ro a0 T nx) fun x10_1 T1 n1 =>
 exK 290006 x10_1 0 fun x11_2 =>
 exK 290007 x10_1 1 fun x12_3 =>
 bin0 Tryz.prog .neq 36 (.tmp 13) (.const (.nilIface)) 290011 x12_3 (.lit (.nilIface)) fun x14_4 =>
 condK 290012 x14_4
 (
  .bad 290013
 )
 (
  callK (g50 ro x11_2 T1 n1) fun x17_5 T2 n2 =>
  exK 290017 x17_5 0 fun x18_6 =>
  exK 290018 x17_5 1 fun x19_7 =>
  bin0 Tryz.prog .eql 36 (.tmp 21) (.const (.nilIface)) 290023 x19_7 (.lit (.nilIface)) fun x22_8 =>
  condK 290025 x22_8
  (
   bin0 Tryz.prog .neq 25 (.tmp 24) (.const (.nilIface)) 290027 x18_6 (.lit (.nilIface)) fun x25_9 =>
   .ok (.val (.tup [x18_6, x25_9])) T2 n2
  )
  (
   .ok (.val (.tup [x18_6, (.lit (.bool false))])) T2 n2
  )
 )
theorem g29_ok (ro : List HT) (a0 : AV) (T : HT) (nx : Nat) : GOk Tryz.prog envE 29 [a0] ro T nx (g29 ro a0 T nx) := by
 refine GOk.of_body Tryz.func29 rfl Tryz.ntmps29 (by kernel_rfl) rfl fun r T' n' h1 w0 base ρ0 its hS hP => ?_
 have X : CtxW envE ρ0 ro r T' n' := trivial
 unfold g29 at h1
 refine sr ?_
 refine as_ ?_
 refine as_ ?_
 refine dn ?_
 refine sr ?_
 refine mv ?_
 refine LV.call hS h1 (g49_ok _ _ _ _ ) hP rfl rfl rfl rfl fun x10_1 T1 n1 h2 ρ its hS => ?_
 refine mv ?_
 refine vy (V.ex h2 rfl) fun x11_2 h3 => ?_
 refine vy (V.ex h3 rfl) fun x12_3 h4 => ?_
 refine as_ ?_
 refine as_ ?_
 refine dn ?_
 refine CV.seq ?_
 refine sr ?_
 refine mv ?_
 refine vy (V.bin0 h4 rfl rfl) fun x14_4 h5 => ?_
 refine dn ?_
 refine CV.cond h5 rfl (fun e h6 => ?_) (fun e h6 => ?_)
 ·
  clear h1 h2 h3 h4 h5
  subst e
  cases h6
 ·
  clear h1 h2 h3 h4 h5
  subst e
  refine CV.skip ?_
  refine PV.thenN ?_
  refine sr ?_
  refine mv ?_
  refine LV.call hS h6 (g50_ok _ _ _ _ ) hP rfl rfl rfl rfl fun x17_5 T2 n2 h7 ρ its hS => ?_
  refine mv ?_
  refine vy (V.ex h7 rfl) fun x18_6 h8 => ?_
  refine vy (V.ex h8 rfl) fun x19_7 h9 => ?_
  refine as_ ?_
  refine as_ ?_
  refine dn ?_
  refine CV.seq ?_
  refine CV.regionM [(0, .anywhere), (1, .anywhere), (2, .anywhere), (3, .anywhere), (4, .anywhere), (5, .anywhere), (6, .anywhere), (7, .anywhere), (8, .anywhere)] rfl (fun c a a' w hd hq => PanicOk.root (P := Tryz.prog) (fn := Tryz.f29) (w0 := w0) (base := base) (E := envE) (ro := ro) (r := r) (T' := T') (n' := n') (ρ0 := ρ0) c a a' w hd hq) (by kernel_rfl) ?_
  refine MV.step0 (i := 0) rfl (VAL.move rfl) rfl rfl rfl ?_
  refine MV.step0 (i := 1) rfl (VAL.move rfl) rfl rfl rfl ?_
  refine MV.lift0 (i := 2) rfl (V.bin0 h9 rfl rfl) rfl rfl rfl fun x22_8 h10 => ?_
  refine MV.step0 (i := 3) rfl (VAL.move rfl) rfl rfl rfl ?_
  rcases condK_inv h10 with ⟨e, h11⟩ | ⟨e, h11⟩
  ·
   clear h6 h7 h8 h9 h10
   subst e
   refine MV.step0 (i := 4) rfl (VAL.move rfl) rfl rfl rfl ?_
   refine MV.lift0 (i := 5) rfl (V.bin0 h11 rfl rfl) rfl rfl rfl fun x25_9 h12 => ?_
   refine MV.step0 (i := 6) rfl (VAL.pure rfl) rfl rfl rfl ?_
   refine MV.step0 (i := 7) rfl (VAL.assign rfl) rfl rfl rfl ?_
   refine MV.step0 (i := 8) rfl (VAL.assign rfl) rfl rfl rfl ?_
   refine mdn ?_
   refine CV.ret ?_
   cases h12
   exact PV.ret (by simp) Tryz.results29 hS (RS.tmp rfl (RS.tmp rfl RS.nil)) rfl
  ·
   clear h6 h7 h8 h9 h10
   subst e
   refine MV.skip0 (i := 4) rfl rfl rfl rfl ?_
   refine MV.skip0 (i := 5) rfl rfl rfl rfl ?_
   refine MV.step0 (i := 6) rfl (VAL.pure rfl) rfl rfl rfl ?_
   refine MV.step0 (i := 7) rfl (VAL.assign rfl) rfl rfl rfl ?_
   refine MV.step0 (i := 8) rfl (VAL.assign rfl) rfl rfl rfl ?_
   refine mdn ?_
   refine CV.ret ?_
   cases h11
   exact PV.ret (by simp) Tryz.results29 hS (RS.tmp rfl (RS.tmp rfl RS.nil)) rfl
noncomputable def g60_k1 (ro : List HT) (y20 : AV) (T2 : HT) (n2 : Nat) : R :=
 condK 600011 y20
 (
  .ok (.val (.iface 347 (.opq 7))) T2 n2
 )
 (
  .ok (.val (.lit (.nilIface))) T2 n2
 )
noncomputable def g60 (ro : List HT) (a0 a1 : AV) (T : HT) (nx : Nat) : R :=
 fldK 600003 T ro a0 0 fun x8_1 =>
 subK Tryz.prog 3 (.tmp 8) (.const (.int .i64 (.ofNat 1))) 600004 x8_1 (.lit (.int .i64 (.ofNat 1))) fun x9_2 =>
 faK 600005 a0 0 fun x11_3 =>
 stK 600006 T x11_3 x9_2 fun T1 =>
 fldK 600008 T1 ro a0 0 fun x15_4 =>
 ltK Tryz.prog 3 (.tmp 15) (.const (.int .i64 (.ofNat 0))) 600009 x15_4 (.lit (.int .i64 (.ofNat 0))) fun x16_5 =>
 condK 600015 x16_5
 (
  g60_k1 ro (.lit (.bool true)) T1 nx
 )
 (
  gtK Tryz.prog 3 (.tmp 18) (.const (.int .i64 (.ofNat 60))) 600018 a1 (.lit (.int .i64 (.ofNat 60))) fun x19_6 =>
  g60_k1 ro x19_6 T1 nx
 )
theorem g60_ok (ro : List HT) (a0 a1 : AV) (T : HT) (nx : Nat) : GOk Tryz.prog envE 60 [a0, a1] ro T nx (g60 ro a0 a1 T nx) := by
 refine GOk.of_body Tryz.func60 rfl Tryz.ntmps60 (by kernel_rfl) rfl fun r T' n' h1 w0 base ρ0 its hS hP => ?_
 have X : CtxW envE ρ0 ro r T' n' := trivial
 unfold g60 at h1
 refine sr ?_
 refine as_ ?_
 refine dn ?_
 refine CV.seq ?_
 refine sr ?_
 refine mv ?_
 refine fl hS h1 Vdf.fo85_0 Vdf.one3 fun x8_1 h2 => ?_
 refine vy (V.sub h2 rfl rfl) fun x9_2 h3 => ?_
 refine fa2 h3 Vdf.fo85_0 fun x11_3 h4 => ?_
 refine LV.st hS h4 rfl rfl rfl Vdf.siz3 rfl rfl fun T1 its h5 hS => ?_
 refine dn ?_
 refine sr ?_
 refine mv ?_
 refine fl hS h5 Vdf.fo85_0 Vdf.one3 fun x15_4 h6 => ?_
 refine vy (V.lt h6 rfl rfl) fun x16_5 h7 => ?_
 refine mv ?_
 refine ls1 X 20 [(4, (.lit (.nilIface)))] (g60_k1 ro) 3 ?_ ?_
 ·
  rcases condK_inv h7 with ⟨e, h10⟩ | ⟨e, h10⟩
  ·
   clear h1 h2 h3 h4 h5 h6 h7
   subst e
   refine sk ?_
   refine sk ?_
   refine pu ?_
   exact la1 hS h10 ⟨rfl, rfl, trivial⟩
  ·
   clear h1 h2 h3 h4 h5 h6 h7
   subst e
   refine mv ?_
   refine vy (V.gt h10 rfl rfl) fun x19_6 h11 => ?_
   refine pu ?_
   exact la1 hS h11 ⟨rfl, rfl, trivial⟩
 ·
  intro y20 T2 n2 ρ its hS h8
  unfold g60_k1 at h8
  clear h1 h2 h3 h4 h5 h6 h7
  refine dn ?_
  refine CV.cond h8 rfl (fun e h9 => ?_) (fun e h9 => ?_)
  ·
   clear h8
   subst e
   refine sr ?_
   refine sv (VAL.ldG hS (by rfl) Vdf.one36) ?_
   refine as_ ?_
   refine dn ?_
   refine CV.ret ?_
   refine PV.thenR ?_
   cases h9
   exact PV.ret (by simp) Tryz.results60 hS (RS.tmp rfl RS.nil) rfl
  ·
   clear h8
   subst e
   refine CV.skip ?_
   refine PV.thenN ?_
   refine sr ?_
   refine as_ ?_
   refine dn ?_
   refine CV.ret ?_
   cases h9
   exact PV.ret (by simp) Tryz.results60 hS (RS.tmp rfl RS.nil) rfl
noncomputable def g95_k1 (ro : List HT) (y10 : AV) (T1 : HT) (n1 : Nat) : R :=
 condK 950005 y10
 (
  .bad 950006
 )
 (
  .ok (.val (.lit (.nilIface))) T1 n1
 )
noncomputable def g95 (ro : List HT) (a0 a1 : AV) (T : HT) (nx : Nat) : R :=
 eqK Tryz.prog 3 (.tmp 5) (.const (.int .i64 (.ofNat 0))) 950003 a0 (.lit (.int .i64 (.ofNat 0))) fun x6_1 =>
 condK 950008 x6_1
 (
  geK Tryz.prog 3 (.tmp 8) (.const (.int .i64 (.ofNat 60))) 950010 a1 (.lit (.int .i64 (.ofNat 60))) fun x9_2 =>
  g95_k1 ro x9_2 T nx
 )
 (
  g95_k1 ro (.lit (.bool false)) T nx
 )
theorem g95_ok (ro : List HT) (a0 a1 : AV) (T : HT) (nx : Nat) : GOk Tryz.prog envE 95 [a0, a1] ro T nx (g95 ro a0 a1 T nx) := by
 refine GOk.of_body Tryz.func95 rfl Tryz.ntmps95 (by kernel_rfl) rfl fun r T' n' h1 w0 base ρ0 its hS hP => ?_
 have X : CtxW envE ρ0 ro r T' n' := trivial
 unfold g95 at h1
 refine sr ?_
 refine as_ ?_
 refine dn ?_
 refine CV.seq ?_
 refine sr ?_
 refine mv ?_
 refine vy (V.eq h1 rfl rfl) fun x6_1 h2 => ?_
 refine mv ?_
 refine ls1 X 10 [(4, (.lit (.nilIface)))] (g95_k1 ro) 3 ?_ ?_
 ·
  rcases condK_inv h2 with ⟨e, h5⟩ | ⟨e, h5⟩
  ·
   clear h1 h2
   subst e
   refine mv ?_
   refine vy (V.ge h5 rfl rfl) fun x9_2 h6 => ?_
   refine pu ?_
   exact la1 hS h6 ⟨rfl, rfl, trivial⟩
  ·
   clear h1 h2
   subst e
   refine sk ?_
   refine sk ?_
   refine pu ?_
   exact la1 hS h5 ⟨rfl, rfl, trivial⟩
 ·
  intro y10 T1 n1 ρ its hS h3
  unfold g95_k1 at h3
  clear h1 h2
  refine dn ?_
  refine CV.cond h3 rfl (fun e h4 => ?_) (fun e h4 => ?_)
  ·
   clear h3
   subst e
   cases h4
  ·
   clear h3
   subst e
   refine CV.skip ?_
   refine PV.thenN ?_
   refine sr ?_
   refine as_ ?_
   refine dn ?_
   refine CV.ret ?_
   cases h4
   exact PV.ret (by simp) Tryz.results95 hS (RS.tmp rfl RS.nil) rfl
noncomputable def g64_b1 (ro : List HT) (lp1 : AV → AV → AV → AV → AV → HT → Nat → R) (y0 y1 y4 y12 y13 : AV) (T1 : HT) (n1 : Nat) : R :=
 ltK Tryz.prog 3 (.tmp 13) (.tmp 12) 640013 y13 y12 fun x14_5 =>
 condK 640014 x14_5
 (
  iaK 640019 y0 y13 1 fun x18_6 =>
  ldK 640020 T1 ro x18_6 fun x19_7 =>
  iaK 640023 y1 y13 1 fun x22_8 =>
  ldK 640024 T1 ro x22_8 fun x23_9 =>
  neSK Tryz.prog 9 (.tmp 19) (.tmp 23) 640025 x19_7 x23_9 fun x24_10 =>
  condK 640026 x24_10
  (
   .bad 640027
  )
  (
   addK Tryz.prog 3 (.tmp 13) (.const (.int .i64 (.ofNat 1))) 640028 y13 (.lit (.int .i64 (.ofNat 1))) fun x25_11 =>
   lp1 y0 y1 y4 y12 x25_11 T1 n1
  )
 )
 (
  .ok (.val (.lit (.bool true))) T1 n1
 )
noncomputable def g64 (ro : List HT) (a0 a1 : AV) (T : HT) (nx : Nat) : R :=
 lenSK 640003 a0 fun x7_1 =>
 lenSK 640005 a1 fun x9_2 =>
 neK Tryz.prog 3 (.tmp 7) (.tmp 9) 640006 x7_1 x9_2 fun x10_3 =>
 condK 640007 x10_3
 (
  .bad 640008
 )
 (
  lenSK 640010 a0 fun x12_4 =>
  lpf5 640012 (g64_b1 ro) 100000 a0 a1 (.lit (.bool false)) x12_4 (.lit (.int .i64 (.ofNat 0))) T nx
 )
theorem g64_ok (ro : List HT) (a0 a1 : AV) (T : HT) (nx : Nat) : GOk Tryz.prog envE 64 [a0, a1] ro T nx (g64 ro a0 a1 T nx) := by
 refine GOk.of_body Tryz.func64 rfl Tryz.ntmps64 (by kernel_rfl) rfl fun r T' n' h1 w0 base ρ0 its hS hP => ?_
 have X : CtxW envE ρ0 ro r T' n' := trivial
 unfold g64 at h1
 refine sr ?_
 refine as_ ?_
 refine dn ?_
 refine CV.seq ?_
 refine sr ?_
 refine mv ?_
 refine vy (V.lenS h1 rfl Vdf.ls54) fun x7_1 h2 => ?_
 refine mv ?_
 refine vy (V.lenS h2 rfl Vdf.ls54) fun x9_2 h3 => ?_
 refine vy (V.ne h3 rfl rfl) fun x10_3 h4 => ?_
 refine dn ?_
 refine CV.cond h4 rfl (fun e h5 => ?_) (fun e h5 => ?_)
 ·
  clear h1 h2 h3 h4
  subst e
  cases h5
 ·
  clear h1 h2 h3 h4
  subst e
  refine CV.skip ?_
  refine PV.thenN ?_
  refine CV.seq ?_
  refine sr ?_
  refine mv ?_
  refine vy (V.lenS h5 rfl Vdf.ls54) fun x12_4 h6 => ?_
  refine mv ?_
  refine dn ?_
  refine CV.block ?_
  refine cl5 X 0 1 4 12 13 [] hS h6 ⟨rfl, rfl, rfl, rfl, rfl, trivial⟩ ?_
  intro f1 y0 y1 y4 y12 y13 T1 n1 ρ its hS h7
  unfold g64_b1 at h7
  clear h5 h6
  refine sr ?_
  refine vy (V.lt h7 rfl rfl) fun x14_5 h8 => ?_
  refine dn ?_
  refine CV.seq ?_
  refine CV.cond h8 rfl (fun e h9 => ?_) (fun e h9 => ?_)
  ·
   clear h7 h8
   subst e
   refine CV.skip ?_
   refine PV.thenN ?_
   refine CV.seq ?_
   refine CV.block ?_
   refine sr ?_
   refine mv ?_
   refine as_ ?_
   refine dn ?_
   refine CV.seq ?_
   refine CV.regionM [(0, .anywhere), (1, .anywhere), (2, .anywhere), (3, .held), (4, .anywhere), (5, .anywhere), (6, .anywhere), (7, .held), (8, .held)] rfl (fun c a a' w hd hq => PanicOk.root (P := Tryz.prog) (fn := Tryz.f64) (w0 := w0) (base := base) (E := envE) (ro := ro) (r := r) (T' := T') (n' := n') (ρ0 := ρ0) c a a' w hd hq) (by kernel_rfl) ?_
   refine MV.step0 (i := 0) rfl (VAL.move rfl) rfl rfl rfl ?_
   refine MV.step0 (i := 1) rfl (VAL.move rfl) rfl rfl rfl ?_
   refine MV.lift0 (i := 2) rfl (V.ia h9 rfl rfl Vdf.el54) rfl rfl rfl fun x18_6 h10 => ?_
   refine MV.lift1 (i := 3) rfl (fun _ z => z) (V.ld hS h10 rfl Vdf.one9) rfl rfl rfl [] (by kernel_rfl) fun x19_7 h11 => ?_
   refine MV.step0 (i := 4) rfl (VAL.move rfl) rfl rfl rfl ?_
   refine MV.step0 (i := 5) rfl (VAL.move rfl) rfl rfl rfl ?_
   refine MV.lift0 (i := 6) rfl (V.ia h11 rfl rfl Vdf.el54) rfl rfl rfl fun x22_8 h12 => ?_
   refine MV.lift1 (i := 7) rfl (fun _ z => z) (V.ld hS h12 rfl Vdf.one9) rfl rfl rfl [3] (by kernel_rfl) fun x23_9 h13 => ?_
   refine MV.lift1 (i := 8) rfl (fun _ z => z) (V.neS h13 rfl rfl) rfl rfl rfl [] (by kernel_rfl) fun x24_10 h14 => ?_
   refine mdn ?_
   refine CV.cond h14 rfl (fun e h15 => ?_) (fun e h15 => ?_)
   ·
    clear h9 h10 h11 h12 h13 h14
    subst e
    cases h15
   ·
    clear h9 h10 h11 h12 h13 h14
    subst e
    refine CV.skip ?_
    refine PV.blockN ?_
    refine PV.thenN ?_
    refine CV.region ?_
    refine vy (V.add h15 rfl rfl) fun x25_11 h16 => ?_
    refine mv ?_
    refine LV.done ?_
    exact pb5 hS h16 ⟨rfl, rfl, rfl, rfl, rfl, trivial⟩
  ·
   clear h7 h8
   subst e
   refine CV.exit ?_
   refine PV.thenE ?_
   refine PV.thenE ?_
   refine PV.blockE ?_
   refine PV.thenN ?_
   refine sr ?_
   refine as_ ?_
   refine dn ?_
   refine CV.ret ?_
   cases h9
   exact PV.ret (by simp) Tryz.results64 hS (RS.tmp rfl RS.nil) rfl
noncomputable def g65_k1 (ro : List HT) (y47 : AV) (T17 : HT) (n17 : Nat) : R :=
 .ok (.val y47) T17 n17
noncomputable def g65_k2 (ro : List HT) (y46 : AV) (T19 : HT) (n19 : Nat) : R :=
 g65_k1 ro y46 T19 n19
noncomputable def g65_k3 (ro : List HT) (y45 : AV) (T20 : HT) (n20 : Nat) : R :=
 g65_k2 ro y45 T20 n20
noncomputable def g65 (ro : List HT) (a0 a1 : AV) (T : HT) (nx : Nat) : R :=
 callK (ifcK 650003 a0 fun tr xr => .bad 650003) fun x13_1 T1 n1 =>
 callK (ifcK 650007 a1 fun tr xr => .bad 650007) fun x16_2 T2 n2 =>
 neK Tryz.prog 2 (.tmp 14) (.tmp 16) 650008 x13_1 x16_2 fun x17_3 =>
 condK 650009 x17_3
 (
  .bad 650010
 )
 (
  callK (ifcK 650012 a0 fun tr xr => .bad 650012) fun x20_4 T3 n3 =>
  exK 650014 x20_4 0 fun x21_5 =>
  exK 650015 x20_4 1 fun x22_6 =>
  exK 650016 x20_4 2 fun x23_7 =>
  newK T3 n3 (.obj [.lit (.bool false), .lit (.slice none 0 0)] 29) fun x6_8 T4 n4 =>
  newK T4 n4 (.obj [.lit (.bool false), .lit (.slice none 0 0)] 29) fun x7_9 T5 n5 =>
  newK T5 n5 (.obj [.lit (.bool false), .lit (.slice none 0 0)] 29) fun x8_10 T6 n6 =>
  stAK 650020 T6 x6_8 x21_5 2 fun T7 =>
  stAK 650021 T7 x7_9 x22_6 2 fun T8 =>
  stAK 650022 T8 x8_10 x23_7 2 fun T9 =>
  callK (ifcK 650024 a1 fun tr xr => .bad 650024) fun x26_11 T10 n10 =>
  exK 650026 x26_11 0 fun x27_12 =>
  exK 650027 x26_11 1 fun x28_13 =>
  exK 650028 x26_11 2 fun x29_14 =>
  newK T10 n10 (.obj [.lit (.bool false), .lit (.slice none 0 0)] 29) fun x9_15 T11 n11 =>
  newK T11 n11 (.obj [.lit (.bool false), .lit (.slice none 0 0)] 29) fun x10_16 T12 n12 =>
  newK T12 n12 (.obj [.lit (.bool false), .lit (.slice none 0 0)] 29) fun x11_17 T13 n13 =>
  stAK 650032 T13 x9_15 x27_12 2 fun T14 =>
  stAK 650033 T14 x10_16 x28_13 2 fun T15 =>
  stAK 650034 T15 x11_17 x29_14 2 fun T16 =>
  eqK Tryz.prog 2 (.tmp 30) (.const (.int .i64 (.ofNat 0))) 650036 x13_1 (.lit (.int .i64 (.ofNat 0))) fun x31_18 =>
  condK 650039 x31_18
  (
   g65_k1 ro (.lit (.bool true)) T16 n13
  )
  (
   ldAK 650041 T16 ro x6_8 2 fun x33_19 =>
   ldAK 650042 T16 ro x9_15 2 fun x34_20 =>
   callK (g61 ro x33_19 x34_20 T16 n13) fun x35_21 T18 n18 =>
   eqK Tryz.prog 3 (.tmp 35) (.const (.int .i64 (.ofNat 0))) 650044 x35_21 (.lit (.int .i64 (.ofNat 0))) fun x36_22 =>
   condK 650047 x36_22
   (
    eqK Tryz.prog 2 (.tmp 38) (.const (.int .i64 (.ofNat 1))) 650049 x13_1 (.lit (.int .i64 (.ofNat 1))) fun x39_23 =>
    condK 650052 x39_23
    (
     g65_k3 ro (.lit (.bool true)) T18 n18
    )
    (
     ldAK 650054 T18 ro x8_10 2 fun x41_24 =>
     ldAK 650055 T18 ro x11_17 2 fun x42_25 =>
     callK (g61 ro x41_24 x42_25 T18 n18) fun x43_26 T21 n21 =>
     eqK Tryz.prog 3 (.tmp 43) (.const (.int .i64 (.ofNat 0))) 650057 x43_26 (.lit (.int .i64 (.ofNat 0))) fun x44_27 =>
     g65_k3 ro x44_27 T21 n21
    )
   )
   (
    g65_k2 ro (.lit (.bool false)) T18 n18
   )
  )
 )
theorem g65_ok (ro : List HT) (a0 a1 : AV) (T : HT) (nx : Nat) : GOk Tryz.prog envE 65 [a0, a1] ro T nx (g65 ro a0 a1 T nx) := by
 refine GOk.of_body Tryz.func65 rfl Tryz.ntmps65 (by kernel_rfl) rfl fun r T' n' h1 w0 base ρ0 its hS hP => ?_
 have X : CtxW envE ρ0 ro r T' n' := trivial
 unfold g65 at h1
 refine sr ?_
 refine as_ ?_
 refine dn ?_
 refine sr ?_
 refine mv ?_
 refine LV.inv hS h1 (GMk.ifc fun tr xr _ => GMk.bad) hP rfl rfl rfl rfl rfl rfl rfl fun x13_1 T1 n1 h2 ρ its hS => ?_
 refine as_ ?_
 refine dn ?_
 refine CV.seq ?_
 refine sr ?_
 refine mv ?_
 refine mv ?_
 refine LV.inv hS h2 (GMk.ifc fun tr xr _ => GMk.bad) hP rfl rfl rfl rfl rfl rfl rfl fun x16_2 T2 n2 h3 ρ its hS => ?_
 refine vy (V.ne h3 rfl rfl) fun x17_3 h4 => ?_
 refine dn ?_
 refine CV.cond h4 rfl (fun e h5 => ?_) (fun e h5 => ?_)
 ·
  clear h1 h2 h3 h4
  subst e
  cases h5
 ·
  clear h1 h2 h3 h4
  subst e
  refine CV.skip ?_
  refine PV.thenN ?_
  refine sr ?_
  refine mv ?_
  refine LV.inv hS h5 (GMk.ifc fun tr xr _ => GMk.bad) hP rfl rfl rfl rfl rfl rfl rfl fun x20_4 T3 n3 h6 ρ its hS => ?_
  refine mv ?_
  refine vy (V.ex h6 rfl) fun x21_5 h7 => ?_
  refine vy (V.ex h7 rfl) fun x22_6 h8 => ?_
  refine vy (V.ex h8 rfl) fun x23_7 h9 => ?_
  refine LV.alloc hS h9 rfl Vdf.zr29 rfl rfl rfl fun x6_8 T4 n4 h10 ρ its hS hdr => ?_
  refine LV.alloc hS h10 rfl Vdf.zr29 rfl rfl rfl fun x7_9 T5 n5 h11 ρ its hS hdr => ?_
  refine LV.alloc hS h11 rfl Vdf.zr29 rfl rfl rfl fun x8_10 T6 n6 h12 ρ its hS hdr => ?_
  refine LV.stA hS h12 rfl rfl rfl Vdf.agg29 rfl rfl rfl fun T7 its h13 hS => ?_
  refine LV.stA hS h13 rfl rfl rfl Vdf.agg29 rfl rfl rfl fun T8 its h14 hS => ?_
  refine LV.stA hS h14 rfl rfl rfl Vdf.agg29 rfl rfl rfl fun T9 its h15 hS => ?_
  refine dn ?_
  refine sr ?_
  refine mv ?_
  refine LV.inv hS h15 (GMk.ifc fun tr xr _ => GMk.bad) hP rfl rfl rfl rfl rfl rfl rfl fun x26_11 T10 n10 h16 ρ its hS => ?_
  refine mv ?_
  refine vy (V.ex h16 rfl) fun x27_12 h17 => ?_
  refine vy (V.ex h17 rfl) fun x28_13 h18 => ?_
  refine vy (V.ex h18 rfl) fun x29_14 h19 => ?_
  refine LV.alloc hS h19 rfl Vdf.zr29 rfl rfl rfl fun x9_15 T11 n11 h20 ρ its hS hdr => ?_
  refine LV.alloc hS h20 rfl Vdf.zr29 rfl rfl rfl fun x10_16 T12 n12 h21 ρ its hS hdr => ?_
  refine LV.alloc hS h21 rfl Vdf.zr29 rfl rfl rfl fun x11_17 T13 n13 h22 ρ its hS hdr => ?_
  refine LV.stA hS h22 rfl rfl rfl Vdf.agg29 rfl rfl rfl fun T14 its h23 hS => ?_
  refine LV.stA hS h23 rfl rfl rfl Vdf.agg29 rfl rfl rfl fun T15 its h24 hS => ?_
  refine LV.stA hS h24 rfl rfl rfl Vdf.agg29 rfl rfl rfl fun T16 its h25 hS => ?_
  refine dn ?_
  refine sr ?_
  refine mv ?_
  refine vy (V.eq h25 rfl rfl) fun x31_18 h26 => ?_
  refine mv ?_
  refine ls1 X 47 [(4, (.lit (.bool false)))] (g65_k1 ro) 15 ?_ ?_
  ·
   rcases condK_inv h26 with ⟨e, h28⟩ | ⟨e, h28⟩
   ·
    clear h5 h6 h7 h8 h9 h10 h11 h12 h13 h14 h15 h16 h17 h18 h19 h20 h21 h22 h23 h24 h25 h26
    subst e
    refine sk ?_
    refine sk ?_
    refine sk ?_
    refine sk ?_
    refine sk ?_
    refine sk ?_
    refine sk ?_
    refine sk ?_
    refine sk ?_
    refine sk ?_
    refine sk ?_
    refine sk ?_
    refine sk ?_
    refine sk ?_
    refine pu ?_
    exact la1 hS h28 ⟨rfl, rfl, trivial⟩
   ·
    clear h5 h6 h7 h8 h9 h10 h11 h12 h13 h14 h15 h16 h17 h18 h19 h20 h21 h22 h23 h24 h25 h26
    subst e
    refine vy (V.ldA hS h28 rfl Vdf.agg29) fun x33_19 h29 => ?_
    refine vy (V.ldA hS h29 rfl Vdf.agg29) fun x34_20 h30 => ?_
    refine LV.call hS h30 (g61_ok _ _ _ _ _ ) hP rfl rfl rfl rfl fun x35_21 T18 n18 h31 ρ its hS => ?_
    refine vy (V.eq h31 rfl rfl) fun x36_22 h32 => ?_
    refine mv ?_
    refine ls1 X 46 [(4, (.lit (.bool false))), (32, (.lit (.bool false)))] (g65_k2 ro) 9 ?_ ?_
    ·
     rcases condK_inv h32 with ⟨e, h34⟩ | ⟨e, h34⟩
     ·
      clear h28 h29 h30 h31 h32
      subst e
      refine mv ?_
      refine vy (V.eq h34 rfl rfl) fun x39_23 h35 => ?_
      refine mv ?_
      refine ls1 X 45 [(4, (.lit (.bool false))), (32, (.lit (.bool false))), (37, (.lit (.bool true)))] (g65_k3 ro) 5 ?_ ?_
      ·
       rcases condK_inv h35 with ⟨e, h37⟩ | ⟨e, h37⟩
       ·
        clear h34 h35
        subst e
        refine sk ?_
        refine sk ?_
        refine sk ?_
        refine sk ?_
        refine pu ?_
        exact la1 hS h37 ⟨rfl, rfl, rfl, rfl, trivial⟩
       ·
        clear h34 h35
        subst e
        refine vy (V.ldA hS h37 rfl Vdf.agg29) fun x41_24 h38 => ?_
        refine vy (V.ldA hS h38 rfl Vdf.agg29) fun x42_25 h39 => ?_
        refine LV.call hS h39 (g61_ok _ _ _ _ _ ) hP rfl rfl rfl rfl fun x43_26 T21 n21 h40 ρ its hS => ?_
        refine vy (V.eq h40 rfl rfl) fun x44_27 h41 => ?_
        refine pu ?_
        exact la1 hS h41 ⟨rfl, rfl, rfl, rfl, trivial⟩
      ·
       intro y45 T20 n20 ρ its hS h36
       unfold g65_k3 at h36
       clear h34 h35
       refine pu ?_
       exact la1 hS h36 ⟨rfl, rfl, rfl, trivial⟩
     ·
      clear h28 h29 h30 h31 h32
      subst e
      refine sk ?_
      refine sk ?_
      refine sk ?_
      refine sk ?_
      refine sk ?_
      refine sk ?_
      refine sk ?_
      refine sk ?_
      refine pu ?_
      exact la1 hS h34 ⟨rfl, rfl, rfl, trivial⟩
    ·
     intro y46 T19 n19 ρ its hS h33
     unfold g65_k2 at h33
     clear h28 h29 h30 h31 h32
     refine pu ?_
     exact la1 hS h33 ⟨rfl, rfl, trivial⟩
  ·
   intro y47 T17 n17 ρ its hS h27
   unfold g65_k1 at h27
   clear h5 h6 h7 h8 h9 h10 h11 h12 h13 h14 h15 h16 h17 h18 h19 h20 h21 h22 h23 h24 h25 h26
   refine as_ ?_
   refine dn ?_
   refine CV.ret ?_
   cases h27
   exact PV.ret (by simp) Tryz.results65 hS (RS.tmp rfl RS.nil) rfl
noncomputable def g308 (ro : List HT) (a0 : AV) (T : HT) (nx : Nat) : R :=
 .ok (.val (.lit (.int .i64 (.ofNat 5)))) T nx
theorem g308_ok (ro : List HT) (a0 : AV) (T : HT) (nx : Nat) : GOk Tryz.prog envE 308 [a0] ro T nx (g308 ro a0 T nx) := by
 refine GOk.of_body Tryz.func308 rfl Tryz.ntmps308 (by kernel_rfl) rfl fun r T' n' h1 w0 base ρ0 its hS hP => ?_
 have X : CtxW envE ρ0 ro r T' n' := trivial
 unfold g308 at h1
 refine sr ?_
 refine as_ ?_
 refine dn ?_
 refine sr ?_
 refine as_ ?_
 refine dn ?_
 refine CV.ret ?_
 cases h1
 exact PV.ret (by simp) Tryz.results308 hS (RS.tmp rfl RS.nil) rfl
noncomputable def g310 (ro : List HT) (a0 : AV) (T : HT) (nx : Nat) : R :=
 .ok (.val (.lit (.int .i64 (.ofNat 7)))) T nx
theorem g310_ok (ro : List HT) (a0 : AV) (T : HT) (nx : Nat) : GOk Tryz.prog envE 310 [a0] ro T nx (g310 ro a0 T nx) := by
 refine GOk.of_body Tryz.func310 rfl Tryz.ntmps310 (by kernel_rfl) rfl fun r T' n' h1 w0 base ρ0 its hS hP => ?_
 have X : CtxW envE ρ0 ro r T' n' := trivial
 unfold g310 at h1
 refine sr ?_
 refine as_ ?_
 refine dn ?_
 refine sr ?_
 refine as_ ?_
 refine dn ?_
 refine CV.ret ?_
 cases h1
 exact PV.ret (by simp) Tryz.results310 hS (RS.tmp rfl RS.nil) rfl
noncomputable def g311 (ro : List HT) (a0 : AV) (T : HT) (nx : Nat) : R :=
 boxK 3110001 T nx a0 67 fun x1_1 T1 n1 =>
 .ok (.val (.lit (.int .i64 (.ofNat 3)))) T1 n1
theorem g311_ok (ro : List HT) (a0 : AV) (T : HT) (nx : Nat) : GOk Tryz.prog envE 311 [a0] ro T nx (g311 ro a0 T nx) := by
 refine GOk.of_body Tryz.func311 rfl Tryz.ntmps311 (by kernel_rfl) rfl fun r T' n' h1 w0 base ρ0 its hS hP => ?_
 have X : CtxW envE ρ0 ro r T' n' := trivial
 unfold g311 at h1
 refine sr ?_
 refine LV.box hS h1 rfl rfl rfl rfl rfl fun x1_1 T1 n1 h2 ρ its hS hdr => ?_
 refine as_ ?_
 refine dn ?_
 refine sr ?_
 refine as_ ?_
 refine dn ?_
 refine CV.ret ?_
 cases h2
 exact PV.ret (by simp) Tryz.results311 hS (RS.tmp rfl RS.nil) rfl
noncomputable def g312 (ro : List HT) (a0 : AV) (T : HT) (nx : Nat) : R :=
 .ok (.val (.lit (.int .i64 (.ofNat 6)))) T nx
theorem g312_ok (ro : List HT) (a0 : AV) (T : HT) (nx : Nat) : GOk Tryz.prog envE 312 [a0] ro T nx (g312 ro a0 T nx) := by
 refine GOk.of_body Tryz.func312 rfl Tryz.ntmps312 (by kernel_rfl) rfl fun r T' n' h1 w0 base ρ0 its hS hP => ?_
 have X : CtxW envE ρ0 ro r T' n' := trivial
 unfold g312 at h1
 refine sr ?_
 refine as_ ?_
 refine dn ?_
 refine sr ?_
 refine as_ ?_
 refine dn ?_
 refine CV.ret ?_
 cases h1
 exact PV.ret (by simp) Tryz.results312 hS (RS.tmp rfl RS.nil) rfl
noncomputable def g313 (ro : List HT) (a0 : AV) (T : HT) (nx : Nat) : R :=
 boxK 3130001 T nx a0 100 fun x1_1 T1 n1 =>
 .ok (.val (.lit (.int .i64 (.ofNat 1)))) T1 n1
theorem g313_ok (ro : List HT) (a0 : AV) (T : HT) (nx : Nat) : GOk Tryz.prog envE 313 [a0] ro T nx (g313 ro a0 T nx) := by
 refine GOk.of_body Tryz.func313 rfl Tryz.ntmps313 (by kernel_rfl) rfl fun r T' n' h1 w0 base ρ0 its hS hP => ?_
 have X : CtxW envE ρ0 ro r T' n' := trivial
 unfold g313 at h1
 refine sr ?_
 refine LV.box hS h1 rfl rfl rfl rfl rfl fun x1_1 T1 n1 h2 ρ its hS hdr => ?_
 refine as_ ?_
 refine dn ?_
 refine sr ?_
 refine as_ ?_
 refine dn ?_
 refine CV.ret ?_
 cases h2
 exact PV.ret (by simp) Tryz.results313 hS (RS.tmp rfl RS.nil) rfl
noncomputable def g314 (ro : List HT) (a0 : AV) (T : HT) (nx : Nat) : R :=
 .ok (.val (.lit (.int .i64 (.ofNat 4)))) T nx
theorem g314_ok (ro : List HT) (a0 : AV) (T : HT) (nx : Nat) : GOk Tryz.prog envE 314 [a0] ro T nx (g314 ro a0 T nx) := by
 refine GOk.of_body Tryz.func314 rfl Tryz.ntmps314 (by kernel_rfl) rfl fun r T' n' h1 w0 base ρ0 its hS hP => ?_
 have X : CtxW envE ρ0 ro r T' n' := trivial
 unfold g314 at h1
 refine sr ?_
 refine as_ ?_
 refine dn ?_
 refine sr ?_
 refine as_ ?_
 refine dn ?_
 refine CV.ret ?_
 cases h1
 exact PV.ret (by simp) Tryz.results314 hS (RS.tmp rfl RS.nil) rfl
noncomputable def g34 (ih : FuncId → List HT → List AV → HT → Nat → R) (ro : List HT) (a0 a1 a2 a3 : AV) (T : HT) (nx : Nat) : R :=
 callK (g60 ro a0 a3 T nx) fun x23_1 T1 n1 =>
 bin0 Tryz.prog .neq 36 (.tmp 24) (.const (.nilIface)) 340008 x23_1 (.lit (.nilIface)) fun x25_2 =>
 condK 340009 x25_2
 (
  .ok (.val (.tup [(.lit (.bool false)), x23_1])) T1 n1
 )
 (
  callK (ifcK 340014 a1 fun tr xr => Bool.rec (motive := fun _ => R) (Bool.rec (motive := fun _ => R) (Bool.rec (motive := fun _ => R) (Bool.rec (motive := fun _ => R) (Bool.rec (motive := fun _ => R) (Bool.rec (motive := fun _ => R) (.bad 340014) (g314 ro xr T1 n1) (Nat.beq tr 104)) (g313 ro xr T1 n1) (Nat.beq tr 100)) (g312 ro xr T1 n1) (Nat.beq tr 72)) (g311 ro xr T1 n1) (Nat.beq tr 67)) (g310 ro xr T1 n1) (Nat.beq tr 43)) (g308 ro xr T1 n1) (Nat.beq tr 32)) fun x28_3 T2 n2 =>
  callK (ifcK 340016 a2 fun tr xr => Bool.rec (motive := fun _ => R) (Bool.rec (motive := fun _ => R) (Bool.rec (motive := fun _ => R) (Bool.rec (motive := fun _ => R) (Bool.rec (motive := fun _ => R) (Bool.rec (motive := fun _ => R) (.bad 340016) (g314 ro xr T2 n2) (Nat.beq tr 104)) (g313 ro xr T2 n2) (Nat.beq tr 100)) (g312 ro xr T2 n2) (Nat.beq tr 72)) (g311 ro xr T2 n2) (Nat.beq tr 67)) (g310 ro xr T2 n2) (Nat.beq tr 43)) (g308 ro xr T2 n2) (Nat.beq tr 32)) fun x30_4 T3 n3 =>
  neK Tryz.prog 3 (.tmp 28) (.tmp 30) 340017 x28_3 x30_4 fun x31_5 =>
  condK 340018 x31_5
  (
   .bad 340019
  )
  (
   asK 340021 a1 100 (.tup [.lit (.agg #[]), .lit (.bool false)]) fun x33_6 =>
   exK 340022 x33_6 1 fun x34_7 =>
   exK 340023 x33_6 0 fun x35_8 =>
   condK 340024 x34_7
   (
    newK T3 n3 (.obj [] 100) fun x11_9 T4 n4 =>
    st0K 340026 x11_9 x35_8 <|
    .ok (.val (.tup [(.lit (.bool true)), (.lit (.nilIface))])) T4 n4
   )
   (
    asK 340029 a1 123 (.tup [.lit (.bool false), .lit (.bool false)]) fun x36_10 =>
    exK 340030 x36_10 1 fun x37_11 =>
    exK 340031 x36_10 0 fun x38_12 =>
    condK 340032 x37_11
    (
     as1K 340036 a2 123 fun x41_13 =>
     bin0 Tryz.prog .eql 123 (.tmp 39) (.tmp 41) 340037 x38_12 x41_13 fun x42_14 =>
     .ok (.val (.tup [x42_14, (.lit (.nilIface))])) T3 n3
    )
    (
     asK 340040 a1 67 (.tup [.lit (.agg #[.bool false, .slice none 0 0]), .lit (.bool false)]) fun x43_15 =>
     exK 340041 x43_15 1 fun x44_16 =>
     exK 340042 x43_15 0 fun x45_17 =>
     condK 340043 x44_16
     (
      newK T3 n3 (.obj [.lit (.bool false), .lit (.slice none 0 0)] 67) fun x13_18 T5 n5 =>
      stAK 340045 T5 x13_18 x45_17 2 fun T6 =>
      faK 340046 x13_18 0 fun x46_19 =>
      ldAK 340047 T6 ro x46_19 2 fun x47_20 =>
      as1K 340049 a2 67 fun x49_21 =>
      fdAK 340050 x49_21 0 2 fun x50_22 =>
      callK (g61 ro x47_20 x50_22 T6 n5) fun x51_23 T7 n7 =>
      eqK Tryz.prog 3 (.tmp 51) (.const (.int .i64 (.ofNat 0))) 340052 x51_23 (.lit (.int .i64 (.ofNat 0))) fun x52_24 =>
      .ok (.val (.tup [x52_24, (.lit (.nilIface))])) T7 n7
     )
     (
      asK 340055 a1 104 (.tup [.lit (.string ⟨#[]⟩), .lit (.bool false)]) fun x53_25 =>
      exK 340056 x53_25 1 fun x54_26 =>
      exK 340057 x53_25 0 fun x55_27 =>
      condK 340058 x54_26
      (
       as1K 340062 a2 104 fun x58_28 =>
       eqSK Tryz.prog 104 (.tmp 56) (.tmp 58) 340063 x55_27 x58_28 fun x59_29 =>
       .ok (.val (.tup [x59_29, (.lit (.nilIface))])) T3 n3
      )
      (
       asK 340066 a1 32 (.tup [.lit (.pointer none), .lit (.bool false)]) fun x60_30 =>
       exK 340067 x60_30 1 fun x61_31 =>
       exK 340068 x60_30 0 fun x62_32 =>
       condK 340069 x61_31
       (
        ncK 340073 x62_32 fun x65_33 =>
        faK 340074 x65_33 0 fun x66_34 =>
        ldK 340075 T3 ro x66_34 fun x67_35 =>
        as1K 340077 a2 32 fun x69_36 =>
        ncK 340078 x69_36 fun x70_37 =>
        faK 340079 x70_37 0 fun x71_38 =>
        ldK 340080 T3 ro x71_38 fun x72_39 =>
        callK (ih 62 ro [a0, x67_35, x72_39, a3] T3 n3) fun x74_40 T8 n8 =>
        exK 340083 x74_40 0 fun x75_41 =>
        exK 340084 x74_40 1 fun x76_42 =>
        .ok (.val (.tup [x75_41, x76_42])) T8 n8
       )
       (
        asK 340087 a1 72 (.tup [.lit (.pointer none), .lit (.bool false)]) fun x77_43 =>
        exK 340088 x77_43 1 fun x78_44 =>
        exK 340089 x77_43 0 fun x79_45 =>
        condK 340090 x78_44
        (
         ncK 340094 x79_45 fun x82_46 =>
         faK 340095 x82_46 0 fun x83_47 =>
         ldK 340096 T3 ro x83_47 fun x84_48 =>
         as1K 340098 a2 72 fun x86_49 =>
         ncK 340099 x86_49 fun x87_50 =>
         faK 340100 x87_50 0 fun x88_51 =>
         ldK 340101 T3 ro x88_51 fun x89_52 =>
         callK (ih 62 ro [a0, x84_48, x89_52, a3] T3 n3) fun x91_53 T9 n9 =>
         exK 340104 x91_53 0 fun x92_54 =>
         exK 340105 x91_53 1 fun x93_55 =>
         .ok (.val (.tup [x92_54, x93_55])) T9 n9
        )
        (
         asK 340108 a1 43 (.tup [.lit (.pointer none), .lit (.bool false)]) fun x94_56 =>
         exK 340109 x94_56 1 fun x95_57 =>
         exK 340110 x94_56 0 fun x96_58 =>
         condK 340111 x95_57
         (
          as1K 340116 a2 43 fun x100_59 =>
          callK (ih 63 ro [a0, x96_58, x100_59, a3] T3 n3) fun x102_60 T10 n10 =>
          exK 340119 x102_60 0 fun x103_61 =>
          exK 340120 x102_60 1 fun x104_62 =>
          .ok (.val (.tup [x103_61, x104_62])) T10 n10
         )
         (
          asK 340123 a1 141 (.tup [.lit (.pointer none), .lit (.bool false)]) fun x105_63 =>
          exK 340124 x105_63 1 fun x106_64 =>
          exK 340125 x105_63 0 fun x107_65 =>
          condK 340126 x106_64
          (
           as1K 340129 a2 141 fun x109_66 =>
           ncK 340132 x107_65 fun x111_67 =>
           faK 340133 x111_67 0 fun x112_68 =>
           ldK 340134 T3 ro x112_68 fun x113_69 =>
           ncK 340136 x109_66 fun x115_70 =>
           faK 340137 x115_70 0 fun x116_71 =>
           ldK 340138 T3 ro x116_71 fun x117_72 =>
           callK (g64 ro x113_69 x117_72 T3 n3) fun x118_73 T11 n11 =>
           notK 340140 x118_73 fun x119_74 =>
           condK 340141 x119_74
           (
            .bad 340142
           )
           (
            ncK 340145 x107_65 fun x122_75 =>
            faK 340146 x122_75 1 fun x123_76 =>
            ldK 340147 T11 ro x123_76 fun x124_77 =>
            ncK 340149 x109_66 fun x126_78 =>
            faK 340150 x126_78 1 fun x127_79 =>
            ldK 340151 T11 ro x127_79 fun x128_80 =>
            callK (ih 62 ro [a0, x124_77, x128_80, a3] T11 n11) fun x130_81 T12 n12 =>
            exK 340154 x130_81 0 fun x131_82 =>
            exK 340155 x130_81 1 fun x132_83 =>
            .ok (.val (.tup [x131_82, x132_83])) T12 n12
           )
          )
          (
           asIK 340158 a1 [] [32, 43, 67, 72, 100, 104, 207] fun x133_84 =>
           exK 340159 x133_84 1 fun x134_85 =>
           exK 340160 x133_84 0 fun x135_86 =>
           condK 340161 x134_85
           (
            asI1K 340165 a2 [] fun x138_87 =>
            callK (g65 ro x135_86 x138_87 T3 n3) fun x139_88 T13 n13 =>
            .ok (.val (.tup [x139_88, (.lit (.nilIface))])) T13 n13
           )
           (
            eeK Tryz.prog 347 25 (.tmp 140) (.tmp 141) 340171 a1 a2 fun x142_89 =>
            .ok (.val (.tup [x142_89, (.lit (.nilIface))])) T3 n3
           )
          )
         )
        )
       )
      )
     )
    )
   )
  )
 )
theorem g34_ok (ih : FuncId → List HT → List AV → HT → Nat → R) (hI : ∀ f ro args T nx, GOk Tryz.prog envE f args ro T nx (ih f ro args T nx)) (ro : List HT) (a0 a1 a2 a3 : AV) (T : HT) (nx : Nat) : GOk Tryz.prog envE 34 [a0, a1, a2, a3] ro T nx (g34 ih ro a0 a1 a2 a3 T nx) := by
 refine GOk.of_body Tryz.func34 rfl Tryz.ntmps34 (by kernel_rfl) rfl fun r T' n' h1 w0 base ρ0 its hS hP => ?_
 have X : CtxW envE ρ0 ro r T' n' := trivial
 unfold g34 at h1
 refine sr ?_
 refine as_ ?_
 refine as_ ?_
 refine dn ?_
 refine CV.seq ?_
 refine sr ?_
 refine mv ?_
 refine mv ?_
 refine LV.call hS h1 (g60_ok _ _ _ _ _ ) hP rfl rfl rfl rfl fun x23_1 T1 n1 h2 ρ its hS => ?_
 refine as_ ?_
 refine dn ?_
 refine sr ?_
 refine mv ?_
 refine vy (V.bin0 h2 rfl rfl) fun x25_2 h3 => ?_
 refine dn ?_
 refine CV.cond h3 rfl (fun e h4 => ?_) (fun e h4 => ?_)
 ·
  clear h1 h2 h3
  subst e
  refine sr ?_
  refine mv ?_
  refine as_ ?_
  refine as_ ?_
  refine dn ?_
  refine CV.ret ?_
  refine PV.thenR ?_
  cases h4
  exact PV.ret (by simp) Tryz.results34 hS (RS.tmp rfl (RS.tmp rfl RS.nil)) rfl
 ·
  clear h1 h2 h3
  subst e
  refine CV.skip ?_
  refine PV.thenN ?_
  refine CV.seq ?_
  refine sr ?_
  refine mv ?_
  refine LV.inv hS h4 (GMk.ifc fun tr xr _ => GMk.one Vdf.inv32_Kind_308 (g308_ok _ _ _ _ ) (GMk.one Vdf.inv43_Kind_310 (g310_ok _ _ _ _ ) (GMk.one Vdf.inv67_Kind_311 (g311_ok _ _ _ _ ) (GMk.one Vdf.inv72_Kind_312 (g312_ok _ _ _ _ ) (GMk.one Vdf.inv100_Kind_313 (g313_ok _ _ _ _ ) (GMk.one Vdf.inv104_Kind_314 (g314_ok _ _ _ _ ) (GMk.bad))))))) hP rfl rfl rfl rfl rfl rfl rfl fun x28_3 T2 n2 h5 ρ its hS => ?_
  refine mv ?_
  refine LV.inv hS h5 (GMk.ifc fun tr xr _ => GMk.one Vdf.inv32_Kind_308 (g308_ok _ _ _ _ ) (GMk.one Vdf.inv43_Kind_310 (g310_ok _ _ _ _ ) (GMk.one Vdf.inv67_Kind_311 (g311_ok _ _ _ _ ) (GMk.one Vdf.inv72_Kind_312 (g312_ok _ _ _ _ ) (GMk.one Vdf.inv100_Kind_313 (g313_ok _ _ _ _ ) (GMk.one Vdf.inv104_Kind_314 (g314_ok _ _ _ _ ) (GMk.bad))))))) hP rfl rfl rfl rfl rfl rfl rfl fun x30_4 T3 n3 h6 ρ its hS => ?_
  refine vy (V.ne h6 rfl rfl) fun x31_5 h7 => ?_
  refine dn ?_
  refine CV.cond h7 rfl (fun e h8 => ?_) (fun e h8 => ?_)
  ·
   clear h4 h5 h6 h7
   subst e
   cases h8
  ·
   clear h4 h5 h6 h7
   subst e
   refine CV.skip ?_
   refine PV.thenN ?_
   refine CV.seq ?_
   refine sr ?_
   refine mv ?_
   refine dn ?_
   refine CV.block ?_
   refine sr ?_
   refine vy (V.as h8 rfl Vdf.ni100 Vdf.za100) fun x33_6 h9 => ?_
   refine vy (V.ex h9 rfl) fun x34_7 h10 => ?_
   refine vy (V.ex h10 rfl) fun x35_8 h11 => ?_
   refine dn ?_
   refine CV.cond h11 rfl (fun e h12 => ?_) (fun e h12 => ?_)
   ·
    clear h8 h9 h10 h11
    subst e
    refine sr ?_
    refine LV.alloc hS h12 rfl Vdf.zr100 rfl rfl rfl fun x11_9 T4 n4 h13 ρ its hS hdr => ?_
    refine LV.st0 h13 rfl rfl rfl Vdf.agg100 rfl rfl fun h14 => ?_
    refine dn ?_
    refine sr ?_
    refine as_ ?_
    refine as_ ?_
    refine dn ?_
    refine CV.ret ?_
    refine PV.blockR ?_
    refine PV.thenR ?_
    cases h14
    exact PV.ret (by simp) Tryz.results34 hS (RS.tmp rfl (RS.tmp rfl RS.nil)) rfl
   ·
    clear h8 h9 h10 h11
    subst e
    refine sr ?_
    refine vy (V.as h12 rfl Vdf.ni123 Vdf.za123) fun x36_10 h15 => ?_
    refine vy (V.ex h15 rfl) fun x37_11 h16 => ?_
    refine vy (V.ex h16 rfl) fun x38_12 h17 => ?_
    refine dn ?_
    refine CV.cond h17 rfl (fun e h18 => ?_) (fun e h18 => ?_)
    ·
     clear h12 h15 h16 h17
     subst e
     refine sr ?_
     refine as_ ?_
     refine dn ?_
     refine sr ?_
     refine mv ?_
     refine mv ?_
     refine vy (V.as1 h18 rfl Vdf.ni123) fun x41_13 h19 => ?_
     refine vy (V.bin0 h19 rfl rfl) fun x42_14 h20 => ?_
     refine as_ ?_
     refine as_ ?_
     refine dn ?_
     refine CV.ret ?_
     refine PV.blockR ?_
     refine PV.thenR ?_
     cases h20
     exact PV.ret (by simp) Tryz.results34 hS (RS.tmp rfl (RS.tmp rfl RS.nil)) rfl
    ·
     clear h12 h15 h16 h17
     subst e
     refine sr ?_
     refine vy (V.as h18 rfl Vdf.ni67 Vdf.za67) fun x43_15 h21 => ?_
     refine vy (V.ex h21 rfl) fun x44_16 h22 => ?_
     refine vy (V.ex h22 rfl) fun x45_17 h23 => ?_
     refine dn ?_
     refine CV.cond h23 rfl (fun e h24 => ?_) (fun e h24 => ?_)
     ·
      clear h18 h21 h22 h23
      subst e
      refine sr ?_
      refine LV.alloc hS h24 rfl Vdf.zr67 rfl rfl rfl fun x13_18 T5 n5 h25 ρ its hS hdr => ?_
      refine LV.stA hS h25 rfl rfl rfl Vdf.agg67 rfl rfl rfl fun T6 its h26 hS => ?_
      refine dn ?_
      refine CV.seq ?_
      refine CV.regionM [(0, .anywhere), (1, .held), (2, .anywhere), (3, .anywhere), (4, .anywhere), (5, .alone), (6, .alone), (7, .alone), (8, .alone)] rfl (fun c a a' w hd hq => PanicOk.root (P := Tryz.prog) (fn := Tryz.f34) (w0 := w0) (base := base) (E := envE) (ro := ro) (r := r) (T' := T') (n' := n') (ρ0 := ρ0) c a a' w hd hq) (by kernel_rfl) ?_
      refine MV.lift0 (i := 0) rfl (V.fa h26 rfl Vdf.fo67_1) rfl rfl rfl fun x46_19 h27 => ?_
      refine MV.lift1 (i := 1) rfl (fun _ z => z) (V.ldA hS h27 rfl Vdf.agg29) rfl rfl rfl [] (by kernel_rfl) fun x47_20 h28 => ?_
      refine MV.step0 (i := 2) rfl (VAL.move rfl) rfl rfl rfl ?_
      refine MV.lift0 (i := 3) rfl (V.as1 h28 rfl Vdf.ni67) rfl rfl rfl fun x49_21 h29 => ?_
      refine MV.lift0 (i := 4) rfl (V.fdA h29 rfl Vdf.fda67_1) rfl rfl rfl fun x50_22 h30 => ?_
      refine MV.force (i := 5) rfl ?_
      refine LV.call hS h30 (g61_ok _ _ _ _ _ ) hP rfl rfl rfl rfl fun x51_23 T7 n7 h31 ρ its hS => ?_
      refine LV.nextM [] (by kernel_rfl) (fun z => absurd rfl z) ?_
      refine MV.force (i := 6) rfl ?_
      refine vy (V.eq h31 rfl rfl) fun x52_24 h32 => ?_
      refine LV.nextM [] (by kernel_rfl) (fun z => absurd rfl z) ?_
      refine MV.force (i := 7) rfl ?_
      refine as_ ?_
      refine LV.nextM [] (by kernel_rfl) (fun z => absurd rfl z) ?_
      refine MV.force (i := 8) rfl ?_
      refine as_ ?_
      refine LV.nextM [] (by kernel_rfl) (fun z => absurd rfl z) ?_
      refine mdn ?_
      refine CV.ret ?_
      refine PV.blockR ?_
      refine PV.thenR ?_
      cases h32
      exact PV.ret (by simp) Tryz.results34 hS (RS.tmp rfl (RS.tmp rfl RS.nil)) rfl
     ·
      clear h18 h21 h22 h23
      subst e
      refine sr ?_
      refine vy (V.as h24 rfl Vdf.ni104 Vdf.za104) fun x53_25 h33 => ?_
      refine vy (V.ex h33 rfl) fun x54_26 h34 => ?_
      refine vy (V.ex h34 rfl) fun x55_27 h35 => ?_
      refine dn ?_
      refine CV.cond h35 rfl (fun e h36 => ?_) (fun e h36 => ?_)
      ·
       clear h24 h33 h34 h35
       subst e
       refine sr ?_
       refine as_ ?_
       refine dn ?_
       refine sr ?_
       refine mv ?_
       refine mv ?_
       refine vy (V.as1 h36 rfl Vdf.ni104) fun x58_28 h37 => ?_
       refine vy (V.eqS h37 rfl rfl) fun x59_29 h38 => ?_
       refine as_ ?_
       refine as_ ?_
       refine dn ?_
       refine CV.ret ?_
       refine PV.blockR ?_
       refine PV.thenR ?_
       cases h38
       exact PV.ret (by simp) Tryz.results34 hS (RS.tmp rfl (RS.tmp rfl RS.nil)) rfl
      ·
       clear h24 h33 h34 h35
       subst e
       refine sr ?_
       refine vy (V.as h36 rfl Vdf.ni32 Vdf.za32) fun x60_30 h39 => ?_
       refine vy (V.ex h39 rfl) fun x61_31 h40 => ?_
       refine vy (V.ex h40 rfl) fun x62_32 h41 => ?_
       refine dn ?_
       refine CV.cond h41 rfl (fun e h42 => ?_) (fun e h42 => ?_)
       ·
        clear h36 h39 h40 h41
        subst e
        refine sr ?_
        refine as_ ?_
        refine dn ?_
        refine CV.seq ?_
        refine CV.regionM [(0, .anywhere), (1, .anywhere), (2, .anywhere), (3, .anywhere), (4, .held), (5, .anywhere), (6, .anywhere), (7, .anywhere), (8, .anywhere), (9, .held), (10, .anywhere), (11, .alone), (12, .anywhere), (13, .alone), (14, .alone), (15, .alone)] rfl (fun c a a' w hd hq => PanicOk.root (P := Tryz.prog) (fn := Tryz.f34) (w0 := w0) (base := base) (E := envE) (ro := ro) (r := r) (T' := T') (n' := n') (ρ0 := ρ0) c a a' w hd hq) (by kernel_rfl) ?_
        refine MV.step0 (i := 0) rfl (VAL.move rfl) rfl rfl rfl ?_
        refine MV.step0 (i := 1) rfl (VAL.move rfl) rfl rfl rfl ?_
        refine MV.lift0 (i := 2) rfl (V.nc h42 rfl) rfl rfl rfl fun x65_33 h43 => ?_
        refine MV.lift0 (i := 3) rfl (V.fa h43 rfl Vdf.fo77_1) rfl rfl rfl fun x66_34 h44 => ?_
        refine MV.lift1 (i := 4) rfl (fun _ z => z) (V.ld hS h44 rfl Vdf.one71) rfl rfl rfl [] (by kernel_rfl) fun x67_35 h45 => ?_
        refine MV.step0 (i := 5) rfl (VAL.move rfl) rfl rfl rfl ?_
        refine MV.lift0 (i := 6) rfl (V.as1 h45 rfl Vdf.ni32) rfl rfl rfl fun x69_36 h46 => ?_
        refine MV.lift0 (i := 7) rfl (V.nc h46 rfl) rfl rfl rfl fun x70_37 h47 => ?_
        refine MV.lift0 (i := 8) rfl (V.fa h47 rfl Vdf.fo77_1) rfl rfl rfl fun x71_38 h48 => ?_
        refine MV.lift1 (i := 9) rfl (fun _ z => z) (V.ld hS h48 rfl Vdf.one71) rfl rfl rfl [4] (by kernel_rfl) fun x72_39 h49 => ?_
        refine MV.step0 (i := 10) rfl (VAL.move rfl) rfl rfl rfl ?_
        refine MV.force (i := 11) rfl ?_
        refine LV.call hS h49 (hI _ _ _ _ _) hP rfl rfl rfl rfl fun x74_40 T8 n8 h50 ρ its hS => ?_
        refine LV.nextM [] (by kernel_rfl) (fun z => absurd rfl z) ?_
        refine MV.lift0 (i := 12) rfl (V.ex h50 rfl) rfl rfl rfl fun x75_41 h51 => ?_
        refine MV.force (i := 13) rfl ?_
        refine vy (V.ex h51 rfl) fun x76_42 h52 => ?_
        refine LV.nextM [] (by kernel_rfl) (fun z => absurd rfl z) ?_
        refine MV.force (i := 14) rfl ?_
        refine as_ ?_
        refine LV.nextM [] (by kernel_rfl) (fun z => absurd rfl z) ?_
        refine MV.force (i := 15) rfl ?_
        refine as_ ?_
        refine LV.nextM [] (by kernel_rfl) (fun z => absurd rfl z) ?_
        refine mdn ?_
        refine CV.ret ?_
        refine PV.blockR ?_
        refine PV.thenR ?_
        cases h52
        exact PV.ret (by simp) Tryz.results34 hS (RS.tmp rfl (RS.tmp rfl RS.nil)) rfl
       ·
        clear h36 h39 h40 h41
        subst e
        refine sr ?_
        refine vy (V.as h42 rfl Vdf.ni72 Vdf.za72) fun x77_43 h53 => ?_
        refine vy (V.ex h53 rfl) fun x78_44 h54 => ?_
        refine vy (V.ex h54 rfl) fun x79_45 h55 => ?_
        refine dn ?_
        refine CV.cond h55 rfl (fun e h56 => ?_) (fun e h56 => ?_)
        ·
         clear h42 h53 h54 h55
         subst e
         refine sr ?_
         refine as_ ?_
         refine dn ?_
         refine CV.seq ?_
         refine CV.regionM [(0, .anywhere), (1, .anywhere), (2, .anywhere), (3, .anywhere), (4, .held), (5, .anywhere), (6, .anywhere), (7, .anywhere), (8, .anywhere), (9, .held), (10, .anywhere), (11, .alone), (12, .anywhere), (13, .alone), (14, .alone), (15, .alone)] rfl (fun c a a' w hd hq => PanicOk.root (P := Tryz.prog) (fn := Tryz.f34) (w0 := w0) (base := base) (E := envE) (ro := ro) (r := r) (T' := T') (n' := n') (ρ0 := ρ0) c a a' w hd hq) (by kernel_rfl) ?_
         refine MV.step0 (i := 0) rfl (VAL.move rfl) rfl rfl rfl ?_
         refine MV.step0 (i := 1) rfl (VAL.move rfl) rfl rfl rfl ?_
         refine MV.lift0 (i := 2) rfl (V.nc h56 rfl) rfl rfl rfl fun x82_46 h57 => ?_
         refine MV.lift0 (i := 3) rfl (V.fa h57 rfl Vdf.fo75_1) rfl rfl rfl fun x83_47 h58 => ?_
         refine MV.lift1 (i := 4) rfl (fun _ z => z) (V.ld hS h58 rfl Vdf.one71) rfl rfl rfl [] (by kernel_rfl) fun x84_48 h59 => ?_
         refine MV.step0 (i := 5) rfl (VAL.move rfl) rfl rfl rfl ?_
         refine MV.lift0 (i := 6) rfl (V.as1 h59 rfl Vdf.ni72) rfl rfl rfl fun x86_49 h60 => ?_
         refine MV.lift0 (i := 7) rfl (V.nc h60 rfl) rfl rfl rfl fun x87_50 h61 => ?_
         refine MV.lift0 (i := 8) rfl (V.fa h61 rfl Vdf.fo75_1) rfl rfl rfl fun x88_51 h62 => ?_
         refine MV.lift1 (i := 9) rfl (fun _ z => z) (V.ld hS h62 rfl Vdf.one71) rfl rfl rfl [4] (by kernel_rfl) fun x89_52 h63 => ?_
         refine MV.step0 (i := 10) rfl (VAL.move rfl) rfl rfl rfl ?_
         refine MV.force (i := 11) rfl ?_
         refine LV.call hS h63 (hI _ _ _ _ _) hP rfl rfl rfl rfl fun x91_53 T9 n9 h64 ρ its hS => ?_
         refine LV.nextM [] (by kernel_rfl) (fun z => absurd rfl z) ?_
         refine MV.lift0 (i := 12) rfl (V.ex h64 rfl) rfl rfl rfl fun x92_54 h65 => ?_
         refine MV.force (i := 13) rfl ?_
         refine vy (V.ex h65 rfl) fun x93_55 h66 => ?_
         refine LV.nextM [] (by kernel_rfl) (fun z => absurd rfl z) ?_
         refine MV.force (i := 14) rfl ?_
         refine as_ ?_
         refine LV.nextM [] (by kernel_rfl) (fun z => absurd rfl z) ?_
         refine MV.force (i := 15) rfl ?_
         refine as_ ?_
         refine LV.nextM [] (by kernel_rfl) (fun z => absurd rfl z) ?_
         refine mdn ?_
         refine CV.ret ?_
         refine PV.blockR ?_
         refine PV.thenR ?_
         cases h66
         exact PV.ret (by simp) Tryz.results34 hS (RS.tmp rfl (RS.tmp rfl RS.nil)) rfl
        ·
         clear h42 h53 h54 h55
         subst e
         refine sr ?_
         refine vy (V.as h56 rfl Vdf.ni43 Vdf.za43) fun x94_56 h67 => ?_
         refine vy (V.ex h67 rfl) fun x95_57 h68 => ?_
         refine vy (V.ex h68 rfl) fun x96_58 h69 => ?_
         refine dn ?_
         refine CV.cond h69 rfl (fun e h70 => ?_) (fun e h70 => ?_)
         ·
          clear h56 h67 h68 h69
          subst e
          refine sr ?_
          refine as_ ?_
          refine dn ?_
          refine sr ?_
          refine mv ?_
          refine mv ?_
          refine mv ?_
          refine vy (V.as1 h70 rfl Vdf.ni43) fun x100_59 h71 => ?_
          refine mv ?_
          refine LV.call hS h71 (hI _ _ _ _ _) hP rfl rfl rfl rfl fun x102_60 T10 n10 h72 ρ its hS => ?_
          refine vy (V.ex h72 rfl) fun x103_61 h73 => ?_
          refine vy (V.ex h73 rfl) fun x104_62 h74 => ?_
          refine as_ ?_
          refine as_ ?_
          refine dn ?_
          refine CV.ret ?_
          refine PV.blockR ?_
          refine PV.thenR ?_
          cases h74
          exact PV.ret (by simp) Tryz.results34 hS (RS.tmp rfl (RS.tmp rfl RS.nil)) rfl
         ·
          clear h56 h67 h68 h69
          subst e
          refine sr ?_
          refine vy (V.as h70 rfl Vdf.ni141 Vdf.za141) fun x105_63 h75 => ?_
          refine vy (V.ex h75 rfl) fun x106_64 h76 => ?_
          refine vy (V.ex h76 rfl) fun x107_65 h77 => ?_
          refine dn ?_
          refine CV.cond h77 rfl (fun e h78 => ?_) (fun e h78 => ?_)
          ·
           clear h70 h75 h76 h77
           subst e
           refine sr ?_
           refine as_ ?_
           refine dn ?_
           refine sr ?_
           refine mv ?_
           refine vy (V.as1 h78 rfl Vdf.ni141) fun x109_66 h79 => ?_
           refine as_ ?_
           refine dn ?_
           refine CV.seq ?_
           refine CV.seq ?_
           refine CV.regionM [(0, .anywhere), (1, .anywhere), (2, .anywhere), (3, .held), (4, .anywhere), (5, .anywhere), (6, .anywhere), (7, .held), (8, .alone), (9, .alone)] rfl (fun c a a' w hd hq => PanicOk.root (P := Tryz.prog) (fn := Tryz.f34) (w0 := w0) (base := base) (E := envE) (ro := ro) (r := r) (T' := T') (n' := n') (ρ0 := ρ0) c a a' w hd hq) (by kernel_rfl) ?_
           refine MV.step0 (i := 0) rfl (VAL.move rfl) rfl rfl rfl ?_
           refine MV.lift0 (i := 1) rfl (V.nc h79 rfl) rfl rfl rfl fun x111_67 h80 => ?_
           refine MV.lift0 (i := 2) rfl (V.fa h80 rfl Vdf.fo143_1) rfl rfl rfl fun x112_68 h81 => ?_
           refine MV.lift1 (i := 3) rfl (fun _ z => z) (V.ld hS h81 rfl Vdf.one54) rfl rfl rfl [] (by kernel_rfl) fun x113_69 h82 => ?_
           refine MV.step0 (i := 4) rfl (VAL.move rfl) rfl rfl rfl ?_
           refine MV.lift0 (i := 5) rfl (V.nc h82 rfl) rfl rfl rfl fun x115_70 h83 => ?_
           refine MV.lift0 (i := 6) rfl (V.fa h83 rfl Vdf.fo143_1) rfl rfl rfl fun x116_71 h84 => ?_
           refine MV.lift1 (i := 7) rfl (fun _ z => z) (V.ld hS h84 rfl Vdf.one54) rfl rfl rfl [3] (by kernel_rfl) fun x117_72 h85 => ?_
           refine MV.force (i := 8) rfl ?_
           refine LV.call hS h85 (g64_ok _ _ _ _ _ ) hP rfl rfl rfl rfl fun x118_73 T11 n11 h86 ρ its hS => ?_
           refine LV.nextM [] (by kernel_rfl) (fun z => absurd rfl z) ?_
           refine MV.force (i := 9) rfl ?_
           refine vy (V.not h86 rfl) fun x119_74 h87 => ?_
           refine LV.nextM [] (by kernel_rfl) (fun z => absurd rfl z) ?_
           refine mdn ?_
           refine CV.cond h87 rfl (fun e h88 => ?_) (fun e h88 => ?_)
           ·
            clear h78 h79 h80 h81 h82 h83 h84 h85 h86 h87
            subst e
            cases h88
           ·
            clear h78 h79 h80 h81 h82 h83 h84 h85 h86 h87
            subst e
            refine CV.skip ?_
            refine PV.thenN ?_
            refine CV.seq ?_
            refine CV.regionM [(0, .anywhere), (1, .anywhere), (2, .anywhere), (3, .anywhere), (4, .held), (5, .anywhere), (6, .anywhere), (7, .anywhere), (8, .held), (9, .anywhere), (10, .alone), (11, .anywhere), (12, .alone), (13, .alone), (14, .alone)] rfl (fun c a a' w hd hq => PanicOk.root (P := Tryz.prog) (fn := Tryz.f34) (w0 := w0) (base := base) (E := envE) (ro := ro) (r := r) (T' := T') (n' := n') (ρ0 := ρ0) c a a' w hd hq) (by kernel_rfl) ?_
            refine MV.step0 (i := 0) rfl (VAL.move rfl) rfl rfl rfl ?_
            refine MV.step0 (i := 1) rfl (VAL.move rfl) rfl rfl rfl ?_
            refine MV.lift0 (i := 2) rfl (V.nc h88 rfl) rfl rfl rfl fun x122_75 h89 => ?_
            refine MV.lift0 (i := 3) rfl (V.fa h89 rfl Vdf.fo143_2) rfl rfl rfl fun x123_76 h90 => ?_
            refine MV.lift1 (i := 4) rfl (fun _ z => z) (V.ld hS h90 rfl Vdf.one71) rfl rfl rfl [] (by kernel_rfl) fun x124_77 h91 => ?_
            refine MV.step0 (i := 5) rfl (VAL.move rfl) rfl rfl rfl ?_
            refine MV.lift0 (i := 6) rfl (V.nc h91 rfl) rfl rfl rfl fun x126_78 h92 => ?_
            refine MV.lift0 (i := 7) rfl (V.fa h92 rfl Vdf.fo143_2) rfl rfl rfl fun x127_79 h93 => ?_
            refine MV.lift1 (i := 8) rfl (fun _ z => z) (V.ld hS h93 rfl Vdf.one71) rfl rfl rfl [4] (by kernel_rfl) fun x128_80 h94 => ?_
            refine MV.step0 (i := 9) rfl (VAL.move rfl) rfl rfl rfl ?_
            refine MV.force (i := 10) rfl ?_
            refine LV.call hS h94 (hI _ _ _ _ _) hP rfl rfl rfl rfl fun x130_81 T12 n12 h95 ρ its hS => ?_
            refine LV.nextM [] (by kernel_rfl) (fun z => absurd rfl z) ?_
            refine MV.lift0 (i := 11) rfl (V.ex h95 rfl) rfl rfl rfl fun x131_82 h96 => ?_
            refine MV.force (i := 12) rfl ?_
            refine vy (V.ex h96 rfl) fun x132_83 h97 => ?_
            refine LV.nextM [] (by kernel_rfl) (fun z => absurd rfl z) ?_
            refine MV.force (i := 13) rfl ?_
            refine as_ ?_
            refine LV.nextM [] (by kernel_rfl) (fun z => absurd rfl z) ?_
            refine MV.force (i := 14) rfl ?_
            refine as_ ?_
            refine LV.nextM [] (by kernel_rfl) (fun z => absurd rfl z) ?_
            refine mdn ?_
            refine CV.ret ?_
            refine PV.blockR ?_
            refine PV.thenR ?_
            cases h97
            exact PV.ret (by simp) Tryz.results34 hS (RS.tmp rfl (RS.tmp rfl RS.nil)) rfl
          ·
           clear h70 h75 h76 h77
           subst e
           refine sr ?_
           refine vy (V.asI h78 rfl Vdf.ii130 Vdf.zw130 Vdf.hi130_y_ Vdf.hi130_n_32_43_67_72_100_104_207) fun x133_84 h98 => ?_
           refine vy (V.ex h98 rfl) fun x134_85 h99 => ?_
           refine vy (V.ex h99 rfl) fun x135_86 h100 => ?_
           refine dn ?_
           refine CV.cond h100 rfl (fun e h101 => ?_) (fun e h101 => ?_)
           ·
            clear h78 h98 h99 h100
            subst e
            refine sr ?_
            refine as_ ?_
            refine dn ?_
            refine sr ?_
            refine mv ?_
            refine mv ?_
            refine vy (V.asI1 h101 rfl Vdf.hi130_y_) fun x138_87 h102 => ?_
            refine LV.call hS h102 (g65_ok _ _ _ _ _ ) hP rfl rfl rfl rfl fun x139_88 T13 n13 h103 ρ its hS => ?_
            refine as_ ?_
            refine as_ ?_
            refine dn ?_
            refine CV.ret ?_
            refine PV.blockR ?_
            refine PV.thenR ?_
            cases h103
            exact PV.ret (by simp) Tryz.results34 hS (RS.tmp rfl (RS.tmp rfl RS.nil)) rfl
           ·
            clear h78 h98 h99 h100
            subst e
            refine CV.skip ?_
            refine PV.blockN ?_
            refine PV.thenN ?_
            refine sr ?_
            refine mv ?_
            refine mv ?_
            refine vy (V.ee hS h101 rfl rfl Vdf.ii25 Vdf.cp347) fun x142_89 h104 => ?_
            refine as_ ?_
            refine as_ ?_
            refine dn ?_
            refine CV.ret ?_
            cases h104
            exact PV.ret (by simp) Tryz.results34 hS (RS.tmp rfl (RS.tmp rfl RS.nil)) rfl
noncomputable def g62_k2 (ih : FuncId → List HT → List AV → HT → Nat → R) (ro : List HT) (lp1 : AV → AV → AV → AV → AV → AV → AV → AV → HT → Nat → R) (y0 y1 y2 y3 y8 y9 y12 y20 y21 y44 : AV) (T3 : HT) (n3 : Nat) : R :=
 condK 620038 y44
 (
  .ok (.val (.tup [(.lit (.bool false)), y12])) T3 n3
 )
 (
  addK Tryz.prog 3 (.tmp 21) (.const (.int .i64 (.ofNat 1))) 620042 y21 (.lit (.int .i64 (.ofNat 1))) fun x46_15 =>
  lp1 y0 y1 y2 y3 y8 y9 y20 x46_15 T3 n3
 )
noncomputable def g62_b1 (ih : FuncId → List HT → List AV → HT → Nat → R) (ro : List HT) (lp1 : AV → AV → AV → AV → AV → AV → AV → AV → HT → Nat → R) (y0 y1 y2 y3 y8 y9 y20 y21 : AV) (T1 : HT) (n1 : Nat) : R :=
 ltK Tryz.prog 3 (.tmp 21) (.tmp 20) 620014 y21 y20 fun x22_5 =>
 condK 620015 x22_5
 (
  iaK 620021 y1 y21 1 fun x28_6 =>
  ldK 620022 T1 ro x28_6 fun x29_7 =>
  iaK 620025 y2 y21 1 fun x32_8 =>
  ldK 620026 T1 ro x32_8 fun x33_9 =>
  addK Tryz.prog 3 (.tmp 34) (.const (.int .i64 (.ofNat 1))) 620028 y3 (.lit (.int .i64 (.ofNat 1))) fun x35_10 =>
  callK (ih 34 ro [y0, x29_7, x33_9, x35_10] T1 n1) fun x36_11 T2 n2 =>
  exK 620031 x36_11 0 fun x37_12 =>
  exK 620032 x36_11 1 fun x38_13 =>
  notK 620036 x37_12 fun x40_14 =>
  condK 620044 x40_14
  (
   g62_k2 ih ro lp1 y0 y1 y2 y3 y8 y9 x38_13 y20 y21 (.lit (.bool true)) T2 n2
  )
  (
   bin0 Tryz.prog .neq 36 (.tmp 42) (.const (.nilIface)) 620047 x38_13 (.lit (.nilIface)) fun x43_16 =>
   g62_k2 ih ro lp1 y0 y1 y2 y3 y8 y9 x38_13 y20 y21 x43_16 T2 n2
  )
 )
 (
  lenSK 620050 y1 fun x48_17 =>
  callK (g95 ro x48_17 y3 T1 n1) fun x50_18 T4 n4 =>
  bin0 Tryz.prog .neq 36 (.tmp 51) (.const (.nilIface)) 620055 x50_18 (.lit (.nilIface)) fun x52_19 =>
  condK 620056 x52_19
  (
   .bad 620057
  )
  (
   .ok (.val (.tup [(.lit (.bool true)), (.lit (.nilIface))])) T4 n4
  )
 )
noncomputable def g62 (ih : FuncId → List HT → List AV → HT → Nat → R) (ro : List HT) (a0 a1 a2 a3 : AV) (T : HT) (nx : Nat) : R :=
 lenSK 620004 a1 fun x15_1 =>
 lenSK 620006 a2 fun x17_2 =>
 neK Tryz.prog 3 (.tmp 15) (.tmp 17) 620007 x15_1 x17_2 fun x18_3 =>
 condK 620008 x18_3
 (
  .bad 620009
 )
 (
  lenSK 620011 a1 fun x20_4 =>
  lpf8 620013 (g62_b1 ih ro) 100000 a0 a1 a2 a3 (.lit (.bool false)) (.lit (.nilIface)) x20_4 (.lit (.int .i64 (.ofNat 0))) T nx
 )
theorem g62_ok (ih : FuncId → List HT → List AV → HT → Nat → R) (hI : ∀ f ro args T nx, GOk Tryz.prog envE f args ro T nx (ih f ro args T nx)) (ro : List HT) (a0 a1 a2 a3 : AV) (T : HT) (nx : Nat) : GOk Tryz.prog envE 62 [a0, a1, a2, a3] ro T nx (g62 ih ro a0 a1 a2 a3 T nx) := by
 refine GOk.of_body Tryz.func62 rfl Tryz.ntmps62 (by kernel_rfl) rfl fun r T' n' h1 w0 base ρ0 its hS hP => ?_
 have X : CtxW envE ρ0 ro r T' n' := trivial
 unfold g62 at h1
 refine sr ?_
 refine as_ ?_
 refine as_ ?_
 refine dn ?_
 refine CV.seq ?_
 refine sr ?_
 refine mv ?_
 refine vy (V.lenS h1 rfl Vdf.ls71) fun x15_1 h2 => ?_
 refine mv ?_
 refine vy (V.lenS h2 rfl Vdf.ls71) fun x17_2 h3 => ?_
 refine vy (V.ne h3 rfl rfl) fun x18_3 h4 => ?_
 refine dn ?_
 refine CV.cond h4 rfl (fun e h5 => ?_) (fun e h5 => ?_)
 ·
  clear h1 h2 h3 h4
  subst e
  cases h5
 ·
  clear h1 h2 h3 h4
  subst e
  refine CV.skip ?_
  refine PV.thenN ?_
  refine CV.seq ?_
  refine sr ?_
  refine mv ?_
  refine vy (V.lenS h5 rfl Vdf.ls71) fun x20_4 h6 => ?_
  refine mv ?_
  refine dn ?_
  refine CV.block ?_
  refine cl8 X 0 1 2 3 8 9 20 21 [] hS h6 ⟨rfl, rfl, rfl, rfl, rfl, rfl, rfl, rfl, trivial⟩ ?_
  intro f1 y0 y1 y2 y3 y8 y9 y20 y21 T1 n1 ρ its hS h7
  unfold g62_b1 at h7
  clear h5 h6
  refine sr ?_
  refine vy (V.lt h7 rfl rfl) fun x22_5 h8 => ?_
  refine dn ?_
  refine CV.seq ?_
  refine CV.cond h8 rfl (fun e h9 => ?_) (fun e h9 => ?_)
  ·
   clear h7 h8
   subst e
   refine CV.skip ?_
   refine PV.thenN ?_
   refine CV.seq ?_
   refine CV.block ?_
   refine sr ?_
   refine mv ?_
   refine as_ ?_
   refine dn ?_
   refine CV.seq ?_
   refine CV.regionM [(0, .anywhere), (1, .anywhere), (2, .anywhere), (3, .anywhere), (4, .held), (5, .anywhere), (6, .anywhere), (7, .anywhere), (8, .held), (9, .anywhere), (10, .anywhere), (11, .alone), (12, .alone), (13, .anywhere), (14, .anywhere), (15, .alone), (16, .alone)] rfl (fun c a a' w hd hq => PanicOk.root (P := Tryz.prog) (fn := Tryz.f62) (w0 := w0) (base := base) (E := envE) (ro := ro) (r := r) (T' := T') (n' := n') (ρ0 := ρ0) c a a' w hd hq) (by kernel_rfl) ?_
   refine MV.step0 (i := 0) rfl (VAL.move rfl) rfl rfl rfl ?_
   refine MV.step0 (i := 1) rfl (VAL.move rfl) rfl rfl rfl ?_
   refine MV.step0 (i := 2) rfl (VAL.move rfl) rfl rfl rfl ?_
   refine MV.lift0 (i := 3) rfl (V.ia h9 rfl rfl Vdf.el71) rfl rfl rfl fun x28_6 h10 => ?_
   refine MV.lift1 (i := 4) rfl (fun _ z => z) (V.ld hS h10 rfl Vdf.one25) rfl rfl rfl [] (by kernel_rfl) fun x29_7 h11 => ?_
   refine MV.step0 (i := 5) rfl (VAL.move rfl) rfl rfl rfl ?_
   refine MV.step0 (i := 6) rfl (VAL.move rfl) rfl rfl rfl ?_
   refine MV.lift0 (i := 7) rfl (V.ia h11 rfl rfl Vdf.el71) rfl rfl rfl fun x32_8 h12 => ?_
   refine MV.lift1 (i := 8) rfl (fun _ z => z) (V.ld hS h12 rfl Vdf.one25) rfl rfl rfl [4] (by kernel_rfl) fun x33_9 h13 => ?_
   refine MV.step0 (i := 9) rfl (VAL.move rfl) rfl rfl rfl ?_
   refine MV.lift0 (i := 10) rfl (V.add h13 rfl rfl) rfl rfl rfl fun x35_10 h14 => ?_
   refine MV.force (i := 11) rfl ?_
   refine LV.call hS h14 (hI _ _ _ _ _) hP rfl rfl rfl rfl fun x36_11 T2 n2 h15 ρ its hS => ?_
   refine LV.nextM [] (by kernel_rfl) (fun z => absurd rfl z) ?_
   refine MV.force (i := 12) rfl ?_
   refine mv ?_
   refine LV.nextM [] (by kernel_rfl) (fun z => absurd rfl z) ?_
   refine MV.lift0 (i := 13) rfl (V.ex h15 rfl) rfl rfl rfl fun x37_12 h16 => ?_
   refine MV.lift0 (i := 14) rfl (V.ex h16 rfl) rfl rfl rfl fun x38_13 h17 => ?_
   refine MV.force (i := 15) rfl ?_
   refine as_ ?_
   refine LV.nextM [] (by kernel_rfl) (fun z => absurd rfl z) ?_
   refine MV.force (i := 16) rfl ?_
   refine as_ ?_
   refine LV.nextM [] (by kernel_rfl) (fun z => absurd rfl z) ?_
   refine mdn ?_
   refine sr ?_
   refine mv ?_
   refine vy (V.not h17 rfl) fun x40_14 h18 => ?_
   refine mv ?_
   refine ls10 X 0 1 2 3 8 9 12 20 21 44 [] (g62_k2 ih ro (lpf8 620013 (g62_b1 ih ro) f1)) 3 ?_ ?_
   ·
    rcases condK_inv h18 with ⟨e, h22⟩ | ⟨e, h22⟩
    ·
     clear h9 h10 h11 h12 h13 h14 h15 h16 h17 h18
     subst e
     refine sk ?_
     refine sk ?_
     refine pu ?_
     exact la10 hS h22 ⟨rfl, rfl, rfl, rfl, rfl, rfl, rfl, rfl, rfl, rfl, trivial⟩
    ·
     clear h9 h10 h11 h12 h13 h14 h15 h16 h17 h18
     subst e
     refine mv ?_
     refine vy (V.bin0 h22 rfl rfl) fun x43_16 h23 => ?_
     refine pu ?_
     exact la10 hS h23 ⟨rfl, rfl, rfl, rfl, rfl, rfl, rfl, rfl, rfl, rfl, trivial⟩
   ·
    intro y0 y1 y2 y3 y8 y9 y12 y20 y21 y44 T3 n3 ρ its hS h19
    unfold g62_k2 at h19
    clear h9 h10 h11 h12 h13 h14 h15 h16 h17 h18
    refine dn ?_
    refine CV.cond h19 rfl (fun e h20 => ?_) (fun e h20 => ?_)
    ·
     clear h19
     subst e
     refine sr ?_
     refine mv ?_
     refine as_ ?_
     refine as_ ?_
     refine dn ?_
     refine CV.ret ?_
     refine PV.blockR ?_
     refine PV.thenR ?_
     refine PV.thenR ?_
     refine PV.blockR ?_
     refine PV.thenR ?_
     cases h20
     exact PV.ret (by simp) Tryz.results62 hS (RS.tmp rfl (RS.tmp rfl RS.nil)) rfl
    ·
     clear h19
     subst e
     refine CV.skip ?_
     refine PV.blockN ?_
     refine PV.thenN ?_
     refine CV.region ?_
     refine vy (V.add h20 rfl rfl) fun x46_15 h21 => ?_
     refine mv ?_
     refine LV.done ?_
     exact pb8 hS h21 ⟨rfl, rfl, rfl, rfl, rfl, rfl, rfl, rfl, trivial⟩
  ·
   clear h7 h8
   subst e
   refine CV.exit ?_
   refine PV.thenE ?_
   refine PV.thenE ?_
   refine PV.blockE ?_
   refine PV.thenN ?_
   refine CV.seq ?_
   refine sr ?_
   refine mv ?_
   refine vy (V.lenS h9 rfl Vdf.ls71) fun x48_17 h24 => ?_
   refine mv ?_
   refine LV.call hS h24 (g95_ok _ _ _ _ _ ) hP rfl rfl rfl rfl fun x50_18 T4 n4 h25 ρ its hS => ?_
   refine as_ ?_
   refine dn ?_
   refine sr ?_
   refine mv ?_
   refine vy (V.bin0 h25 rfl rfl) fun x52_19 h26 => ?_
   refine dn ?_
   refine CV.cond h26 rfl (fun e h27 => ?_) (fun e h27 => ?_)
   ·
    clear h9 h24 h25 h26
    subst e
    cases h27
   ·
    clear h9 h24 h25 h26
    subst e
    refine CV.skip ?_
    refine PV.thenN ?_
    refine sr ?_
    refine as_ ?_
    refine as_ ?_
    refine dn ?_
    refine CV.ret ?_
    cases h27
    exact PV.ret (by simp) Tryz.results62 hS (RS.tmp rfl (RS.tmp rfl RS.nil)) rfl
noncomputable def g63_k2 (ih : FuncId → List HT → List AV → HT → Nat → R) (ro : List HT) (lp1 : AV → AV → AV → AV → AV → AV → AV → AV → HT → Nat → R) (y0 y2 y3 y8 y9 y35 y36 y37 y72 : AV) (T4 : HT) (n4 : Nat) : R :=
 condK 630067 y72
 (
  .bad 630068
 )
 (
  addK Tryz.prog 3 (.tmp 37) (.const (.int .i64 (.ofNat 1))) 630069 y37 (.lit (.int .i64 (.ofNat 1))) fun x74_36 =>
  lp1 y0 y2 y3 y8 y9 y35 y36 x74_36 T4 n4
 )
noncomputable def g63_b1 (ih : FuncId → List HT → List AV → HT → Nat → R) (ro : List HT) (lp1 : AV → AV → AV → AV → AV → AV → AV → AV → HT → Nat → R) (y0 y2 y3 y8 y9 y35 y36 y37 : AV) (T2 : HT) (n2 : Nat) : R :=
 ltK Tryz.prog 3 (.tmp 37) (.tmp 36) 630028 y37 y36 fun x38_14 =>
 condK 630029 x38_14
 (
  iaK 630030 y35 y37 1 fun x39_15 =>
  ldK 630031 T2 ro x39_15 fun x40_16 =>
  ncK 630034 y2 fun x42_17 =>
  faK 630035 x42_17 1 fun x43_18 =>
  ldK 630036 T2 ro x43_18 fun x44_19 =>
  ncK 630038 x40_16 fun x46_20 =>
  faK 630039 x46_20 0 fun x47_21 =>
  ldK 630040 T2 ro x47_21 fun x48_22 =>
  lkSK 630041 T2 ro x44_19 x48_22 (.lit (.pointer none)) false fun x49_23 =>
  bin0 Tryz.prog .eql 101 (.tmp 50) (.const (.pointer none)) 630044 x49_23 (.lit (.pointer none)) fun x51_24 =>
  condK 630045 x51_24
  (
   .bad 630046
  )
  (
   ncK 630049 x40_16 fun x55_25 =>
   faK 630050 x55_25 2 fun x56_26 =>
   ldK 630051 T2 ro x56_26 fun x57_27 =>
   ncK 630053 x49_23 fun x59_28 =>
   faK 630054 x59_28 2 fun x60_29 =>
   ldK 630055 T2 ro x60_29 fun x61_30 =>
   addK Tryz.prog 3 (.tmp 62) (.const (.int .i64 (.ofNat 1))) 630057 y3 (.lit (.int .i64 (.ofNat 1))) fun x63_31 =>
   callK (ih 34 ro [y0, x57_27, x61_30, x63_31] T2 n2) fun x64_32 T3 n3 =>
   exK 630060 x64_32 0 fun x65_33 =>
   exK 630061 x64_32 1 fun x66_34 =>
   notK 630065 x65_33 fun x68_35 =>
   condK 630071 x68_35
   (
    g63_k2 ih ro lp1 y0 y2 y3 y8 y9 y35 y36 y37 (.lit (.bool true)) T3 n3
   )
   (
    bin0 Tryz.prog .neq 36 (.tmp 70) (.const (.nilIface)) 630074 x66_34 (.lit (.nilIface)) fun x71_37 =>
    g63_k2 ih ro lp1 y0 y2 y3 y8 y9 y35 y36 y37 x71_37 T3 n3
   )
  )
 )
 (
  .ok (.val (.tup [(.lit (.bool true)), (.lit (.nilIface))])) T2 n2
 )
noncomputable def g63 (ih : FuncId → List HT → List AV → HT → Nat → R) (ro : List HT) (a0 a1 a2 a3 : AV) (T : HT) (nx : Nat) : R :=
 ncK 630004 a1 fun x17_1 =>
 faK 630005 x17_1 0 fun x18_2 =>
 ldK 630006 T ro x18_2 fun x19_3 =>
 lenSK 630007 x19_3 fun x20_4 =>
 ncK 630009 a2 fun x22_5 =>
 faK 630010 x22_5 0 fun x23_6 =>
 ldK 630011 T ro x23_6 fun x24_7 =>
 lenSK 630012 x24_7 fun x25_8 =>
 neK Tryz.prog 3 (.tmp 20) (.tmp 25) 630013 x20_4 x25_8 fun x26_9 =>
 condK 630014 x26_9
 (
  .bad 630015
 )
 (
  callK (g95 ro (.lit (.int .i64 (.ofNat 0))) a3 T nx) fun x28_10 T1 n1 =>
  bin0 Tryz.prog .neq 36 (.tmp 29) (.const (.nilIface)) 630020 x28_10 (.lit (.nilIface)) fun x30_11 =>
  condK 630021 x30_11
  (
   .bad 630022
  )
  (
   fldK 630024 T1 ro a1 0 fun x35_12 =>
   lenSK 630025 x35_12 fun x36_13 =>
   lpf8 630027 (g63_b1 ih ro) 100000 a0 a2 a3 (.lit (.bool false)) (.lit (.nilIface)) x35_12 x36_13 (.lit (.int .i64 (.ofNat 0))) T1 n1
  )
 )
theorem g63_ok (ih : FuncId → List HT → List AV → HT → Nat → R) (hI : ∀ f ro args T nx, GOk Tryz.prog envE f args ro T nx (ih f ro args T nx)) (ro : List HT) (a0 a1 a2 a3 : AV) (T : HT) (nx : Nat) : GOk Tryz.prog envE 63 [a0, a1, a2, a3] ro T nx (g63 ih ro a0 a1 a2 a3 T nx) := by
 refine GOk.of_body Tryz.func63 rfl Tryz.ntmps63 (by kernel_rfl) rfl fun r T' n' h1 w0 base ρ0 its hS hP => ?_
 have X : CtxW envE ρ0 ro r T' n' := trivial
 unfold g63 at h1
 refine sr ?_
 refine as_ ?_
 refine as_ ?_
 refine dn ?_
 refine CV.seq ?_
 refine CV.seq ?_
 refine CV.regionM [(0, .anywhere), (1, .anywhere), (2, .anywhere), (3, .held), (4, .held), (5, .anywhere), (6, .anywhere), (7, .anywhere), (8, .held), (9, .held), (10, .held)] rfl (fun c a a' w hd hq => PanicOk.root (P := Tryz.prog) (fn := Tryz.f63) (w0 := w0) (base := base) (E := envE) (ro := ro) (r := r) (T' := T') (n' := n') (ρ0 := ρ0) c a a' w hd hq) (by kernel_rfl) ?_
 refine MV.step0 (i := 0) rfl (VAL.move rfl) rfl rfl rfl ?_
 refine MV.lift0 (i := 1) rfl (V.nc h1 rfl) rfl rfl rfl fun x17_1 h2 => ?_
 refine MV.lift0 (i := 2) rfl (V.fa h2 rfl Vdf.fo98_1) rfl rfl rfl fun x18_2 h3 => ?_
 refine MV.lift1 (i := 3) rfl (fun _ z => z) (V.ld hS h3 rfl Vdf.one96) rfl rfl rfl [] (by kernel_rfl) fun x19_3 h4 => ?_
 refine MV.lift1 (i := 4) rfl (fun _ z => z) (V.lenS h4 rfl Vdf.ls96) rfl rfl rfl [] (by kernel_rfl) fun x20_4 h5 => ?_
 refine MV.step0 (i := 5) rfl (VAL.move rfl) rfl rfl rfl ?_
 refine MV.lift0 (i := 6) rfl (V.nc h5 rfl) rfl rfl rfl fun x22_5 h6 => ?_
 refine MV.lift0 (i := 7) rfl (V.fa h6 rfl Vdf.fo98_1) rfl rfl rfl fun x23_6 h7 => ?_
 refine MV.lift1 (i := 8) rfl (fun _ z => z) (V.ld hS h7 rfl Vdf.one96) rfl rfl rfl [4] (by kernel_rfl) fun x24_7 h8 => ?_
 refine MV.lift1 (i := 9) rfl (fun _ z => z) (V.lenS h8 rfl Vdf.ls96) rfl rfl rfl [4] (by kernel_rfl) fun x25_8 h9 => ?_
 refine MV.lift1 (i := 10) rfl (fun _ z => z) (V.ne h9 rfl rfl) rfl rfl rfl [] (by kernel_rfl) fun x26_9 h10 => ?_
 refine mdn ?_
 refine CV.cond h10 rfl (fun e h11 => ?_) (fun e h11 => ?_)
 ·
  clear h1 h2 h3 h4 h5 h6 h7 h8 h9 h10
  subst e
  cases h11
 ·
  clear h1 h2 h3 h4 h5 h6 h7 h8 h9 h10
  subst e
  refine CV.skip ?_
  refine PV.thenN ?_
  refine CV.seq ?_
  refine sr ?_
  refine mv ?_
  refine LV.call hS h11 (g95_ok _ _ _ _ _ ) hP rfl rfl rfl rfl fun x28_10 T1 n1 h12 ρ its hS => ?_
  refine as_ ?_
  refine dn ?_
  refine sr ?_
  refine mv ?_
  refine vy (V.bin0 h12 rfl rfl) fun x30_11 h13 => ?_
  refine dn ?_
  refine CV.cond h13 rfl (fun e h14 => ?_) (fun e h14 => ?_)
  ·
   clear h11 h12 h13
   subst e
   cases h14
  ·
   clear h11 h12 h13
   subst e
   refine CV.skip ?_
   refine PV.thenN ?_
   refine CV.seq ?_
   refine sr ?_
   refine mv ?_
   refine fl hS h14 Vdf.fo98_1 Vdf.one96 fun x35_12 h15 => ?_
   refine vy (V.lenS h15 rfl Vdf.ls96) fun x36_13 h16 => ?_
   refine mv ?_
   refine dn ?_
   refine CV.block ?_
   refine cl8 X 0 2 3 8 9 35 36 37 [] hS h16 ⟨rfl, rfl, rfl, rfl, rfl, rfl, rfl, rfl, trivial⟩ ?_
   intro f1 y0 y2 y3 y8 y9 y35 y36 y37 T2 n2 ρ its hS h17
   unfold g63_b1 at h17
   clear h14 h15 h16
   refine sr ?_
   refine vy (V.lt h17 rfl rfl) fun x38_14 h18 => ?_
   refine dn ?_
   refine CV.seq ?_
   refine CV.cond h18 rfl (fun e h19 => ?_) (fun e h19 => ?_)
   ·
    clear h17 h18
    subst e
    refine CV.skip ?_
    refine PV.thenN ?_
    refine CV.seq ?_
    refine CV.block ?_
    refine sr ?_
    refine vy (V.ia h19 rfl rfl Vdf.el96) fun x39_15 h20 => ?_
    refine vy (V.ld hS h20 rfl Vdf.one101) fun x40_16 h21 => ?_
    refine as_ ?_
    refine dn ?_
    refine CV.seq ?_
    refine CV.regionM [(0, .anywhere), (1, .anywhere), (2, .anywhere), (3, .held), (4, .anywhere), (5, .anywhere), (6, .anywhere), (7, .held), (8, .held), (9, .held)] rfl (fun c a a' w hd hq => PanicOk.root (P := Tryz.prog) (fn := Tryz.f63) (w0 := w0) (base := base) (E := envE) (ro := ro) (r := r) (T' := T') (n' := n') (ρ0 := ρ0) c a a' w hd hq) (by kernel_rfl) ?_
    refine MV.step0 (i := 0) rfl (VAL.move rfl) rfl rfl rfl ?_
    refine MV.lift0 (i := 1) rfl (V.nc h21 rfl) rfl rfl rfl fun x42_17 h22 => ?_
    refine MV.lift0 (i := 2) rfl (V.fa h22 rfl Vdf.fo98_2) rfl rfl rfl fun x43_18 h23 => ?_
    refine MV.lift1 (i := 3) rfl (fun _ z => z) (V.ld hS h23 rfl Vdf.one95) rfl rfl rfl [] (by kernel_rfl) fun x44_19 h24 => ?_
    refine MV.step0 (i := 4) rfl (VAL.move rfl) rfl rfl rfl ?_
    refine MV.lift0 (i := 5) rfl (V.nc h24 rfl) rfl rfl rfl fun x46_20 h25 => ?_
    refine MV.lift0 (i := 6) rfl (V.fa h25 rfl Vdf.fo103_0) rfl rfl rfl fun x47_21 h26 => ?_
    refine MV.lift1 (i := 7) rfl (fun _ z => z) (V.ld hS h26 rfl Vdf.one9) rfl rfl rfl [3] (by kernel_rfl) fun x48_22 h27 => ?_
    refine MV.lift1 (i := 8) rfl (fun _ z => z) (V.lkS hS h27 rfl rfl Vdf.map95 Vdf.ud9 Vdf.zw101) rfl rfl rfl [] (by kernel_rfl) fun x49_23 h28 => ?_
    refine MV.step1 (i := 9) rfl (fun _ z => z) (VAL.assign rfl) rfl rfl rfl [] (by kernel_rfl) ?_
    refine mdn ?_
    refine CV.seq ?_
    refine sr ?_
    refine mv ?_
    refine vy (V.bin0 h28 rfl rfl) fun x51_24 h29 => ?_
    refine dn ?_
    refine CV.cond h29 rfl (fun e h30 => ?_) (fun e h30 => ?_)
    ·
     clear h19 h20 h21 h22 h23 h24 h25 h26 h27 h28 h29
     subst e
     cases h30
    ·
     clear h19 h20 h21 h22 h23 h24 h25 h26 h27 h28 h29
     subst e
     refine CV.skip ?_
     refine PV.thenN ?_
     refine CV.seq ?_
     refine CV.regionM [(0, .anywhere), (1, .anywhere), (2, .anywhere), (3, .anywhere), (4, .held), (5, .anywhere), (6, .anywhere), (7, .anywhere), (8, .held), (9, .anywhere), (10, .anywhere), (11, .alone), (12, .alone), (13, .anywhere), (14, .anywhere), (15, .alone), (16, .alone)] rfl (fun c a a' w hd hq => PanicOk.root (P := Tryz.prog) (fn := Tryz.f63) (w0 := w0) (base := base) (E := envE) (ro := ro) (r := r) (T' := T') (n' := n') (ρ0 := ρ0) c a a' w hd hq) (by kernel_rfl) ?_
     refine MV.step0 (i := 0) rfl (VAL.move rfl) rfl rfl rfl ?_
     refine MV.step0 (i := 1) rfl (VAL.move rfl) rfl rfl rfl ?_
     refine MV.lift0 (i := 2) rfl (V.nc h30 rfl) rfl rfl rfl fun x55_25 h31 => ?_
     refine MV.lift0 (i := 3) rfl (V.fa h31 rfl Vdf.fo103_2) rfl rfl rfl fun x56_26 h32 => ?_
     refine MV.lift1 (i := 4) rfl (fun _ z => z) (V.ld hS h32 rfl Vdf.one25) rfl rfl rfl [] (by kernel_rfl) fun x57_27 h33 => ?_
     refine MV.step0 (i := 5) rfl (VAL.move rfl) rfl rfl rfl ?_
     refine MV.lift0 (i := 6) rfl (V.nc h33 rfl) rfl rfl rfl fun x59_28 h34 => ?_
     refine MV.lift0 (i := 7) rfl (V.fa h34 rfl Vdf.fo103_2) rfl rfl rfl fun x60_29 h35 => ?_
     refine MV.lift1 (i := 8) rfl (fun _ z => z) (V.ld hS h35 rfl Vdf.one25) rfl rfl rfl [4] (by kernel_rfl) fun x61_30 h36 => ?_
     refine MV.step0 (i := 9) rfl (VAL.move rfl) rfl rfl rfl ?_
     refine MV.lift0 (i := 10) rfl (V.add h36 rfl rfl) rfl rfl rfl fun x63_31 h37 => ?_
     refine MV.force (i := 11) rfl ?_
     refine LV.call hS h37 (hI _ _ _ _ _) hP rfl rfl rfl rfl fun x64_32 T3 n3 h38 ρ its hS => ?_
     refine LV.nextM [] (by kernel_rfl) (fun z => absurd rfl z) ?_
     refine MV.force (i := 12) rfl ?_
     refine mv ?_
     refine LV.nextM [] (by kernel_rfl) (fun z => absurd rfl z) ?_
     refine MV.lift0 (i := 13) rfl (V.ex h38 rfl) rfl rfl rfl fun x65_33 h39 => ?_
     refine MV.lift0 (i := 14) rfl (V.ex h39 rfl) rfl rfl rfl fun x66_34 h40 => ?_
     refine MV.force (i := 15) rfl ?_
     refine as_ ?_
     refine LV.nextM [] (by kernel_rfl) (fun z => absurd rfl z) ?_
     refine MV.force (i := 16) rfl ?_
     refine as_ ?_
     refine LV.nextM [] (by kernel_rfl) (fun z => absurd rfl z) ?_
     refine mdn ?_
     refine sr ?_
     refine mv ?_
     refine vy (V.not h40 rfl) fun x68_35 h41 => ?_
     refine mv ?_
     refine ls9 X 0 2 3 8 9 35 36 37 72 [] (g63_k2 ih ro (lpf8 630027 (g63_b1 ih ro) f1)) 3 ?_ ?_
     ·
      rcases condK_inv h41 with ⟨e, h45⟩ | ⟨e, h45⟩
      ·
       clear h30 h31 h32 h33 h34 h35 h36 h37 h38 h39 h40 h41
       subst e
       refine sk ?_
       refine sk ?_
       refine pu ?_
       exact la9 hS h45 ⟨rfl, rfl, rfl, rfl, rfl, rfl, rfl, rfl, rfl, trivial⟩
      ·
       clear h30 h31 h32 h33 h34 h35 h36 h37 h38 h39 h40 h41
       subst e
       refine mv ?_
       refine vy (V.bin0 h45 rfl rfl) fun x71_37 h46 => ?_
       refine pu ?_
       exact la9 hS h46 ⟨rfl, rfl, rfl, rfl, rfl, rfl, rfl, rfl, rfl, trivial⟩
     ·
      intro y0 y2 y3 y8 y9 y35 y36 y37 y72 T4 n4 ρ its hS h42
      unfold g63_k2 at h42
      clear h30 h31 h32 h33 h34 h35 h36 h37 h38 h39 h40 h41
      refine dn ?_
      refine CV.cond h42 rfl (fun e h43 => ?_) (fun e h43 => ?_)
      ·
       clear h42
       subst e
       cases h43
      ·
       clear h42
       subst e
       refine CV.skip ?_
       refine PV.blockN ?_
       refine PV.thenN ?_
       refine CV.region ?_
       refine vy (V.add h43 rfl rfl) fun x74_36 h44 => ?_
       refine mv ?_
       refine LV.done ?_
       exact pb8 hS h44 ⟨rfl, rfl, rfl, rfl, rfl, rfl, rfl, rfl, trivial⟩
   ·
    clear h17 h18
    subst e
    refine CV.exit ?_
    refine PV.thenE ?_
    refine PV.thenE ?_
    refine PV.blockE ?_
    refine PV.thenN ?_
    refine sr ?_
    refine as_ ?_
    refine as_ ?_
    refine dn ?_
    refine CV.ret ?_
    cases h19
    exact PV.ret (by simp) Tryz.results63 hS (RS.tmp rfl (RS.tmp rfl RS.nil)) rfl
noncomputable def ap6 (ih : FuncId → List HT → List AV → HT → Nat → R) (f : FuncId) (ro : List HT) (args : List AV) (T : HT) (nx : Nat) : R :=
  Bool.rec (motive := fun _ => R) (Bool.rec (motive := fun _ => R) (Bool.rec (motive := fun _ => R) (.bad 2) (List.rec (motive := fun _ => R) (.bad 1) (fun a0 l0 _ => List.rec (motive := fun _ => R) (.bad 1) (fun a1 l1 _ => List.rec (motive := fun _ => R) (.bad 1) (fun a2 l2 _ => List.rec (motive := fun _ => R) (.bad 1) (fun a3 l3 _ => List.rec (motive := fun _ => R) (g63 ih ro a0 a1 a2 a3 T nx) (fun _ _ _ => .bad 1) l3) l2) l1) l0) args) (Nat.beq f 63)) (Bool.rec (motive := fun _ => R) (.bad 2) (List.rec (motive := fun _ => R) (.bad 1) (fun a0 l0 _ => List.rec (motive := fun _ => R) (.bad 1) (fun a1 l1 _ => List.rec (motive := fun _ => R) (.bad 1) (fun a2 l2 _ => List.rec (motive := fun _ => R) (.bad 1) (fun a3 l3 _ => List.rec (motive := fun _ => R) (g62 ih ro a0 a1 a2 a3 T nx) (fun _ _ _ => .bad 1) l3) l2) l1) l0) args) (Nat.beq f 62)) (Nat.ble f 62)) (Bool.rec (motive := fun _ => R) (.bad 2) (List.rec (motive := fun _ => R) (.bad 1) (fun a0 l0 _ => List.rec (motive := fun _ => R) (.bad 1) (fun a1 l1 _ => List.rec (motive := fun _ => R) (.bad 1) (fun a2 l2 _ => List.rec (motive := fun _ => R) (.bad 1) (fun a3 l3 _ => List.rec (motive := fun _ => R) (g34 ih ro a0 a1 a2 a3 T nx) (fun _ _ _ => .bad 1) l3) l2) l1) l0) args) (Nat.beq f 34)) (Nat.ble f 34)
noncomputable def scc6 (fuel : Nat) : FuncId → List HT → List AV → HT → Nat → R :=
  Nat.rec (motive := fun _ => FuncId → List HT → List AV → HT → Nat → R) (fun _ _ _ _ _ => .bad 3) (fun _ ih => ap6 ih) fuel
theorem ap6_ok (ih : FuncId → List HT → List AV → HT → Nat → R) (hI : ∀ f ro args T nx, GOk Tryz.prog envE f args ro T nx (ih f ro args T nx)) (f : FuncId) (ro : List HT) (args : List AV) (T : HT) (nx : Nat) : GOk Tryz.prog envE f args ro T nx (ap6 ih f ro args T nx) := by
  unfold ap6
  refine recb_go (fun hb => ?_) (fun _ => ?_)
  · refine recb_go (fun hb => ?_) (fun _ => ?_)
    · obtain rfl := beqT hb
      rcases args with _ | ⟨a0, l0⟩
      · exact GOk.bad
      rcases l0 with _ | ⟨a1, l1⟩
      · exact GOk.bad
      rcases l1 with _ | ⟨a2, l2⟩
      · exact GOk.bad
      rcases l2 with _ | ⟨a3, l3⟩
      · exact GOk.bad
      rcases l3 with _ | ⟨_, _⟩
      · exact g34_ok _ hI _ _ _ _ _ _ _ 
      · exact GOk.bad
    · exact GOk.bad
  · refine recb_go (fun hb => ?_) (fun _ => ?_)
    · refine recb_go (fun hb => ?_) (fun _ => ?_)
      · obtain rfl := beqT hb
        rcases args with _ | ⟨a0, l0⟩
        · exact GOk.bad
        rcases l0 with _ | ⟨a1, l1⟩
        · exact GOk.bad
        rcases l1 with _ | ⟨a2, l2⟩
        · exact GOk.bad
        rcases l2 with _ | ⟨a3, l3⟩
        · exact GOk.bad
        rcases l3 with _ | ⟨_, _⟩
        · exact g62_ok _ hI _ _ _ _ _ _ _ 
        · exact GOk.bad
      · exact GOk.bad
    · refine recb_go (fun hb => ?_) (fun _ => ?_)
      · obtain rfl := beqT hb
        rcases args with _ | ⟨a0, l0⟩
        · exact GOk.bad
        rcases l0 with _ | ⟨a1, l1⟩
        · exact GOk.bad
        rcases l1 with _ | ⟨a2, l2⟩
        · exact GOk.bad
        rcases l2 with _ | ⟨a3, l3⟩
        · exact GOk.bad
        rcases l3 with _ | ⟨_, _⟩
        · exact g63_ok _ hI _ _ _ _ _ _ _ 
        · exact GOk.bad
      · exact GOk.bad
theorem scc6_ok : ∀ (fuel : Nat) (f : FuncId) (ro : List HT) (args : List AV) (T : HT) (nx : Nat), GOk Tryz.prog envE f args ro T nx (scc6 fuel f ro args T nx)
  | 0, _, _, _, _, _ => GOk.bad
  | fuel + 1, f, ro, args, T, nx => ap6_ok (scc6 fuel) (scc6_ok fuel) f ro args T nx

end Go.Proofs.YtlljgagoboapaaaGreatDoor.Vd
