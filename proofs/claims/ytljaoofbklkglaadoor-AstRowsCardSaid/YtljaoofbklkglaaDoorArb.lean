/-
  Proved here: plain functions that do what the program's functions do, each with its proof.
-/
import Derived.Test.YtljaoofbklkglaaDoorAra
namespace Go.Proofs.YtljaoofbklkglaaDoor.Ar
open Go.EY Go.EX Go.SX Go.RowKit
variable {pn pm : Nat}
noncomputable def g17_k1 (ih : FuncId → List HT → List AV → HT → Nat → R) (ro : List HT) (y10 : AV) (T3 : HT) (n3 : Nat) : R :=
 .ok (.val (.lit (.bool true))) T3 n3
noncomputable def g17_k6 (ih : FuncId → List HT → List AV → HT → Nat → R) (ro : List HT) (lp4 : AV → AV → AV → AV → AV → AV → AV → AV → AV → AV → HT → Nat → R) (y0 y1 y2 y3 y4 y10 y11 y39 y40 y41 y56 y57 y58 y59 y65 : AV) (T8 : HT) (n8 : Nat) : R :=
 callK (ih 17 ro [y56, y57, y58, y59, y65] T8 n8) fun x66_15 T9 n9 =>
 notK 170043 x66_15 fun x67_16 =>
 condK 170044 x67_16
 (
  .bad 170045
 )
 (
  addK Tryd.prog 3 (.tmp 41) (.const (.int .i64 (.ofNat 1))) 170046 y41 (.lit (.int .i64 (.ofNat 1))) fun x68_17 =>
  lp4 y0 y1 y2 y3 y4 y10 y11 y39 y40 x68_17 T9 n9
 )
noncomputable def g17_k5 (ih : FuncId → List HT → List AV → HT → Nat → R) (ro : List HT) (lp4 : AV → AV → AV → AV → AV → AV → AV → AV → AV → AV → HT → Nat → R) (y0 y1 y2 y3 y4 y10 y11 y13 y39 y40 y41 y55 : AV) (T7 : HT) (n7 : Nat) : R :=
 condK 170048 y4
 (
  g17_k6 ih ro lp4 y0 y1 y2 y3 (.lit (.bool true)) y10 y11 y39 y40 y41 y0 y13 y55 y3 (.lit (.bool true)) T7 n7
 )
 (
  faK 170050 y11 0 fun x62_18 =>
  ldK 170051 T7 ro x62_18 fun x63_19 =>
  eqK Tryd.prog 3 (.tmp 63) (.const (.int .i64 (.ofNat 44))) 170052 x63_19 (.lit (.int .i64 (.ofNat 44))) fun x64_20 =>
  g17_k6 ih ro lp4 y0 y1 y2 y3 (.lit (.bool false)) y10 y11 y39 y40 y41 y0 y13 y55 y3 x64_20 T7 n7
 )
noncomputable def g17_b4 (ih : FuncId → List HT → List AV → HT → Nat → R) (ro : List HT) (lp4 : AV → AV → AV → AV → AV → AV → AV → AV → AV → AV → HT → Nat → R) (y0 y1 y2 y3 y4 y10 y11 y39 y40 y41 : AV) (T6 : HT) (n6 : Nat) : R :=
 ltK Tryd.prog 3 (.tmp 41) (.tmp 40) 170028 y41 y40 fun x42_12 =>
 condK 170029 x42_12
 (
  iaK 170030 y39 y41 1 fun x43_13 =>
  ldK 170031 T6 ro x43_13 fun x44_14 =>
  condK 170054 y2
  (
   ncK 170057 y0 fun x49_21 =>
   faK 170058 x49_21 0 fun x50_22 =>
   ldK 170059 T6 ro x50_22 fun x51_23 =>
   lenSK 170060 x51_23 fun x52_24 =>
   subK Tryd.prog 3 (.tmp 52) (.const (.int .i64 (.ofNat 1))) 170061 x52_24 (.lit (.int .i64 (.ofNat 1))) fun x53_25 =>
   eqK Tryd.prog 3 (.tmp 47) (.tmp 53) 170062 y1 x53_25 fun x54_26 =>
   g17_k5 ih ro lp4 y0 y1 (.lit (.bool true)) y3 y4 y10 y11 x44_14 y39 y40 y41 x54_26 T6 n6
  )
  (
   g17_k5 ih ro lp4 y0 y1 (.lit (.bool false)) y3 y4 y10 y11 x44_14 y39 y40 y41 (.lit (.bool false)) T6 n6
  )
 )
 (
  g17_k1 ih ro y10 T6 n6
 )
noncomputable def g17_k3 (ih : FuncId → List HT → List AV → HT → Nat → R) (ro : List HT) (y0 y1 y2 y3 y4 y10 y11 y23 y34 : AV) (T5 : HT) (n5 : Nat) : R :=
 condK 170022 y34
 (
  faK 170023 y11 4 fun x38_9 =>
  ldK 170024 T5 ro x38_9 fun x39_10 =>
  lenSK 170025 x39_10 fun x40_11 =>
  lpf10 170027 (g17_b4 ih ro) 100000 y0 y1 y2 y3 y4 y10 y11 x39_10 x40_11 (.lit (.int .i64 (.ofNat 0))) T5 n5
 )
 (
  eqK Tryd.prog 3 (.tmp 23) (.const (.int .i64 (.ofNat 45))) 170065 y23 (.lit (.int .i64 (.ofNat 45))) fun x70_27 =>
  condK 170067 x70_27
  (
   .bad 170068
  )
  (
   g17_k1 ih ro y10 T5 n5
  )
 )
noncomputable def g17_k2 (ih : FuncId → List HT → List AV → HT → Nat → R) (ro : List HT) (y0 y1 y2 y3 y4 y10 y11 y23 y24 : AV) (T4 : HT) (n4 : Nat) : R :=
 condK 170012 y24
 (
  .bad 170013
 )
 (
  eqK Tryd.prog 3 (.tmp 23) (.const (.int .i64 (.ofNat 41))) 170014 y23 (.lit (.int .i64 (.ofNat 41))) fun x29_7 =>
  condK 170016 x29_7
  (
   .bad 170017
  )
  (
   eqK Tryd.prog 3 (.tmp 23) (.const (.int .i64 (.ofNat 42))) 170018 y23 (.lit (.int .i64 (.ofNat 42))) fun x32_8 =>
   condK 170020 x32_8
   (
    .bad 170021
   )
   (
    eqK Tryd.prog 3 (.tmp 23) (.const (.int .i64 (.ofNat 47))) 170069 y23 (.lit (.int .i64 (.ofNat 47))) fun x35_28 =>
    condK 170071 x35_28
    (
     g17_k3 ih ro y0 y1 y2 y3 y4 y10 y11 y23 (.lit (.bool true)) T4 n4
    )
    (
     eqK Tryd.prog 3 (.tmp 23) (.const (.int .i64 (.ofNat 43))) 170072 y23 (.lit (.int .i64 (.ofNat 43))) fun x36_29 =>
     condK 170074 x36_29
     (
      g17_k3 ih ro y0 y1 y2 y3 y4 y10 y11 y23 (.lit (.bool true)) T4 n4
     )
     (
      eqK Tryd.prog 3 (.tmp 23) (.const (.int .i64 (.ofNat 44))) 170075 y23 (.lit (.int .i64 (.ofNat 44))) fun x37_30 =>
      g17_k3 ih ro y0 y1 y2 y3 y4 y10 y11 y23 x37_30 T4 n4
     )
    )
   )
  )
 )
noncomputable def g17 (ih : FuncId → List HT → List AV → HT → Nat → R) (ro : List HT) (a0 a1 a2 a3 a4 : AV) (T : HT) (nx : Nat) : R :=
 fldK 170003 T ro a0 0 fun x18_1 =>
 iaK 170005 x18_1 a1 5 fun x20_2 =>
 ldAK 170006 T ro x20_2 5 fun x21_3 =>
 newK T nx (.obj [.lit (.int .i64 0), .lit (.int .i64 0), .lit (.int .i64 0), .lit (.string ⟨#[]⟩), .lit (.slice none 0 0)] 28) fun x11_4 T1 n1 =>
 stAK 170008 T1 x11_4 x21_3 5 fun T2 =>
 faK 170010 x11_4 0 fun x22_5 =>
 ldK 170011 T2 ro x22_5 fun x23_6 =>
 eqK Tryd.prog 3 (.tmp 23) (.const (.int .i64 (.ofNat 39))) 170077 x23_6 (.lit (.int .i64 (.ofNat 39))) fun x25_31 =>
 condK 170079 x25_31
 (
  g17_k2 ih ro a0 a1 a2 a3 a4 (.lit (.bool false)) x11_4 x23_6 (.lit (.bool true)) T2 n1
 )
 (
  eqK Tryd.prog 3 (.tmp 23) (.const (.int .i64 (.ofNat 40))) 170080 x23_6 (.lit (.int .i64 (.ofNat 40))) fun x26_32 =>
  g17_k2 ih ro a0 a1 a2 a3 a4 (.lit (.bool false)) x11_4 x23_6 x26_32 T2 n1
 )
theorem g17_ok (ih : FuncId → List HT → List AV → HT → Nat → R) (hI : ∀ f ro args T nx, GOk Tryd.prog (envE pn pm) f args ro T nx (ih f ro args T nx)) (ro : List HT) (a0 a1 a2 a3 a4 : AV) (T : HT) (nx : Nat) : GOk Tryd.prog (envE pn pm) 17 [a0, a1, a2, a3, a4] ro T nx (g17 ih ro a0 a1 a2 a3 a4 T nx) := by
 refine GOk.of_body Tryd.func17 rfl Tryd.ntmps17 (by kernel_rfl) rfl fun r T' n' h1 w0 base ρ0 its hS hP => ?_
 have X : CtxW (envE pn pm) ρ0 ro r T' n' := trivial
 unfold g17 at h1
 refine sr ?_
 refine as_ ?_
 refine dn ?_
 refine sr ?_
 refine mv ?_
 refine fl hS h1 Arf.fo43_0 Arf.one24 fun x18_1 h2 => ?_
 refine mv ?_
 refine vy (V.ia h2 rfl rfl Arf.el24) fun x20_2 h3 => ?_
 refine vy (V.ldA hS h3 rfl Arf.agg28) fun x21_3 h4 => ?_
 refine LV.alloc hS h4 rfl Arf.zr28 rfl rfl rfl fun x11_4 T1 n1 h5 ρ its hS hdr => ?_
 refine LV.stA hS h5 rfl rfl rfl Arf.agg28 rfl rfl rfl fun T2 its h6 hS => ?_
 refine dn ?_
 refine cs1 X 10 [] (g17_k1 ih ro) ?_ ?_
 ·
  refine sr ?_
  refine vy (V.fa h6 rfl Arf.fo28_0) fun x22_5 h8 => ?_
  refine vy (V.ld hS h8 rfl Arf.one3) fun x23_6 h9 => ?_
  refine dn ?_
  refine CV.block ?_
  refine cs9 X 0 1 2 3 4 10 11 23 24 [] (g17_k2 ih ro) ?_ ?_
  ·
   refine sr ?_
   refine vy (V.eq h9 rfl rfl) fun x25_31 h50 => ?_
   refine as_ ?_
   refine dn ?_
   refine CV.cond h50 rfl (fun e h51 => ?_) (fun e h51 => ?_)
   ·
    clear h1 h2 h3 h4 h5 h6 h8 h9 h50
    subst e
    refine CV.skip ?_
    exact pa9 hS h51 ⟨rfl, rfl, rfl, rfl, rfl, rfl, rfl, rfl, rfl, trivial⟩
   ·
    clear h1 h2 h3 h4 h5 h6 h8 h9 h50
    subst e
    refine CV.region ?_
    refine vy (V.eq h51 rfl rfl) fun x26_32 h52 => ?_
    refine as_ ?_
    refine LV.done ?_
    exact pa9 hS h52 ⟨rfl, rfl, rfl, rfl, rfl, rfl, rfl, rfl, rfl, trivial⟩
  ·
   intro y0 y1 y2 y3 y4 y10 y11 y23 y24 T4 n4 ρ its hS h10
   unfold g17_k2 at h10
   clear h1 h2 h3 h4 h5 h6 h8 h9
   refine CV.cond h10 rfl (fun e h11 => ?_) (fun e h11 => ?_)
   ·
    clear h10
    subst e
    cases h11
   ·
    clear h10
    subst e
    refine sr ?_
    refine vy (V.eq h11 rfl rfl) fun x29_7 h12 => ?_
    refine as_ ?_
    refine dn ?_
    refine CV.cond h12 rfl (fun e h13 => ?_) (fun e h13 => ?_)
    ·
     clear h11 h12
     subst e
     cases h13
    ·
     clear h11 h12
     subst e
     refine sr ?_
     refine vy (V.eq h13 rfl rfl) fun x32_8 h14 => ?_
     refine as_ ?_
     refine dn ?_
     refine CV.cond h14 rfl (fun e h15 => ?_) (fun e h15 => ?_)
     ·
      clear h13 h14
      subst e
      cases h15
     ·
      clear h13 h14
      subst e
      refine cs9 X 0 1 2 3 4 10 11 23 34 [] (g17_k3 ih ro) ?_ ?_
      ·
       refine sr ?_
       refine vy (V.eq h15 rfl rfl) fun x35_28 h45 => ?_
       refine as_ ?_
       refine dn ?_
       refine CV.cond h45 rfl (fun e h46 => ?_) (fun e h46 => ?_)
       ·
        clear h15 h45
        subst e
        refine CV.skip ?_
        exact pa9 hS h46 ⟨rfl, rfl, rfl, rfl, rfl, rfl, rfl, rfl, rfl, trivial⟩
       ·
        clear h15 h45
        subst e
        refine sr ?_
        refine vy (V.eq h46 rfl rfl) fun x36_29 h47 => ?_
        refine as_ ?_
        refine dn ?_
        refine CV.cond h47 rfl (fun e h48 => ?_) (fun e h48 => ?_)
        ·
         clear h46 h47
         subst e
         refine CV.skip ?_
         exact pa9 hS h48 ⟨rfl, rfl, rfl, rfl, rfl, rfl, rfl, rfl, rfl, trivial⟩
        ·
         clear h46 h47
         subst e
         refine CV.region ?_
         refine vy (V.eq h48 rfl rfl) fun x37_30 h49 => ?_
         refine as_ ?_
         refine LV.done ?_
         exact pa9 hS h49 ⟨rfl, rfl, rfl, rfl, rfl, rfl, rfl, rfl, rfl, trivial⟩
      ·
       intro y0 y1 y2 y3 y4 y10 y11 y23 y34 T5 n5 ρ its hS h16
       unfold g17_k3 at h16
       clear h15
       refine CV.cond h16 rfl (fun e h17 => ?_) (fun e h17 => ?_)
       ·
        clear h16
        subst e
        refine sr ?_
        refine vy (V.fa h17 rfl Arf.fo28_4) fun x38_9 h18 => ?_
        refine vy (V.ld hS h18 rfl Arf.one22) fun x39_10 h19 => ?_
        refine vy (V.lenS h19 rfl Arf.ls22) fun x40_11 h20 => ?_
        refine mv ?_
        refine dn ?_
        refine CV.block ?_
        refine cl10 X 0 1 2 3 4 10 11 39 40 41 [] hS h20 ⟨rfl, rfl, rfl, rfl, rfl, rfl, rfl, rfl, rfl, rfl, trivial⟩ ?_
        intro f4 y0 y1 y2 y3 y4 y10 y11 y39 y40 y41 T6 n6 ρ its hS h21
        unfold g17_b4 at h21
        clear h17 h18 h19 h20
        refine sr ?_
        refine vy (V.lt h21 rfl rfl) fun x42_12 h22 => ?_
        refine dn ?_
        refine CV.seq ?_
        refine CV.cond h22 rfl (fun e h23 => ?_) (fun e h23 => ?_)
        ·
         clear h21 h22
         subst e
         refine CV.skip ?_
         refine PV.thenN ?_
         refine CV.seq ?_
         refine CV.block ?_
         refine sr ?_
         refine vy (V.ia h23 rfl rfl Arf.el22) fun x43_13 h24 => ?_
         refine vy (V.ld hS h24 rfl Arf.one3) fun x44_14 h25 => ?_
         refine as_ ?_
         refine dn ?_
         refine sr ?_
         refine mv ?_
         refine mv ?_
         refine ls12 X 0 1 2 3 4 10 11 13 39 40 41 55 [] (g17_k5 ih ro (lpf10 170027 (g17_b4 ih ro) f4)) 9 ?_ ?_
         ·
          rcases condK_inv h25 with ⟨e, h36⟩ | ⟨e, h36⟩
          ·
           clear h23 h24 h25
           subst e
           refine mv ?_
           refine mv ?_
           refine vy (V.nc h36 rfl) fun x49_21 h37 => ?_
           refine vy (V.fa h37 rfl Arf.fo43_0) fun x50_22 h38 => ?_
           refine vy (V.ld hS h38 rfl Arf.one24) fun x51_23 h39 => ?_
           refine vy (V.lenS h39 rfl Arf.ls24) fun x52_24 h40 => ?_
           refine vy (V.sub h40 rfl rfl) fun x53_25 h41 => ?_
           refine vy (V.eq h41 rfl rfl) fun x54_26 h42 => ?_
           refine pu ?_
           exact la12 hS h42 ⟨rfl, rfl, rfl, rfl, rfl, rfl, rfl, rfl, rfl, rfl, rfl, rfl, trivial⟩
          ·
           clear h23 h24 h25
           subst e
           refine sk ?_
           refine sk ?_
           refine sk ?_
           refine sk ?_
           refine sk ?_
           refine sk ?_
           refine sk ?_
           refine sk ?_
           refine pu ?_
           exact la12 hS h36 ⟨rfl, rfl, rfl, rfl, rfl, rfl, rfl, rfl, rfl, rfl, rfl, rfl, trivial⟩
         ·
          intro y0 y1 y2 y3 y4 y10 y11 y13 y39 y40 y41 y55 T7 n7 ρ its hS h26
          unfold g17_k5 at h26
          clear h23 h24 h25
          refine as_ ?_
          refine dn ?_
          refine sr ?_
          refine mv ?_
          refine mv ?_
          refine mv ?_
          refine mv ?_
          refine mv ?_
          refine mv ?_
          refine ls15 X 0 1 2 3 4 10 11 39 40 41 56 57 58 59 65 [] (g17_k6 ih ro (lpf10 170027 (g17_b4 ih ro) f4)) 4 ?_ ?_
          ·
           rcases condK_inv h26 with ⟨e, h32⟩ | ⟨e, h32⟩
           ·
            clear h26
            subst e
            refine sk ?_
            refine sk ?_
            refine sk ?_
            refine pu ?_
            exact la15 hS h32 ⟨rfl, rfl, rfl, rfl, rfl, rfl, rfl, rfl, rfl, rfl, rfl, rfl, rfl, rfl, rfl, trivial⟩
           ·
            clear h26
            subst e
            refine vy (V.fa h32 rfl Arf.fo28_0) fun x62_18 h33 => ?_
            refine vy (V.ld hS h33 rfl Arf.one3) fun x63_19 h34 => ?_
            refine vy (V.eq h34 rfl rfl) fun x64_20 h35 => ?_
            refine pu ?_
            exact la15 hS h35 ⟨rfl, rfl, rfl, rfl, rfl, rfl, rfl, rfl, rfl, rfl, rfl, rfl, rfl, rfl, rfl, trivial⟩
          ·
           intro y0 y1 y2 y3 y4 y10 y11 y39 y40 y41 y56 y57 y58 y59 y65 T8 n8 ρ its hS h27
           unfold g17_k6 at h27
           clear h26
           refine LV.call hS h27 (hI _ _ _ _ _) hP rfl rfl rfl rfl fun x66_15 T9 n9 h28 ρ its hS => ?_
           refine vy (V.not h28 rfl) fun x67_16 h29 => ?_
           refine dn ?_
           refine CV.cond h29 rfl (fun e h30 => ?_) (fun e h30 => ?_)
           ·
            clear h27 h28 h29
            subst e
            cases h30
           ·
            clear h27 h28 h29
            subst e
            refine CV.skip ?_
            refine PV.blockN ?_
            refine PV.thenN ?_
            refine CV.region ?_
            refine vy (V.add h30 rfl rfl) fun x68_17 h31 => ?_
            refine mv ?_
            refine LV.done ?_
            exact pb10 hS h31 ⟨rfl, rfl, rfl, rfl, rfl, rfl, rfl, rfl, rfl, rfl, trivial⟩
        ·
         clear h21 h22
         subst e
         refine CV.exit ?_
         refine PV.thenE ?_
         refine PV.thenE ?_
         refine PV.blockE ?_
         refine PV.blockN ?_
         exact pa1 hS h23 ⟨rfl, trivial⟩
       ·
        clear h16
        subst e
        refine sr ?_
        refine vy (V.eq h17 rfl rfl) fun x70_27 h43 => ?_
        refine as_ ?_
        refine dn ?_
        refine CV.cond h43 rfl (fun e h44 => ?_) (fun e h44 => ?_)
        ·
         clear h17 h43
         subst e
         cases h44
        ·
         clear h17 h43
         subst e
         refine CV.skip ?_
         refine PV.blockN ?_
         exact pa1 hS h44 ⟨rfl, trivial⟩
 ·
  intro y10 T3 n3 ρ its hS h7
  unfold g17_k1 at h7
  clear h1 h2 h3 h4 h5 h6
  refine sr ?_
  refine as_ ?_
  refine dn ?_
  refine CV.ret ?_
  cases h7
  exact PV.ret (by simp) Tryd.results17 hS (RS.tmp rfl RS.nil) rfl
noncomputable def ap1 (ih : FuncId → List HT → List AV → HT → Nat → R) (f : FuncId) (ro : List HT) (args : List AV) (T : HT) (nx : Nat) : R :=
  Bool.rec (motive := fun _ => R) (.bad 2) (List.rec (motive := fun _ => R) (.bad 1) (fun a0 l0 _ => List.rec (motive := fun _ => R) (.bad 1) (fun a1 l1 _ => List.rec (motive := fun _ => R) (.bad 1) (fun a2 l2 _ => List.rec (motive := fun _ => R) (.bad 1) (fun a3 l3 _ => List.rec (motive := fun _ => R) (.bad 1) (fun a4 l4 _ => List.rec (motive := fun _ => R) (g17 ih ro a0 a1 a2 a3 a4 T nx) (fun _ _ _ => .bad 1) l4) l3) l2) l1) l0) args) (Nat.beq f 17)
noncomputable def scc1 (fuel : Nat) : FuncId → List HT → List AV → HT → Nat → R :=
  Nat.rec (motive := fun _ => FuncId → List HT → List AV → HT → Nat → R) (fun _ _ _ _ _ => .bad 3) (fun _ ih => ap1 ih) fuel
theorem ap1_ok (ih : FuncId → List HT → List AV → HT → Nat → R) (hI : ∀ f ro args T nx, GOk Tryd.prog (envE pn pm) f args ro T nx (ih f ro args T nx)) (f : FuncId) (ro : List HT) (args : List AV) (T : HT) (nx : Nat) : GOk Tryd.prog (envE pn pm) f args ro T nx (ap1 ih f ro args T nx) := by
  unfold ap1
  refine recb_go (fun hb => ?_) (fun _ => ?_)
  · obtain rfl := beqT hb
    rcases args with _ | ⟨a0, l0⟩
    · exact GOk.bad
    rcases l0 with _ | ⟨a1, l1⟩
    · exact GOk.bad
    rcases l1 with _ | ⟨a2, l2⟩
    · exact GOk.bad
    rcases l2 with _ | ⟨a3, l3⟩
    · exact GOk.bad
    rcases l3 with _ | ⟨a4, l4⟩
    · exact GOk.bad
    rcases l4 with _ | ⟨_, _⟩
    · exact g17_ok _ hI _ _ _ _ _ _ _ _ 
    · exact GOk.bad
  · exact GOk.bad
theorem scc1_ok : ∀ (fuel : Nat) (f : FuncId) (ro : List HT) (args : List AV) (T : HT) (nx : Nat), GOk Tryd.prog (envE pn pm) f args ro T nx (scc1 fuel f ro args T nx)
  | 0, _, _, _, _, _ => GOk.bad
  | fuel + 1, f, ro, args, T, nx => ap1_ok (scc1 fuel) (scc1_ok fuel) f ro args T nx
noncomputable def g7_k2 (ro : List HT) (lp1 : AV → AV → AV → AV → AV → AV → HT → Nat → R) (y0 y2 y3 y17 y18 y19 y43 : AV) (T6 : HT) (n6 : Nat) : R :=
 condK 70026 y43
 (
  .bad 70027
 )
 (
  addK Tryd.prog 3 (.tmp 19) (.const (.int .i64 (.ofNat 1))) 70028 y19 (.lit (.int .i64 (.ofNat 1))) fun x49_12 =>
  lp1 y0 y2 y3 y17 y18 x49_12 T6 n6
 )
noncomputable def g7_k5 (ro : List HT) (y2 y77 : AV) (T11 : HT) (n11 : Nat) : R :=
 condK 70066 y77
 (
  .bad 70067
 )
 (
  .ok (.val (.lit (.nilIface))) T11 n11
 )
noncomputable def g7_k4 (ro : List HT) (y2 y3 y6 y71 : AV) (T10 : HT) (n10 : Nat) : R :=
 condK 70069 y71
 (
  g7_k5 ro y2 (.lit (.bool true)) T10 n10
 )
 (
  callK (scc1 4000 17 ro [y3, y6, (.lit (.bool true)), (.lit (.bool false)), (.lit (.bool false))] T10 n10) fun x75_29 T12 n12 =>
  notK 70074 x75_29 fun x76_30 =>
  g7_k5 ro y2 x76_30 T12 n12
 )
noncomputable def g7_k3 (ro : List HT) (y2 y3 y6 y62 : AV) (T9 : HT) (n9 : Nat) : R :=
 condK 70076 y62
 (
  g7_k4 ro y2 y3 y6 (.lit (.bool true)) T9 n9
 )
 (
  ncK 70079 y3 fun x65_31 =>
  faK 70080 x65_31 1 fun x66_32 =>
  ldK 70081 T9 ro x66_32 fun x67_33 =>
  cutHiK 70083 T9 ro x67_33 y6 fun x69_34 =>
  callK (g16 ro x69_34 (.lit (.bool false)) T9 n9) fun x70_35 T13 n13 =>
  g7_k4 ro y2 y3 y6 x70_35 T13 n13
 )
noncomputable def g7_b1 (ro : List HT) (lp1 : AV → AV → AV → AV → AV → AV → HT → Nat → R) (y0 y2 y3 y17 y18 y19 : AV) (T3 : HT) (n3 : Nat) : R :=
 ltK Tryd.prog 3 (.tmp 19) (.tmp 18) 70018 y19 y18 fun x20_8 =>
 condK 70019 x20_8
 (
  iaK 70021 y17 y19 5 fun x22_9 =>
  ldAK 70022 T3 ro x22_9 5 fun x23_10 =>
  newK T3 n3 (.obj [.lit (.int .i64 0), .lit (.int .i64 0), .lit (.int .i64 0), .lit (.string ⟨#[]⟩), .lit (.slice none 0 0)] 28) fun x5_11 T4 n4 =>
  stAK 70025 T4 x5_11 x23_10 5 fun T5 =>
  faK 70030 x5_11 4 fun x24_13 =>
  ldK 70031 T5 ro x24_13 fun x25_14 =>
  ncK 70034 y3 fun x28_15 =>
  faK 70035 x28_15 1 fun x29_16 =>
  ldK 70036 T5 ro x29_16 fun x30_17 =>
  callK (g14 ro x25_14 y19 x30_17 T5 n4) fun x31_18 T7 n7 =>
  notK 70038 x31_18 fun x32_19 =>
  condK 70040 x32_19
  (
   condK 70043 (.lit (.bool true))
   (
    g7_k2 ro lp1 y0 y2 y3 y17 y18 y19 (.lit (.bool true)) T7 n7
   )
   (
    .bad 0
   )
  )
  (
   faK 70045 x5_11 1 fun x34_20 =>
   ldK 70046 T7 ro x34_20 fun x35_21 =>
   neK Tryd.prog 3 (.tmp 35) (.const (.int .i64 (.ofNat 0))) 70047 x35_21 (.lit (.int .i64 (.ofNat 0))) fun x36_22 =>
   condK 70050 x36_22
   (
    g7_k2 ro lp1 y0 y2 y3 y17 y18 y19 (.lit (.bool true)) T7 n7
   )
   (
    ldAK 70053 T7 ro x5_11 5 fun x40_23 =>
    callK (g15 ro y3 x40_23 T7 n7) fun x41_24 T8 n8 =>
    notK 70055 x41_24 fun x42_25 =>
    g7_k2 ro lp1 y0 y2 y3 y17 y18 y19 x42_25 T8 n8
   )
  )
 )
 (
  lenSK 70058 y0 fun x51_26 =>
  subK Tryd.prog 3 (.tmp 51) (.const (.int .i64 (.ofNat 1))) 70059 x51_26 (.lit (.int .i64 (.ofNat 1))) fun x52_27 =>
  ltK Tryd.prog 3 (.tmp 53) (.const (.int .i64 (.ofNat 0))) 70062 x52_27 (.lit (.int .i64 (.ofNat 0))) fun x54_28 =>
  condK 70086 x54_28
  (
   g7_k3 ro y2 y3 x52_27 (.lit (.bool true)) T3 n3
  )
  (
   iaK 70090 y0 x52_27 5 fun x58_36 =>
   faK 70091 x58_36 0 fun x59_37 =>
   ldK 70092 T3 ro x59_37 fun x60_38 =>
   neK Tryd.prog 3 (.tmp 60) (.const (.int .i64 (.ofNat 47))) 70093 x60_38 (.lit (.int .i64 (.ofNat 47))) fun x61_39 =>
   g7_k3 ro y2 y3 x52_27 x61_39 T3 n3
  )
 )
noncomputable def g7 (ro : List HT) (a0 : AV) (T : HT) (nx : Nat) : R :=
 lenSK 70003 a0 fun x8_1 =>
 gtK Tryd.prog 3 (.tmp 8) (.const (.int .i64 (.ofNat 1048576))) 70004 x8_1 (.lit (.int .i64 (.ofNat 1048576))) fun x9_2 =>
 condK 70005 x9_2
 (
  .bad 70006
 )
 (
  lenSK 70009 a0 fun x13_3 =>
  mkK 70010 T nx 4 1 (.lit (.bool false)) x13_3 fun x14_4 T1 n1 =>
  optK 70011 (bld43 [(0, a0), (1, x14_4)]) fun x15_5 =>
  boxK 70012 T1 n1 x15_5 43 fun x16_6 T2 n2 =>
  lenSK 70015 a0 fun x18_7 =>
  lpf6 70017 (g7_b1 ro) 100000 a0 (.lit (.nilIface)) x16_6 a0 x18_7 (.lit (.int .i64 (.ofNat 0))) T2 n2
 )
theorem g7_ok (ro : List HT) (a0 : AV) (T : HT) (nx : Nat) : GOk Tryd.prog (envE pn pm) 7 [a0] ro T nx (g7 ro a0 T nx) := by
 refine GOk.of_body Tryd.func7 rfl Tryd.ntmps7 (by kernel_rfl) rfl fun r T' n' h1 w0 base ρ0 its hS hP => ?_
 have X : CtxW (envE pn pm) ρ0 ro r T' n' := trivial
 unfold g7 at h1
 refine sr ?_
 refine as_ ?_
 refine dn ?_
 refine CV.seq ?_
 refine sr ?_
 refine mv ?_
 refine vy (V.lenS h1 rfl Arf.ls24) fun x8_1 h2 => ?_
 refine vy (V.gt h2 rfl rfl) fun x9_2 h3 => ?_
 refine dn ?_
 refine CV.cond h3 rfl (fun e h4 => ?_) (fun e h4 => ?_)
 ·
  clear h1 h2 h3
  subst e
  cases h4
 ·
  clear h1 h2 h3
  subst e
  refine CV.skip ?_
  refine PV.thenN ?_
  refine sr ?_
  refine mv ?_
  refine mv ?_
  refine vy (V.lenS h4 rfl Arf.ls24) fun x13_3 h5 => ?_
  refine LV.mk hS h5 rfl rfl rfl Arf.el41 rfl rfl rfl rfl fun x14_4 T1 n1 h6 ρ its hS hdr => ?_
  refine vy (V.bld h6 rfl) fun x15_5 h7 => ?_
  refine LV.box hS h7 rfl rfl rfl rfl rfl fun x16_6 T2 n2 h8 ρ its hS hdr => ?_
  refine as_ ?_
  refine dn ?_
  refine CV.seq ?_
  refine sr ?_
  refine mv ?_
  refine vy (V.lenS h8 rfl Arf.ls24) fun x18_7 h9 => ?_
  refine mv ?_
  refine dn ?_
  refine CV.block ?_
  refine cl6 X 0 2 3 17 18 19 [] hS h9 ⟨rfl, rfl, rfl, rfl, rfl, rfl, trivial⟩ ?_
  intro f1 y0 y2 y3 y17 y18 y19 T3 n3 ρ its hS h10
  unfold g7_b1 at h10
  clear h4 h5 h6 h7 h8 h9
  refine sr ?_
  refine vy (V.lt h10 rfl rfl) fun x20_8 h11 => ?_
  refine dn ?_
  refine CV.seq ?_
  refine CV.cond h11 rfl (fun e h12 => ?_) (fun e h12 => ?_)
  ·
   clear h10 h11
   subst e
   refine CV.skip ?_
   refine PV.thenN ?_
   refine CV.seq ?_
   refine CV.block ?_
   refine sr ?_
   refine mv ?_
   refine vy (V.ia h12 rfl rfl Arf.el24) fun x22_9 h13 => ?_
   refine vy (V.ldA hS h13 rfl Arf.agg28) fun x23_10 h14 => ?_
   refine LV.alloc hS h14 rfl Arf.zr28 rfl rfl rfl fun x5_11 T4 n4 h15 ρ its hS hdr => ?_
   refine as_ ?_
   refine LV.stA hS h15 rfl rfl rfl Arf.agg28 rfl rfl rfl fun T5 its h16 hS => ?_
   refine dn ?_
   refine cs7 X 0 2 3 17 18 19 43 [] (g7_k2 ro (lpf6 70017 (g7_b1 ro) f1)) ?_ ?_
   ·
    refine CV.regionM [(0, .anywhere), (1, .held), (2, .anywhere), (3, .anywhere), (4, .anywhere), (5, .anywhere), (6, .held), (7, .alone), (8, .alone), (9, .alone), (10, .alone), (11, .alone), (12, .alone), (13, .alone), (14, .alone), (15, .anywhere), (16, .alone), (17, .alone), (18, .alone), (19, .alone)] rfl (fun c a a' w hd hq => PanicOk.root (P := Tryd.prog) (fn := Tryd.f7) (w0 := w0) (base := base) (E := (envE pn pm)) (ro := ro) (r := r) (T' := T') (n' := n') (ρ0 := ρ0) c a a' w hd hq) (by kernel_rfl) ?_
    refine MV.lift0 (i := 0) rfl (V.fa h16 rfl Arf.fo28_4) rfl rfl rfl fun x24_13 h20 => ?_
    refine MV.lift1 (i := 1) rfl (fun _ z => z) (V.ld hS h20 rfl Arf.one22) rfl rfl rfl [] (by kernel_rfl) fun x25_14 h21 => ?_
    refine MV.step0 (i := 2) rfl (VAL.move rfl) rfl rfl rfl ?_
    refine MV.step0 (i := 3) rfl (VAL.move rfl) rfl rfl rfl ?_
    refine MV.lift0 (i := 4) rfl (V.nc h21 rfl) rfl rfl rfl fun x28_15 h22 => ?_
    refine MV.lift0 (i := 5) rfl (V.fa h22 rfl Arf.fo43_1) rfl rfl rfl fun x29_16 h23 => ?_
    refine MV.lift1 (i := 6) rfl (fun _ z => z) (V.ld hS h23 rfl Arf.one41) rfl rfl rfl [1] (by kernel_rfl) fun x30_17 h24 => ?_
    refine MV.force (i := 7) rfl ?_
    refine LV.call hS h24 (g14_ok _ _ _ _ _ _ ) hP rfl rfl rfl rfl fun x31_18 T7 n7 h25 ρ its hS => ?_
    refine LV.nextM [] (by kernel_rfl) (fun z => absurd rfl z) ?_
    refine MV.force (i := 8) rfl ?_
    refine vy (V.not h25 rfl) fun x32_19 h26 => ?_
    refine LV.nextM [] (by kernel_rfl) (fun z => absurd rfl z) ?_
    refine MV.force (i := 9) rfl ?_
    refine mv ?_
    refine LV.nextM [] (by kernel_rfl) (fun z => absurd rfl z) ?_
    rcases condK_inv h26 with ⟨e, h27⟩ | ⟨e, h27⟩
    ·
     clear h12 h13 h14 h15 h16 h20 h21 h22 h23 h24 h25 h26
     subst e
     refine MV.force (i := 10) rfl ?_
     refine sk ?_
     refine LV.nextM [] (by kernel_rfl) (fun z => absurd rfl z) ?_
     refine MV.force (i := 11) rfl ?_
     refine sk ?_
     refine LV.nextM [] (by kernel_rfl) (fun z => absurd rfl z) ?_
     refine MV.force (i := 12) rfl ?_
     refine sk ?_
     refine LV.nextM [] (by kernel_rfl) (fun z => absurd rfl z) ?_
     refine MV.force (i := 13) rfl ?_
     refine pu ?_
     refine LV.nextM [] (by kernel_rfl) (fun z => absurd rfl z) ?_
     refine MV.force (i := 14) rfl ?_
     refine mv ?_
     refine LV.nextM [] (by kernel_rfl) (fun z => absurd rfl z) ?_
     rcases condK_inv h27 with ⟨e, h28⟩ | ⟨e, h28⟩
     ·
      clear h27
      refine MV.skip0 (i := 15) rfl rfl rfl rfl ?_
      refine MV.force (i := 16) rfl ?_
      refine sk ?_
      refine LV.nextM [] (by kernel_rfl) (fun z => absurd rfl z) ?_
      refine MV.force (i := 17) rfl ?_
      refine sk ?_
      refine LV.nextM [] (by kernel_rfl) (fun z => absurd rfl z) ?_
      refine MV.force (i := 18) rfl ?_
      refine sk ?_
      refine LV.nextM [] (by kernel_rfl) (fun z => absurd rfl z) ?_
      refine MV.force (i := 19) rfl ?_
      refine pu ?_
      refine LV.nextM [] (by kernel_rfl) (fun z => absurd rfl z) ?_
      refine MV.done ?_
      exact pa7 hS h28 ⟨rfl, rfl, rfl, rfl, rfl, rfl, rfl, trivial⟩
     ·
      clear h27
      cases e
    ·
     clear h12 h13 h14 h15 h16 h20 h21 h22 h23 h24 h25 h26
     subst e
     refine MV.force (i := 10) rfl ?_
     refine vy (V.fa h27 rfl Arf.fo28_1) fun x34_20 h29 => ?_
     refine LV.nextM [] (by kernel_rfl) (fun z => absurd rfl z) ?_
     refine MV.force (i := 11) rfl ?_
     refine vy (V.ld hS h29 rfl Arf.one3) fun x35_21 h30 => ?_
     refine LV.nextM [] (by kernel_rfl) (fun z => absurd rfl z) ?_
     refine MV.force (i := 12) rfl ?_
     refine vy (V.ne h30 rfl rfl) fun x36_22 h31 => ?_
     refine LV.nextM [] (by kernel_rfl) (fun z => absurd rfl z) ?_
     refine MV.force (i := 13) rfl ?_
     refine pu ?_
     refine LV.nextM [] (by kernel_rfl) (fun z => absurd rfl z) ?_
     refine MV.force (i := 14) rfl ?_
     refine mv ?_
     refine LV.nextM [] (by kernel_rfl) (fun z => absurd rfl z) ?_
     rcases condK_inv h31 with ⟨e, h32⟩ | ⟨e, h32⟩
     ·
      clear h27 h29 h30 h31
      subst e
      refine MV.skip0 (i := 15) rfl rfl rfl rfl ?_
      refine MV.force (i := 16) rfl ?_
      refine sk ?_
      refine LV.nextM [] (by kernel_rfl) (fun z => absurd rfl z) ?_
      refine MV.force (i := 17) rfl ?_
      refine sk ?_
      refine LV.nextM [] (by kernel_rfl) (fun z => absurd rfl z) ?_
      refine MV.force (i := 18) rfl ?_
      refine sk ?_
      refine LV.nextM [] (by kernel_rfl) (fun z => absurd rfl z) ?_
      refine MV.force (i := 19) rfl ?_
      refine pu ?_
      refine LV.nextM [] (by kernel_rfl) (fun z => absurd rfl z) ?_
      refine MV.done ?_
      exact pa7 hS h32 ⟨rfl, rfl, rfl, rfl, rfl, rfl, rfl, trivial⟩
     ·
      clear h27 h29 h30 h31
      subst e
      refine MV.step0 (i := 15) rfl (VAL.move rfl) rfl rfl rfl ?_
      refine MV.force (i := 16) rfl ?_
      refine vy (V.ldA hS h32 rfl Arf.agg28) fun x40_23 h33 => ?_
      refine LV.nextM [] (by kernel_rfl) (fun z => absurd rfl z) ?_
      refine MV.force (i := 17) rfl ?_
      refine LV.call hS h33 (g15_ok _ _ _ _ _ ) hP rfl rfl rfl rfl fun x41_24 T8 n8 h34 ρ its hS => ?_
      refine LV.nextM [] (by kernel_rfl) (fun z => absurd rfl z) ?_
      refine MV.force (i := 18) rfl ?_
      refine vy (V.not h34 rfl) fun x42_25 h35 => ?_
      refine LV.nextM [] (by kernel_rfl) (fun z => absurd rfl z) ?_
      refine MV.force (i := 19) rfl ?_
      refine pu ?_
      refine LV.nextM [] (by kernel_rfl) (fun z => absurd rfl z) ?_
      refine MV.done ?_
      exact pa7 hS h35 ⟨rfl, rfl, rfl, rfl, rfl, rfl, rfl, trivial⟩
   ·
    intro y0 y2 y3 y17 y18 y19 y43 T6 n6 ρ its hS h17
    unfold g7_k2 at h17
    clear h12 h13 h14 h15 h16
    refine CV.cond h17 rfl (fun e h18 => ?_) (fun e h18 => ?_)
    ·
     clear h17
     subst e
     cases h18
    ·
     clear h17
     subst e
     refine CV.skip ?_
     refine PV.blockN ?_
     refine PV.thenN ?_
     refine CV.region ?_
     refine vy (V.add h18 rfl rfl) fun x49_12 h19 => ?_
     refine mv ?_
     refine LV.done ?_
     exact pb6 hS h19 ⟨rfl, rfl, rfl, rfl, rfl, rfl, trivial⟩
  ·
   clear h10 h11
   subst e
   refine CV.exit ?_
   refine PV.thenE ?_
   refine PV.thenE ?_
   refine PV.blockE ?_
   refine PV.thenN ?_
   refine sr ?_
   refine mv ?_
   refine vy (V.lenS h12 rfl Arf.ls24) fun x51_26 h36 => ?_
   refine vy (V.sub h36 rfl rfl) fun x52_27 h37 => ?_
   refine as_ ?_
   refine dn ?_
   refine CV.seq ?_
   refine sr ?_
   refine mv ?_
   refine vy (V.lt h37 rfl rfl) fun x54_28 h38 => ?_
   refine mv ?_
   refine ls4 X 2 3 6 62 [] (g7_k3 ro) 7 ?_ ?_
   ·
    rcases condK_inv h38 with ⟨e, h52⟩ | ⟨e, h52⟩
    ·
     clear h12 h36 h37 h38
     subst e
     refine sk ?_
     refine sk ?_
     refine sk ?_
     refine sk ?_
     refine sk ?_
     refine sk ?_
     refine pu ?_
     exact la4 hS h52 ⟨rfl, rfl, rfl, rfl, trivial⟩
    ·
     clear h12 h36 h37 h38
     subst e
     refine mv ?_
     refine mv ?_
     refine vy (V.ia h52 rfl rfl Arf.el24) fun x58_36 h53 => ?_
     refine vy (V.fa h53 rfl Arf.fo28_0) fun x59_37 h54 => ?_
     refine vy (V.ld hS h54 rfl Arf.one3) fun x60_38 h55 => ?_
     refine vy (V.ne h55 rfl rfl) fun x61_39 h56 => ?_
     refine pu ?_
     exact la4 hS h56 ⟨rfl, rfl, rfl, rfl, trivial⟩
   ·
    intro y2 y3 y6 y62 T9 n9 ρ its hS h39
    unfold g7_k3 at h39
    clear h12 h36 h37 h38
    refine mv ?_
    refine ls4 X 2 3 6 71 [] (g7_k4 ro) 8 ?_ ?_
    ·
     rcases condK_inv h39 with ⟨e, h46⟩ | ⟨e, h46⟩
     ·
      clear h39
      subst e
      refine sk ?_
      refine sk ?_
      refine sk ?_
      refine sk ?_
      refine sk ?_
      refine sk ?_
      refine sk ?_
      refine pu ?_
      exact la4 hS h46 ⟨rfl, rfl, rfl, rfl, trivial⟩
     ·
      clear h39
      subst e
      refine mv ?_
      refine vy (V.nc h46 rfl) fun x65_31 h47 => ?_
      refine vy (V.fa h47 rfl Arf.fo43_1) fun x66_32 h48 => ?_
      refine vy (V.ld hS h48 rfl Arf.one41) fun x67_33 h49 => ?_
      refine mv ?_
      refine vy (V.cutHi hS h49 rfl rfl Arf.el41) fun x69_34 h50 => ?_
      refine LV.call hS h50 (g16_ok _ _ _ _ _ ) hP rfl rfl rfl rfl fun x70_35 T13 n13 h51 ρ its hS => ?_
      refine pu ?_
      exact la4 hS h51 ⟨rfl, rfl, rfl, rfl, trivial⟩
    ·
     intro y2 y3 y6 y71 T10 n10 ρ its hS h40
     unfold g7_k4 at h40
     clear h39
     refine mv ?_
     refine ls2 X 2 77 [] (g7_k5 ro) 5 ?_ ?_
     ·
      rcases condK_inv h40 with ⟨e, h43⟩ | ⟨e, h43⟩
      ·
       clear h40
       subst e
       refine sk ?_
       refine sk ?_
       refine sk ?_
       refine sk ?_
       refine pu ?_
       exact la2 hS h43 ⟨rfl, rfl, trivial⟩
      ·
       clear h40
       subst e
       refine mv ?_
       refine mv ?_
       refine LV.call hS h43 (scc1_ok _ _ _ _ _ _) hP rfl rfl rfl rfl fun x75_29 T12 n12 h44 ρ its hS => ?_
       refine vy (V.not h44 rfl) fun x76_30 h45 => ?_
       refine pu ?_
       exact la2 hS h45 ⟨rfl, rfl, trivial⟩
     ·
      intro y2 y77 T11 n11 ρ its hS h41
      unfold g7_k5 at h41
      clear h40
      refine dn ?_
      refine CV.cond h41 rfl (fun e h42 => ?_) (fun e h42 => ?_)
      ·
       clear h41
       subst e
       cases h42
      ·
       clear h41
       subst e
       refine CV.skip ?_
       refine PV.thenN ?_
       refine sr ?_
       refine as_ ?_
       refine dn ?_
       refine CV.ret ?_
       cases h42
       exact PV.ret (by simp) Tryd.results7 hS (RS.tmp rfl RS.nil) rfl
noncomputable def g9_b1 (ro : List HT) (lp1 : AV → AV → AV → AV → HT → Nat → R) (y0 y1 y4 y5 : AV) (T1 : HT) (n1 : Nat) : R :=
 lenSK 90013 y0 fun x14_4 =>
 ltK Tryd.prog 3 (.tmp 12) (.tmp 14) 90014 y5 x14_4 fun x15_5 =>
 condK 90015 x15_5
 (
  iaK 90018 y0 y5 1 fun x20_6 =>
  ldK 90019 T1 ro x20_6 fun x21_7 =>
  iaK 90022 y1 y5 1 fun x24_8 =>
  ldK 90023 T1 ro x24_8 fun x25_9 =>
  eqTSK Tryd.prog 9 (.tmp 21) (.tmp 25) 90024 x21_7 x25_9 fun x26_10 =>
  notK 90027 x26_10 fun x28_11 =>
  condK 90028 x28_11
  (
   .bad 90029
  )
  (
   addK Tryd.prog 3 (.tmp 16) (.const (.int .i64 (.ofNat 1))) 90031 y5 (.lit (.int .i64 (.ofNat 1))) fun x17_12 =>
   lp1 y0 y1 y4 x17_12 T1 n1
  )
 )
 (
  .ok (.val (.lit (.bool true))) T1 n1
 )
noncomputable def g9 (ro : List HT) (a0 a1 : AV) (T : HT) (nx : Nat) : R :=
 lenSK 90003 a0 fun x8_1 =>
 lenSK 90005 a1 fun x10_2 =>
 neK Tryd.prog 3 (.tmp 8) (.tmp 10) 90006 x8_1 x10_2 fun x11_3 =>
 condK 90007 x11_3
 (
  .bad 90008
 )
 (
  lpf4 90010 (g9_b1 ro) 100000 a0 a1 (.lit (.bool false)) (.lit (.int .i64 (.ofNat 0))) T nx
 )
theorem g9_ok (ro : List HT) (a0 a1 : AV) (T : HT) (nx : Nat) : GOk Tryd.prog (envE pn pm) 9 [a0, a1] ro T nx (g9 ro a0 a1 T nx) := by
 refine GOk.of_body Tryd.func9 rfl Tryd.ntmps9 (by kernel_rfl) rfl fun r T' n' h1 w0 base ρ0 its hS hP => ?_
 have X : CtxW (envE pn pm) ρ0 ro r T' n' := trivial
 unfold g9 at h1
 refine sr ?_
 refine as_ ?_
 refine dn ?_
 refine CV.seq ?_
 refine sr ?_
 refine mv ?_
 refine vy (V.lenS h1 rfl Arf.ls25) fun x8_1 h2 => ?_
 refine mv ?_
 refine vy (V.lenS h2 rfl Arf.ls25) fun x10_2 h3 => ?_
 refine vy (V.ne h3 rfl rfl) fun x11_3 h4 => ?_
 refine dn ?_
 refine CV.cond h4 rfl (fun e h5 => ?_) (fun e h5 => ?_)
 ·
  clear h1 h2 h3 h4
  subst e
  cases h5
 ·
  clear h1 h2 h3 h4
  subst e
  refine CV.skip ?_
  refine PV.thenN ?_
  refine CV.seq ?_
  refine sr ?_
  refine as_ ?_
  refine dn ?_
  refine CV.block ?_
  refine cl4 X 0 1 4 5 [] hS h5 ⟨rfl, rfl, rfl, rfl, trivial⟩ ?_
  intro f1 y0 y1 y4 y5 T1 n1 ρ its hS h6
  unfold g9_b1 at h6
  clear h5
  refine CV.seq ?_
  refine sr ?_
  refine mv ?_
  refine mv ?_
  refine vy (V.lenS h6 rfl Arf.ls25) fun x14_4 h7 => ?_
  refine vy (V.lt h7 rfl rfl) fun x15_5 h8 => ?_
  refine dn ?_
  refine CV.cond h8 rfl (fun e h9 => ?_) (fun e h9 => ?_)
  ·
   clear h6 h7 h8
   subst e
   refine CV.skip ?_
   refine PV.thenN ?_
   refine CV.seq ?_
   refine CV.block ?_
   refine CV.seq ?_
   refine CV.regionM [(0, .anywhere), (1, .anywhere), (2, .anywhere), (3, .held), (4, .anywhere), (5, .anywhere), (6, .anywhere), (7, .held), (8, .held), (9, .held)] rfl (fun c a a' w hd hq => PanicOk.root (P := Tryd.prog) (fn := Tryd.f9) (w0 := w0) (base := base) (E := (envE pn pm)) (ro := ro) (r := r) (T' := T') (n' := n') (ρ0 := ρ0) c a a' w hd hq) (by kernel_rfl) ?_
   refine MV.step0 (i := 0) rfl (VAL.move rfl) rfl rfl rfl ?_
   refine MV.step0 (i := 1) rfl (VAL.move rfl) rfl rfl rfl ?_
   refine MV.lift0 (i := 2) rfl (V.ia h9 rfl rfl Arf.el25) rfl rfl rfl fun x20_6 h10 => ?_
   refine MV.lift1 (i := 3) rfl (fun _ z => z) (V.ld hS h10 rfl Arf.one9) rfl rfl rfl [] (by kernel_rfl) fun x21_7 h11 => ?_
   refine MV.step0 (i := 4) rfl (VAL.move rfl) rfl rfl rfl ?_
   refine MV.step0 (i := 5) rfl (VAL.move rfl) rfl rfl rfl ?_
   refine MV.lift0 (i := 6) rfl (V.ia h11 rfl rfl Arf.el25) rfl rfl rfl fun x24_8 h12 => ?_
   refine MV.lift1 (i := 7) rfl (fun _ z => z) (V.ld hS h12 rfl Arf.one9) rfl rfl rfl [3] (by kernel_rfl) fun x25_9 h13 => ?_
   refine MV.lift1 (i := 8) rfl (fun _ z => z) (V.eqTS hS (envE_last _ _) h13 rfl rfl) rfl rfl rfl [] (by kernel_rfl) fun x26_10 h14 => ?_
   refine MV.step1 (i := 9) rfl (fun _ z => z) (VAL.assign rfl) rfl rfl rfl [] (by kernel_rfl) ?_
   refine mdn ?_
   refine sr ?_
   refine mv ?_
   refine vy (V.not h14 rfl) fun x28_11 h15 => ?_
   refine dn ?_
   refine CV.cond h15 rfl (fun e h16 => ?_) (fun e h16 => ?_)
   ·
    clear h9 h10 h11 h12 h13 h14 h15
    subst e
    cases h16
   ·
    clear h9 h10 h11 h12 h13 h14 h15
    subst e
    refine CV.skip ?_
    refine PV.blockN ?_
    refine PV.thenN ?_
    refine CV.region ?_
    refine mv ?_
    refine vy (V.add h16 rfl rfl) fun x17_12 h17 => ?_
    refine as_ ?_
    refine LV.done ?_
    exact pb4 hS h17 ⟨rfl, rfl, rfl, rfl, trivial⟩
  ·
   clear h6 h7 h8
   subst e
   refine CV.exit ?_
   refine PV.thenE ?_
   refine PV.thenE ?_
   refine PV.blockE ?_
   refine PV.thenN ?_
   refine sr ?_
   refine as_ ?_
   refine dn ?_
   refine CV.ret ?_
   cases h9
   exact PV.ret (by simp) Tryd.results9 hS (RS.tmp rfl RS.nil) rfl
theorem sort_h {pn pm : Nat} (c : Nat) (a : AV) (ro : List HT) (T : HT) (nx : Nat) : GOk Tryd.prog (envE pn pm) 19 [a] ro T nx (sortTK c pn a T nx) := sortTK_ok (Enters.of Tryd.func19 (by kernel_rfl) (by kernel_rfl)) (fun b o k ss w h1 h2 h3 => Tryd.slices_Sort_string b o k ss w h1 h2 h3) (envE_last pn pm) a ro T nx
theorem comp_h {pn pm : Nat} (c : Nat) (a : AV) (ro : List HT) (T : HT) (nx : Nat) : GOk Tryd.prog (envE pn pm) 20 [a] ro T nx (compTK c pn pm a T nx) := compTK_ok (Enters.of Tryd.func20 (by kernel_rfl) (by kernel_rfl)) (fun b o k zs w h1 h2 h3 => Tryd.slices_Compact_string b o k zs w h1 h2 h3) (envE_last pn pm) a ro T nx
noncomputable def g10_k2 (pn pm : Nat) (ro : List HT) (lp1 : AV → AV → AV → AV → AV → HT → Nat → R) (y2 y3 y6 y7 y8 : AV) (T2 : HT) (n2 : Nat) : R :=
 addK Tryd.prog 3 (.tmp 8) (.const (.int .i64 (.ofNat 1))) 100009 y8 (.lit (.int .i64 (.ofNat 1))) fun x20_3 =>
 lp1 y2 y3 y6 y7 x20_3 T2 n2
noncomputable def g10_b1 (pn pm : Nat) (ro : List HT) (lp1 : AV → AV → AV → AV → AV → HT → Nat → R) (y2 y3 y6 y7 y8 : AV) (T1 : HT) (n1 : Nat) : R :=
 ltK Tryd.prog 3 (.tmp 8) (.tmp 7) 100007 y8 y7 fun x9_2 =>
 condK 100008 x9_2
 (
  iaK 100011 y6 y8 5 fun x10_4 =>
  ldAK 100012 T1 ro x10_4 5 fun x11_5 =>
  newK T1 n1 (.obj [.lit (.int .i64 0), .lit (.int .i64 0), .lit (.int .i64 0), .lit (.string ⟨#[]⟩), .lit (.slice none 0 0)] 28) fun x5_6 T3 n3 =>
  stAK 100014 T3 x5_6 x11_5 5 fun T4 =>
  faK 100015 x5_6 0 fun x12_7 =>
  ldK 100016 T4 ro x12_7 fun x13_8 =>
  eqK Tryd.prog 3 (.tmp 13) (.const (.int .i64 (.ofNat 6))) 100017 x13_8 (.lit (.int .i64 (.ofNat 6))) fun x14_9 =>
  condK 100018 x14_9
  (
   faK 100020 x5_6 3 fun x16_10 =>
   ldK 100021 T4 ro x16_10 fun x17_11 =>
   bsK 100022 T4 n3 1 9 1 [(0, x17_11)] fun x18_12 T5 n5 =>
   shrK 100024 T5 y3 fun T6 =>
   appEK 100023 T6 ro n5 9 1 16 y3 x18_12 fun x19_13 T7 n7 =>
   g10_k2 pn pm ro lp1 y2 x19_13 y6 y7 y8 T7 n7
  )
  (
   g10_k2 pn pm ro lp1 y2 y3 y6 y7 y8 T4 n3
  )
 )
 (
  callK (sortTK 3 pn y3 T1 n1) fun x22_14 T8 n8 =>
  callK (compTK 4 pn pm y3 T8 n8) fun x24_15 T9 n9 =>
  .ok (.val x24_15) T9 n9
 )
noncomputable def g10 (pn pm : Nat) (ro : List HT) (a0 : AV) (T : HT) (nx : Nat) : R :=
 lenSK 100004 a0 fun x7_1 =>
 lpf5 100006 (g10_b1 pn pm ro) 100000 (.lit (.slice none 0 0)) (.lit (.slice none 0 0)) a0 x7_1 (.lit (.int .i64 (.ofNat 0))) T nx
theorem g10_ok (pn pm : Nat) (ro : List HT) (a0 : AV) (T : HT) (nx : Nat) : GOk Tryd.prog (envE pn pm) 10 [a0] ro T nx (g10 pn pm ro a0 T nx) := by
 refine GOk.of_body Tryd.func10 rfl Tryd.ntmps10 (by kernel_rfl) rfl fun r T' n' h1 w0 base ρ0 its hS hP => ?_
 have X : CtxW (envE pn pm) ρ0 ro r T' n' := trivial
 unfold g10 at h1
 refine sr ?_
 refine as_ ?_
 refine dn ?_
 refine sr ?_
 refine as_ ?_
 refine dn ?_
 refine CV.seq ?_
 refine sr ?_
 refine mv ?_
 refine vy (V.lenS h1 rfl Arf.ls24) fun x7_1 h2 => ?_
 refine mv ?_
 refine dn ?_
 refine CV.block ?_
 refine cl5 X 2 3 6 7 8 [] hS h2 ⟨rfl, rfl, rfl, rfl, rfl, trivial⟩ ?_
 intro f1 y2 y3 y6 y7 y8 T1 n1 ρ its hS h3
 unfold g10_b1 at h3
 clear h1 h2
 refine sr ?_
 refine vy (V.lt h3 rfl rfl) fun x9_2 h4 => ?_
 refine dn ?_
 refine CV.seq ?_
 refine CV.cond h4 rfl (fun e h5 => ?_) (fun e h5 => ?_)
 ·
  clear h3 h4
  subst e
  refine CV.skip ?_
  refine PV.thenN ?_
  refine cs5 X 2 3 6 7 8 [] (g10_k2 pn pm ro (lpf5 100006 (g10_b1 pn pm ro) f1)) ?_ ?_
  ·
   refine CV.block ?_
   refine sr ?_
   refine vy (V.ia h5 rfl rfl Arf.el24) fun x10_4 h8 => ?_
   refine vy (V.ldA hS h8 rfl Arf.agg28) fun x11_5 h9 => ?_
   refine LV.alloc hS h9 rfl Arf.zr28 rfl rfl rfl fun x5_6 T3 n3 h10 ρ its hS hdr => ?_
   refine LV.stA hS h10 rfl rfl rfl Arf.agg28 rfl rfl rfl fun T4 its h11 hS => ?_
   refine dn ?_
   refine sr ?_
   refine vy (V.fa h11 rfl Arf.fo28_0) fun x12_7 h12 => ?_
   refine vy (V.ld hS h12 rfl Arf.one3) fun x13_8 h13 => ?_
   refine vy (V.eq h13 rfl rfl) fun x14_9 h14 => ?_
   refine dn ?_
   refine CV.cond h14 rfl (fun e h15 => ?_) (fun e h15 => ?_)
   ·
    clear h5 h8 h9 h10 h11 h12 h13 h14
    subst e
    refine CV.region ?_
    refine mv ?_
    refine vy (V.fa h15 rfl Arf.fo28_3) fun x16_10 h16 => ?_
    refine vy (V.ld hS h16 rfl Arf.one9) fun x17_11 h17 => ?_
    refine LV.bslice hS h17 rfl rfl Arf.el25 rfl rfl rfl rfl fun x18_12 T5 n5 h18 ρ its hS hdr => ?_
    obtain ⟨T6, its1, h19, hS, hW⟩ := shrK_inv hS h18
    refine LV.world hW ?_
    refine LV.appE hS h19 rfl rfl rfl rfl Arf.el25 rfl rfl rfl fun x19_13 T7 n7 h20 ρ its hS => ?_
    refine as_ ?_
    refine LV.done ?_
    refine PV.blockN ?_
    exact pa5 hS h20 ⟨rfl, rfl, rfl, rfl, rfl, trivial⟩
   ·
    clear h5 h8 h9 h10 h11 h12 h13 h14
    subst e
    refine CV.skip ?_
    refine PV.blockN ?_
    exact pa5 hS h15 ⟨rfl, rfl, rfl, rfl, rfl, trivial⟩
  ·
   intro y2 y3 y6 y7 y8 T2 n2 ρ its hS h6
   unfold g10_k2 at h6
   clear h5
   refine CV.region ?_
   refine vy (V.add h6 rfl rfl) fun x20_3 h7 => ?_
   refine mv ?_
   refine LV.done ?_
   exact pb5 hS h7 ⟨rfl, rfl, rfl, rfl, rfl, trivial⟩
 ·
  clear h3 h4
  subst e
  refine CV.exit ?_
  refine PV.thenE ?_
  refine PV.thenE ?_
  refine PV.blockE ?_
  refine PV.thenN ?_
  refine sr ?_
  refine mv ?_
  refine LV.call hS h5 (sort_h _ _ _ _ _) hP rfl rfl rfl rfl fun x22_14 T8 n8 h21 ρ its hS => ?_
  refine dn ?_
  refine sr ?_
  refine mv ?_
  refine LV.call hS h21 (comp_h _ _ _ _ _) hP rfl rfl rfl rfl fun x24_15 T9 n9 h22 ρ its hS => ?_
  refine as_ ?_
  refine dn ?_
  refine CV.ret ?_
  cases h22
  exact PV.ret (by simp) Tryd.results10 hS (RS.tmp rfl RS.nil) rfl
noncomputable def g12_b7 (ro : List HT) (lp3 : AV → AV → AV → AV → HT → Nat → R) (lp7 : AV → AV → AV → AV → AV → AV → AV → AV → HT → Nat → R) (y0 y1 y4 y5 y7 y8 y87 y88 : AV) (T15 : HT) (n15 : Nat) : R :=
 ltK Tryd.prog 3 (.tmp 88) (.tmp 87) 120065 y88 y87 fun x89_37 =>
 condK 120066 x89_37
 (
  faK 120070 y7 4 fun x92_38 =>
  ldK 120071 T15 ro x92_38 fun x93_39 =>
  iaK 120073 x93_39 y88 1 fun x95_40 =>
  ldK 120074 T15 ro x95_40 fun x96_41 =>
  faK 120075 y8 4 fun x97_42 =>
  ldK 120076 T15 ro x97_42 fun x98_43 =>
  iaK 120078 x98_43 y88 1 fun x100_44 =>
  ldK 120079 T15 ro x100_44 fun x101_45 =>
  optK 120080 (bld54 [(0, x96_41), (1, x101_45)]) fun x102_46 =>
  bsK 120081 T15 n15 1 54 2 [(0, x102_46)] fun x103_47 T16 n16 =>
  shrK 120083 T16 y5 fun T17 =>
  appEK 120082 T17 ro n16 54 2 16 y5 x103_47 fun x104_48 T18 n18 =>
  addK Tryd.prog 3 (.tmp 88) (.const (.int .i64 (.ofNat 1))) 120085 y88 (.lit (.int .i64 (.ofNat 1))) fun x105_49 =>
  lp7 y0 y1 y4 x104_48 y7 y8 y87 x105_49 T18 n18
 )
 (
  lp3 y0 y1 y4 y5 T15 n15
 )
noncomputable def g12_k6 (ro : List HT) (lp3 : AV → AV → AV → AV → HT → Nat → R) (y0 y1 y4 y5 y7 y8 y84 : AV) (T14 : HT) (n14 : Nat) : R :=
 condK 120058 y84
 (
  .bad 120059
 )
 (
  faK 120060 y7 4 fun x85_34 =>
  ldK 120061 T14 ro x85_34 fun x86_35 =>
  lenSK 120062 x86_35 fun x87_36 =>
  lpf8 120064 (g12_b7 ro lp3) 100000 y0 y1 y4 y5 y7 y8 x87_36 (.lit (.int .i64 (.ofNat 0))) T14 n14
 )
noncomputable def g12_k5 (ro : List HT) (lp3 : AV → AV → AV → AV → HT → Nat → R) (y0 y1 y4 y5 y7 y8 y75 : AV) (T13 : HT) (n13 : Nat) : R :=
 condK 120087 y75
 (
  g12_k6 ro lp3 y0 y1 y4 y5 y7 y8 (.lit (.bool true)) T13 n13
 )
 (
  faK 120089 y7 4 fun x77_50 =>
  ldK 120090 T13 ro x77_50 fun x78_51 =>
  lenSK 120091 x78_51 fun x79_52 =>
  faK 120092 y8 4 fun x80_53 =>
  ldK 120093 T13 ro x80_53 fun x81_54 =>
  lenSK 120094 x81_54 fun x82_55 =>
  neK Tryd.prog 3 (.tmp 79) (.tmp 82) 120095 x79_52 x82_55 fun x83_56 =>
  g12_k6 ro lp3 y0 y1 y4 y5 y7 y8 x83_56 T13 n13
 )
noncomputable def g12_k4 (ro : List HT) (lp3 : AV → AV → AV → AV → HT → Nat → R) (y0 y1 y4 y5 y7 y8 y68 : AV) (T12 : HT) (n12 : Nat) : R :=
 condK 120097 y68
 (
  g12_k5 ro lp3 y0 y1 y4 y5 y7 y8 (.lit (.bool true)) T12 n12
 )
 (
  faK 120099 y7 3 fun x70_57 =>
  ldK 120100 T12 ro x70_57 fun x71_58 =>
  faK 120101 y8 3 fun x72_59 =>
  ldK 120102 T12 ro x72_59 fun x73_60 =>
  neTSK Tryd.prog 9 (.tmp 71) (.tmp 73) 120103 x71_58 x73_60 fun x74_61 =>
  g12_k5 ro lp3 y0 y1 y4 y5 y7 y8 x74_61 T12 n12
 )
noncomputable def g12_b3 (ro : List HT) (lp3 : AV → AV → AV → AV → HT → Nat → R) (y0 y1 y4 y5 : AV) (T5 : HT) (n5 : Nat) : R :=
 lenSK 120020 y5 fun x34_9 =>
 gtK Tryd.prog 3 (.tmp 34) (.const (.int .i64 (.ofNat 0))) 120021 x34_9 (.lit (.int .i64 (.ofNat 0))) fun x35_10 =>
 condK 120022 x35_10
 (
  lenSK 120025 y5 fun x38_11 =>
  subK Tryd.prog 3 (.tmp 38) (.const (.int .i64 (.ofNat 1))) 120026 x38_11 (.lit (.int .i64 (.ofNat 1))) fun x39_12 =>
  iaK 120027 y5 x39_12 2 fun x40_13 =>
  ldAK 120028 T5 ro x40_13 2 fun x41_14 =>
  newK T5 n5 (.obj [.lit (.int .i64 0), .lit (.int .i64 0)] 54) fun x6_15 T6 n6 =>
  stAK 120030 T6 x6_15 x41_14 2 fun T7 =>
  lenSK 120033 y5 fun x44_16 =>
  subK Tryd.prog 3 (.tmp 44) (.const (.int .i64 (.ofNat 1))) 120034 x44_16 (.lit (.int .i64 (.ofNat 1))) fun x45_17 =>
  cutHiK 120035 T7 ro y5 x45_17 fun x46_18 =>
  faK 120038 x6_15 0 fun x48_19 =>
  ldQK 120039 T7 ro [(x6_15, 0, 1), (y0, 0, 0), (x6_15, 1, 1), (y1, 0, 0)] x48_19 fun x49_20 =>
  iaK 120040 y0 x49_20 5 fun x50_21 =>
  ldAQK 120041 T7 ro [(x6_15, 0, 1), (y0, 0, 0), (x6_15, 1, 1), (y1, 0, 0)] x50_21 5 fun x51_22 =>
  faK 120043 x6_15 1 fun x53_23 =>
  ldQK 120044 T7 ro [(x6_15, 0, 1), (y0, 0, 0), (x6_15, 1, 1), (y1, 0, 0)] x53_23 fun x54_24 =>
  iaK 120045 y1 x54_24 5 fun x55_25 =>
  ldAQK 120046 T7 ro [(x6_15, 0, 1), (y0, 0, 0), (x6_15, 1, 1), (y1, 0, 0)] x55_25 5 fun x56_26 =>
  newK T7 n6 (.obj [.lit (.int .i64 0), .lit (.int .i64 0), .lit (.int .i64 0), .lit (.string ⟨#[]⟩), .lit (.slice none 0 0)] 28) fun x7_27 T8 n8 =>
  newK T8 n8 (.obj [.lit (.int .i64 0), .lit (.int .i64 0), .lit (.int .i64 0), .lit (.string ⟨#[]⟩), .lit (.slice none 0 0)] 28) fun x8_28 T9 n9 =>
  stAK 120047 T9 x7_27 x51_22 5 fun T10 =>
  keepK 120048 T7 T10 [(x6_15, 0, 1), (y0, 0, 0), (x6_15, 1, 1), (y1, 0, 0)] <|
  stAK 120049 T10 x8_28 x56_26 5 fun T11 =>
  faK 120050 x7_27 0 fun x57_29 =>
  ldK 120051 T11 ro x57_29 fun x58_30 =>
  faK 120052 x8_28 0 fun x59_31 =>
  ldK 120053 T11 ro x59_31 fun x60_32 =>
  neK Tryd.prog 3 (.tmp 58) (.tmp 60) 120054 x58_30 x60_32 fun x61_33 =>
  condK 120105 x61_33
  (
   g12_k4 ro lp3 y0 y1 y4 x46_18 x7_27 x8_28 (.lit (.bool true)) T11 n9
  )
  (
   faK 120107 x7_27 1 fun x63_62 =>
   ldK 120108 T11 ro x63_62 fun x64_63 =>
   faK 120109 x8_28 1 fun x65_64 =>
   ldK 120110 T11 ro x65_64 fun x66_65 =>
   neK Tryd.prog 3 (.tmp 64) (.tmp 66) 120111 x64_63 x66_65 fun x67_66 =>
   g12_k4 ro lp3 y0 y1 y4 x46_18 x7_27 x8_28 x67_66 T11 n9
  )
 )
 (
  .ok (.val (.lit (.bool true))) T5 n5
 )
noncomputable def g12_k2 (ro : List HT) (y0 y1 y24 : AV) (T3 : HT) (n3 : Nat) : R :=
 condK 120007 y24
 (
  .bad 120008
 )
 (
  lenSK 120010 y0 fun x26_3 =>
  subK Tryd.prog 3 (.tmp 26) (.const (.int .i64 (.ofNat 1))) 120011 x26_3 (.lit (.int .i64 (.ofNat 1))) fun x27_4 =>
  lenSK 120013 y1 fun x29_5 =>
  subK Tryd.prog 3 (.tmp 29) (.const (.int .i64 (.ofNat 1))) 120014 x29_5 (.lit (.int .i64 (.ofNat 1))) fun x30_6 =>
  optK 120015 (bld54 [(0, x27_4), (1, x30_6)]) fun x31_7 =>
  bsK 120016 T3 n3 1 54 2 [(0, x31_7)] fun x32_8 T4 n4 =>
  lpf4 120018 (g12_b3 ro) 100000 y0 y1 (.lit (.bool false)) x32_8 T4 n4
 )
noncomputable def g12_k1 (ro : List HT) (y0 y1 y17 : AV) (T2 : HT) (n2 : Nat) : R :=
 condK 120114 y17
 (
  g12_k2 ro y0 y1 (.lit (.bool true)) T2 n2
 )
 (
  lenSK 120117 y0 fun x20_67 =>
  lenSK 120119 y1 fun x22_68 =>
  neK Tryd.prog 3 (.tmp 20) (.tmp 22) 120120 x20_67 x22_68 fun x23_69 =>
  g12_k2 ro y0 y1 x23_69 T2 n2
 )
noncomputable def g12 (ro : List HT) (a0 a1 : AV) (T : HT) (nx : Nat) : R :=
 callK (g18 ro a0 T nx) fun x11_1 T1 n1 =>
 notK 120004 x11_1 fun x12_2 =>
 condK 120122 x12_2
 (
  g12_k1 ro a0 a1 (.lit (.bool true)) T1 n1
 )
 (
  callK (g18 ro a1 T1 n1) fun x15_70 T19 n19 =>
  notK 120126 x15_70 fun x16_71 =>
  g12_k1 ro a0 a1 x16_71 T19 n19
 )
theorem g12_ok (ro : List HT) (a0 a1 : AV) (T : HT) (nx : Nat) : GOk Tryd.prog (envE pn pm) 12 [a0, a1] ro T nx (g12 ro a0 a1 T nx) := by
 refine GOk.of_body Tryd.func12 rfl Tryd.ntmps12 (by kernel_rfl) rfl fun r T' n' h1 w0 base ρ0 its hS hP => ?_
 have X : CtxW (envE pn pm) ρ0 ro r T' n' := trivial
 unfold g12 at h1
 refine sr ?_
 refine as_ ?_
 refine dn ?_
 refine CV.seq ?_
 refine sr ?_
 refine mv ?_
 refine LV.call hS h1 (g18_ok _ _ _ _ ) hP rfl rfl rfl rfl fun x11_1 T1 n1 h2 ρ its hS => ?_
 refine vy (V.not h2 rfl) fun x12_2 h3 => ?_
 refine mv ?_
 refine ls3 X 0 1 17 [(4, (.lit (.bool false)))] (g12_k1 ro) 4 ?_ ?_
 ·
  rcases condK_inv h3 with ⟨e, h90⟩ | ⟨e, h90⟩
  ·
   clear h1 h2 h3
   subst e
   refine sk ?_
   refine sk ?_
   refine sk ?_
   refine pu ?_
   exact la3 hS h90 ⟨rfl, rfl, rfl, rfl, trivial⟩
  ·
   clear h1 h2 h3
   subst e
   refine mv ?_
   refine LV.call hS h90 (g18_ok _ _ _ _ ) hP rfl rfl rfl rfl fun x15_70 T19 n19 h91 ρ its hS => ?_
   refine vy (V.not h91 rfl) fun x16_71 h92 => ?_
   refine pu ?_
   exact la3 hS h92 ⟨rfl, rfl, rfl, rfl, trivial⟩
 ·
  intro y0 y1 y17 T2 n2 ρ its hS h4
  unfold g12_k1 at h4
  clear h1 h2 h3
  refine mv ?_
  refine ls3 X 0 1 24 [(4, (.lit (.bool false)))] (g12_k2 ro) 6 ?_ ?_
  ·
   rcases condK_inv h4 with ⟨e, h86⟩ | ⟨e, h86⟩
   ·
    clear h4
    subst e
    refine sk ?_
    refine sk ?_
    refine sk ?_
    refine sk ?_
    refine sk ?_
    refine pu ?_
    exact la3 hS h86 ⟨rfl, rfl, rfl, rfl, trivial⟩
   ·
    clear h4
    subst e
    refine mv ?_
    refine vy (V.lenS h86 rfl Arf.ls24) fun x20_67 h87 => ?_
    refine mv ?_
    refine vy (V.lenS h87 rfl Arf.ls24) fun x22_68 h88 => ?_
    refine vy (V.ne h88 rfl rfl) fun x23_69 h89 => ?_
    refine pu ?_
    exact la3 hS h89 ⟨rfl, rfl, rfl, rfl, trivial⟩
  ·
   intro y0 y1 y24 T3 n3 ρ its hS h5
   unfold g12_k2 at h5
   clear h4
   refine dn ?_
   refine CV.cond h5 rfl (fun e h6 => ?_) (fun e h6 => ?_)
   ·
    clear h5
    subst e
    cases h6
   ·
    clear h5
    subst e
    refine CV.skip ?_
    refine PV.thenN ?_
    refine sr ?_
    refine mv ?_
    refine vy (V.lenS h6 rfl Arf.ls24) fun x26_3 h7 => ?_
    refine vy (V.sub h7 rfl rfl) fun x27_4 h8 => ?_
    refine mv ?_
    refine vy (V.lenS h8 rfl Arf.ls24) fun x29_5 h9 => ?_
    refine vy (V.sub h9 rfl rfl) fun x30_6 h10 => ?_
    refine vy (V.bld h10 rfl) fun x31_7 h11 => ?_
    refine LV.bslice hS h11 rfl rfl Arf.el55 rfl rfl rfl rfl fun x32_8 T4 n4 h12 ρ its hS hdr => ?_
    refine as_ ?_
    refine dn ?_
    refine CV.seq ?_
    refine CV.block ?_
    refine cl4 X 0 1 4 5 [] hS h12 ⟨rfl, rfl, rfl, rfl, trivial⟩ ?_
    intro f3 y0 y1 y4 y5 T5 n5 ρ its hS h13
    unfold g12_b3 at h13
    clear h6 h7 h8 h9 h10 h11 h12
    refine CV.seq ?_
    refine sr ?_
    refine mv ?_
    refine vy (V.lenS h13 rfl Arf.ls55) fun x34_9 h14 => ?_
    refine vy (V.gt h14 rfl rfl) fun x35_10 h15 => ?_
    refine dn ?_
    refine CV.cond h15 rfl (fun e h16 => ?_) (fun e h16 => ?_)
    ·
     clear h13 h14 h15
     subst e
     refine CV.skip ?_
     refine PV.thenN ?_
     refine CV.block ?_
     refine sr ?_
     refine mv ?_
     refine mv ?_
     refine vy (V.lenS h16 rfl Arf.ls55) fun x38_11 h17 => ?_
     refine vy (V.sub h17 rfl rfl) fun x39_12 h18 => ?_
     refine vy (V.ia h18 rfl rfl Arf.el55) fun x40_13 h19 => ?_
     refine vy (V.ldA hS h19 rfl Arf.agg54) fun x41_14 h20 => ?_
     refine LV.alloc hS h20 rfl Arf.zr54 rfl rfl rfl fun x6_15 T6 n6 h21 ρ its hS hdr => ?_
     refine LV.stA hS h21 rfl rfl rfl Arf.agg54 rfl rfl rfl fun T7 its h22 hS => ?_
     refine dn ?_
     refine sr ?_
     refine mv ?_
     refine mv ?_
     refine vy (V.lenS h22 rfl Arf.ls55) fun x44_16 h23 => ?_
     refine vy (V.sub h23 rfl rfl) fun x45_17 h24 => ?_
     refine vy (V.cutHi hS h24 rfl rfl Arf.el55) fun x46_18 h25 => ?_
     refine as_ ?_
     refine dn ?_
     refine CV.seq ?_
     refine CV.region2K hS [(x6_15, 0, 1), (y0, 0, 0), (x6_15, 1, 1), (y1, 0, 0)] 10 11 [(0, .anywhere), (1, .anywhere), (2, .held), (3, .held), (4, .held), (5, .anywhere), (6, .anywhere), (7, .held), (8, .held), (9, .held)] [(12, .alone), (13, .alone)] [9, 4] rfl (fun c a a' w hd hq => PanicOk.root (P := Tryd.prog) (fn := Tryd.f12) (w0 := w0) (base := base) (E := (envE pn pm)) (ro := ro) (r := r) (T' := T') (n' := n') (ρ0 := ρ0) c a a' w hd hq) (by kernel_rfl) (by kernel_rfl) ?_
     have hK := KeepS.start [(x6_15, 0, 1), (y0, 0, 0), (x6_15, 1, 1), (y1, 0, 0)] hS
     have hR := hS
     have hP0 := hP
     replace hP := PK.up hR hP
     replace hS := hR.root
     refine MV.step0 (i := 0) rfl (VAL.move rfl) rfl rfl rfl ?_
     refine MV.lift0 (i := 1) rfl (V.fa h25 rfl Arf.fo54_0) rfl rfl rfl fun x48_19 h26 => ?_
     refine MV.lift1 (i := 2) rfl hK (V.ldQ hS h26 rfl Arf.one3) rfl rfl rfl [] (by kernel_rfl) fun x49_20 h27 => ?_
     refine MV.lift1 (i := 3) rfl hK (V.ia h27 rfl rfl Arf.el24) rfl rfl rfl [] (by kernel_rfl) fun x50_21 h28 => ?_
     refine MV.lift1 (i := 4) rfl hK (V.ldAQ hS h28 rfl Arf.agg28) rfl rfl rfl [] (by kernel_rfl) fun x51_22 h29 => ?_
     refine MV.step0 (i := 5) rfl (VAL.move rfl) rfl rfl rfl ?_
     refine MV.lift0 (i := 6) rfl (V.fa h29 rfl Arf.fo54_1) rfl rfl rfl fun x53_23 h30 => ?_
     refine MV.lift1 (i := 7) rfl hK (V.ldQ hS h30 rfl Arf.one3) rfl rfl rfl [4] (by kernel_rfl) fun x54_24 h31 => ?_
     refine MV.lift1 (i := 8) rfl hK (V.ia h31 rfl rfl Arf.el24) rfl rfl rfl [4] (by kernel_rfl) fun x55_25 h32 => ?_
     refine MV.lift1 (i := 9) rfl hK (V.ldAQ hS h32 rfl Arf.agg28) rfl rfl rfl [4] (by kernel_rfl) fun x56_26 h33 => ?_
     refine MV.done ?_
     refine PV.two hS h33 rfl rfl rfl rfl Arf.zr28 Arf.zr28 rfl rfl rfl rfl rfl rfl rfl hK [9, 4] (by kernel_rfl) fun x7_27 x8_28 T9 n9 h34 ρ its hS hdr => ?_
     replace hK := fun w hw => hK w (hdr w hw)
     refine MV.force (i := 12) rfl ?_
     refine LV.stA hS h34 rfl rfl rfl Arf.agg28 rfl rfl rfl fun T10 its h35 hS => ?_
     obtain ⟨hK, h36⟩ := KeepS.step hR hS h35
     refine LV.nextM [9] (by kernel_rfl) (fun _ => hK) ?_
     refine MV.force (i := 13) rfl ?_
     refine LV.stA hS h36 rfl rfl rfl Arf.agg28 rfl rfl rfl fun T11 its h37 hS => ?_
     refine LV.nextM [] (by kernel_rfl) (fun z => absurd rfl z) ?_
     replace hS := hR.up hS
     replace hP := hP0
     refine mdn ?_
     refine CV.seq ?_
     refine sr ?_
     refine vy (V.fa h37 rfl Arf.fo28_0) fun x57_29 h38 => ?_
     refine vy (V.ld hS h38 rfl Arf.one3) fun x58_30 h39 => ?_
     refine vy (V.fa h39 rfl Arf.fo28_0) fun x59_31 h40 => ?_
     refine vy (V.ld hS h40 rfl Arf.one3) fun x60_32 h41 => ?_
     refine vy (V.ne h41 rfl rfl) fun x61_33 h42 => ?_
     refine mv ?_
     refine ls7 X 0 1 4 5 7 8 68 [] (g12_k4 ro (lpf4 120018 (g12_b3 ro) f3)) 6 ?_ ?_
     ·
      rcases condK_inv h42 with ⟨e, h80⟩ | ⟨e, h80⟩
      ·
       clear h16 h17 h18 h19 h20 h21 h22 h23 h24 h25 h26 h27 h28 h29 h30 h31 h32 h33 h34 h35 h36 h37 h38 h39 h40 h41 h42
       subst e
       refine sk ?_
       refine sk ?_
       refine sk ?_
       refine sk ?_
       refine sk ?_
       refine pu ?_
       exact la7 hS h80 ⟨rfl, rfl, rfl, rfl, rfl, rfl, rfl, trivial⟩
      ·
       clear h16 h17 h18 h19 h20 h21 h22 h23 h24 h25 h26 h27 h28 h29 h30 h31 h32 h33 h34 h35 h36 h37 h38 h39 h40 h41 h42
       subst e
       refine vy (V.fa h80 rfl Arf.fo28_1) fun x63_62 h81 => ?_
       refine vy (V.ld hS h81 rfl Arf.one3) fun x64_63 h82 => ?_
       refine vy (V.fa h82 rfl Arf.fo28_1) fun x65_64 h83 => ?_
       refine vy (V.ld hS h83 rfl Arf.one3) fun x66_65 h84 => ?_
       refine vy (V.ne h84 rfl rfl) fun x67_66 h85 => ?_
       refine pu ?_
       exact la7 hS h85 ⟨rfl, rfl, rfl, rfl, rfl, rfl, rfl, trivial⟩
     ·
      intro y0 y1 y4 y5 y7 y8 y68 T12 n12 ρ its hS h43
      unfold g12_k4 at h43
      clear h16 h17 h18 h19 h20 h21 h22 h23 h24 h25 h26 h27 h28 h29 h30 h31 h32 h33 h34 h35 h36 h37 h38 h39 h40 h41 h42
      refine mv ?_
      refine ls7 X 0 1 4 5 7 8 75 [] (g12_k5 ro (lpf4 120018 (g12_b3 ro) f3)) 6 ?_ ?_
      ·
       rcases condK_inv h43 with ⟨e, h74⟩ | ⟨e, h74⟩
       ·
        clear h43
        subst e
        refine sk ?_
        refine sk ?_
        refine sk ?_
        refine sk ?_
        refine sk ?_
        refine pu ?_
        exact la7 hS h74 ⟨rfl, rfl, rfl, rfl, rfl, rfl, rfl, trivial⟩
       ·
        clear h43
        subst e
        refine vy (V.fa h74 rfl Arf.fo28_3) fun x70_57 h75 => ?_
        refine vy (V.ld hS h75 rfl Arf.one9) fun x71_58 h76 => ?_
        refine vy (V.fa h76 rfl Arf.fo28_3) fun x72_59 h77 => ?_
        refine vy (V.ld hS h77 rfl Arf.one9) fun x73_60 h78 => ?_
        refine vy (V.neTS hS (envE_last _ _) h78 rfl rfl) fun x74_61 h79 => ?_
        refine pu ?_
        exact la7 hS h79 ⟨rfl, rfl, rfl, rfl, rfl, rfl, rfl, trivial⟩
      ·
       intro y0 y1 y4 y5 y7 y8 y75 T13 n13 ρ its hS h44
       unfold g12_k5 at h44
       clear h43
       refine mv ?_
       refine ls7 X 0 1 4 5 7 8 84 [] (g12_k6 ro (lpf4 120018 (g12_b3 ro) f3)) 8 ?_ ?_
       ·
        rcases condK_inv h44 with ⟨e, h66⟩ | ⟨e, h66⟩
        ·
         clear h44
         subst e
         refine sk ?_
         refine sk ?_
         refine sk ?_
         refine sk ?_
         refine sk ?_
         refine sk ?_
         refine sk ?_
         refine pu ?_
         exact la7 hS h66 ⟨rfl, rfl, rfl, rfl, rfl, rfl, rfl, trivial⟩
        ·
         clear h44
         subst e
         refine vy (V.fa h66 rfl Arf.fo28_4) fun x77_50 h67 => ?_
         refine vy (V.ld hS h67 rfl Arf.one22) fun x78_51 h68 => ?_
         refine vy (V.lenS h68 rfl Arf.ls22) fun x79_52 h69 => ?_
         refine vy (V.fa h69 rfl Arf.fo28_4) fun x80_53 h70 => ?_
         refine vy (V.ld hS h70 rfl Arf.one22) fun x81_54 h71 => ?_
         refine vy (V.lenS h71 rfl Arf.ls22) fun x82_55 h72 => ?_
         refine vy (V.ne h72 rfl rfl) fun x83_56 h73 => ?_
         refine pu ?_
         exact la7 hS h73 ⟨rfl, rfl, rfl, rfl, rfl, rfl, rfl, trivial⟩
       ·
        intro y0 y1 y4 y5 y7 y8 y84 T14 n14 ρ its hS h45
        unfold g12_k6 at h45
        clear h44
        refine dn ?_
        refine CV.cond h45 rfl (fun e h46 => ?_) (fun e h46 => ?_)
        ·
         clear h45
         subst e
         cases h46
        ·
         clear h45
         subst e
         refine CV.skip ?_
         refine PV.thenN ?_
         refine sr ?_
         refine vy (V.fa h46 rfl Arf.fo28_4) fun x85_34 h47 => ?_
         refine vy (V.ld hS h47 rfl Arf.one22) fun x86_35 h48 => ?_
         refine vy (V.lenS h48 rfl Arf.ls22) fun x87_36 h49 => ?_
         refine mv ?_
         refine dn ?_
         refine CV.block ?_
         refine cl8 X 0 1 4 5 7 8 87 88 [] hS h49 ⟨rfl, rfl, rfl, rfl, rfl, rfl, rfl, rfl, trivial⟩ ?_
         intro f7 y0 y1 y4 y5 y7 y8 y87 y88 T15 n15 ρ its hS h50
         unfold g12_b7 at h50
         clear h46 h47 h48 h49
         refine sr ?_
         refine vy (V.lt h50 rfl rfl) fun x89_37 h51 => ?_
         refine dn ?_
         refine CV.seq ?_
         refine CV.cond h51 rfl (fun e h52 => ?_) (fun e h52 => ?_)
         ·
          clear h50 h51
          subst e
          refine CV.skip ?_
          refine PV.thenN ?_
          refine CV.seq ?_
          refine CV.block ?_
          refine sr ?_
          refine mv ?_
          refine as_ ?_
          refine dn ?_
          refine CV.regionM [(0, .anywhere), (1, .anywhere), (2, .held), (3, .anywhere), (4, .held), (5, .held), (6, .anywhere), (7, .held), (8, .anywhere), (9, .held), (10, .held), (11, .held), (12, .alone), (13, .alone), (14, .alone)] rfl (fun c a a' w hd hq => PanicOk.root (P := Tryd.prog) (fn := Tryd.f12) (w0 := w0) (base := base) (E := (envE pn pm)) (ro := ro) (r := r) (T' := T') (n' := n') (ρ0 := ρ0) c a a' w hd hq) (by kernel_rfl) ?_
          refine MV.step0 (i := 0) rfl (VAL.move rfl) rfl rfl rfl ?_
          refine MV.lift0 (i := 1) rfl (V.fa h52 rfl Arf.fo28_4) rfl rfl rfl fun x92_38 h53 => ?_
          refine MV.lift1 (i := 2) rfl (fun _ z => z) (V.ld hS h53 rfl Arf.one22) rfl rfl rfl [] (by kernel_rfl) fun x93_39 h54 => ?_
          refine MV.step0 (i := 3) rfl (VAL.move rfl) rfl rfl rfl ?_
          refine MV.lift1 (i := 4) rfl (fun _ z => z) (V.ia h54 rfl rfl Arf.el22) rfl rfl rfl [] (by kernel_rfl) fun x95_40 h55 => ?_
          refine MV.lift1 (i := 5) rfl (fun _ z => z) (V.ld hS h55 rfl Arf.one3) rfl rfl rfl [] (by kernel_rfl) fun x96_41 h56 => ?_
          refine MV.lift0 (i := 6) rfl (V.fa h56 rfl Arf.fo28_4) rfl rfl rfl fun x97_42 h57 => ?_
          refine MV.lift1 (i := 7) rfl (fun _ z => z) (V.ld hS h57 rfl Arf.one22) rfl rfl rfl [5] (by kernel_rfl) fun x98_43 h58 => ?_
          refine MV.step0 (i := 8) rfl (VAL.move rfl) rfl rfl rfl ?_
          refine MV.lift1 (i := 9) rfl (fun _ z => z) (V.ia h58 rfl rfl Arf.el22) rfl rfl rfl [5] (by kernel_rfl) fun x100_44 h59 => ?_
          refine MV.lift1 (i := 10) rfl (fun _ z => z) (V.ld hS h59 rfl Arf.one3) rfl rfl rfl [5] (by kernel_rfl) fun x101_45 h60 => ?_
          refine MV.lift1 (i := 11) rfl (fun _ z => z) (V.bld h60 rfl) rfl rfl rfl [] (by kernel_rfl) fun x102_46 h61 => ?_
          refine MV.force (i := 12) rfl ?_
          refine LV.bslice hS h61 rfl rfl Arf.el55 rfl rfl rfl rfl fun x103_47 T16 n16 h62 ρ its hS hdr => ?_
          refine LV.nextM [] (by kernel_rfl) (fun z => absurd rfl z) ?_
          refine MV.force (i := 13) rfl ?_
          obtain ⟨T17, its1, h63, hS, hW⟩ := shrK_inv hS h62
          refine LV.world hW ?_
          refine LV.appE hS h63 rfl rfl rfl rfl Arf.el55 rfl rfl rfl fun x104_48 T18 n18 h64 ρ its hS => ?_
          refine LV.nextM [] (by kernel_rfl) (fun z => absurd rfl z) ?_
          refine MV.force (i := 14) rfl ?_
          refine as_ ?_
          refine LV.nextM [] (by kernel_rfl) (fun z => absurd rfl z) ?_
          refine MV.done ?_
          refine PV.blockN ?_
          refine PV.thenN ?_
          refine CV.region ?_
          refine vy (V.add h64 rfl rfl) fun x105_49 h65 => ?_
          refine mv ?_
          refine LV.done ?_
          exact pb8 hS h65 ⟨rfl, rfl, rfl, rfl, rfl, rfl, rfl, rfl, trivial⟩
         ·
          clear h50 h51
          subst e
          refine CV.exit ?_
          refine PV.thenE ?_
          refine PV.thenE ?_
          refine PV.blockE ?_
          refine PV.blockN ?_
          exact pb4 hS h52 ⟨rfl, rfl, rfl, rfl, trivial⟩
    ·
     clear h13 h14 h15
     subst e
     refine CV.exit ?_
     refine PV.thenE ?_
     refine PV.thenE ?_
     refine PV.blockE ?_
     refine PV.thenN ?_
     refine sr ?_
     refine as_ ?_
     refine dn ?_
     refine CV.ret ?_
     cases h16
     exact PV.ret (by simp) Tryd.results12 hS (RS.tmp rfl RS.nil) rfl
theorem num_h {pn pm : Nat} (c : Nat) (z q : AV) (ro : List HT) (T : HT) (nx : Nat) : GOk Tryd.prog (envE pn pm) 5 [z, q] ro T nx (numTK c z q T nx) := numTK_ok (Enters.of Tryd.func5 (by kernel_rfl) (by kernel_rfl)) (envE_last pn pm) (fun m ro T nx => number_ok (envE pn pm) m 8 (by decide) (by decide) ro T nx) z q ro T nx
theorem seq_h {pn pm : Nat} (c : Nat) (a : AV) (ro : List HT) (T : HT) (nx : Nat) : GOk Tryd.prog (envE pn pm) 11 [a] ro T nx (seqTK c pn pm 9 a T nx) := seqTK_ok (Enters.of Tryd.func11 (by kernel_rfl) (by kernel_rfl)) sorted_c (envE_last pn pm) a ro T nx
noncomputable def g3_k4 (pn pm : Nat) (q0 : AV) (ro : List HT) (lp3 : AV → AV → AV → AV → AV → HT → Nat → R) (y2 y4 y5 y6 y7 : AV) (T13 : HT) (n13 : Nat) : R :=
 lenSK 30055 y4 fun x66_21 =>
 subK Tryd.prog 3 (.tmp 66) (.const (.int .i64 (.ofNat 1))) 30056 x66_21 (.lit (.int .i64 (.ofNat 1))) fun x67_22 =>
 tAddOK Tryd.prog 3 (.tmp 30) (.const (.int .i64 (.ofNat 1))) 30059 y7 (.lit (.int .i64 (.ofNat 1))) fun x31_23 =>
 lp3 y2 y4 y5 x67_22 x31_23 T13 n13
noncomputable def g3_k10 (pn pm : Nat) (q0 : AV) (ro : List HT) (y2 y136 : AV) (T35 : HT) (n35 : Nat) : R :=
 .ok (.val y136) T35 n35
noncomputable def g3_k9 (pn pm : Nat) (q0 : AV) (ro : List HT) (y2 y4 y131 : AV) (T34 : HT) (n34 : Nat) : R :=
 condK 30115 y131
 (
  callK (g12 ro y4 y4 T34 n34) fun x135_47 T36 n36 =>
  g3_k10 pn pm q0 ro y2 x135_47 T36 n36
 )
 (
  g3_k10 pn pm q0 ro y2 (.lit (.bool false)) T34 n34
 )
noncomputable def g3_k8 (pn pm : Nat) (q0 : AV) (ro : List HT) (y2 y4 y6 y121 : AV) (T33 : HT) (n33 : Nat) : R :=
 condK 30121 y121
 (
  iaK 30124 y4 y6 5 fun x125_48 =>
  faK 30125 x125_48 4 fun x126_49 =>
  ldK 30126 T33 ro x126_49 fun x127_50 =>
  iaK 30127 x127_50 (.lit (.int .i64 (.ofNat 0))) 1 fun x128_51 =>
  ldK 30128 T33 ro x128_51 fun x129_52 =>
  neK Tryd.prog 3 (.tmp 129) (.const (.int .i64 (.ofNat 99))) 30129 x129_52 (.lit (.int .i64 (.ofNat 99))) fun x130_53 =>
  g3_k9 pn pm q0 ro y2 y4 x130_53 T33 n33
 )
 (
  g3_k9 pn pm q0 ro y2 y4 (.lit (.bool false)) T33 n33
 )
noncomputable def g3_k7 (pn pm : Nat) (q0 : AV) (ro : List HT) (y2 y4 y6 y9 y107 : AV) (T30 : HT) (n30 : Nat) : R :=
 condK 30102 y107
 (
  .ok (.val (.lit (.bool false))) T30 n30
 )
 (
  iaK 30105 y9 (.lit (.int .i64 (.ofNat 0))) 1 fun x109_43 =>
  stK 30106 T30 x109_43 (.lit (.int .i64 (.ofNat 99))) fun T31 =>
  callK (g6 ro y4 (.lit (.int .i64 (.negSucc 0))) T31 n30) fun x111_44 T32 n32 =>
  lenSK 30109 x111_44 fun x112_45 =>
  eqK Tryd.prog 3 (.tmp 112) (.const (.int .i64 (.ofNat 0))) 30110 x112_45 (.lit (.int .i64 (.ofNat 0))) fun x113_46 =>
  condK 30132 x113_46
  (
   lenSK 30135 y4 fun x117_54 =>
   callK (g6 ro y4 x117_54 T32 n32) fun x118_55 T37 n37 =>
   lenSK 30137 x118_55 fun x119_56 =>
   eqK Tryd.prog 3 (.tmp 119) (.const (.int .i64 (.ofNat 0))) 30138 x119_56 (.lit (.int .i64 (.ofNat 0))) fun x120_57 =>
   g3_k8 pn pm q0 ro y2 y4 y6 x120_57 T37 n37
  )
  (
   g3_k8 pn pm q0 ro y2 y4 y6 (.lit (.bool false)) T32 n32
  )
 )
noncomputable def g3_k6 (pn pm : Nat) (q0 : AV) (ro : List HT) (y2 y4 y5 y6 y9 y99 : AV) (T29 : HT) (n29 : Nat) : R :=
 condK 30141 y99
 (
  g3_k7 pn pm q0 ro y2 y4 y6 y9 (.lit (.bool true)) T29 n29
 )
 (
  callK (g10 pn pm ro y4 T29 n29) fun x102_58 T38 n38 =>
  callK (seqTK 2 pn pm 9 y5 T38 n38) fun x104_59 T39 n39 =>
  callK (g9 ro x102_58 x104_59 T39 n39) fun x105_60 T40 n40 =>
  notK 30148 x105_60 fun x106_61 =>
  g3_k7 pn pm q0 ro y2 y4 y6 y9 x106_61 T40 n40
 )
noncomputable def g3_k5 (pn pm : Nat) (q0 : AV) (ro : List HT) (y2 y4 y5 y6 y9 y94 : AV) (T28 : HT) (n28 : Nat) : R :=
 condK 30150 y94
 (
  g3_k6 pn pm q0 ro y2 y4 y5 y6 y9 (.lit (.bool true)) T28 n28
 )
 (
  lenSK 30153 y9 fun x97_62 =>
  neK Tryd.prog 3 (.tmp 97) (.const (.int .i64 (.ofNat 2))) 30154 x97_62 (.lit (.int .i64 (.ofNat 2))) fun x98_63 =>
  g3_k6 pn pm q0 ro y2 y4 y5 y6 y9 x98_63 T28 n28
 )
noncomputable def g3_b3 (pn pm : Nat) (q0 : AV) (ro : List HT) (lp3 : AV → AV → AV → AV → AV → HT → Nat → R) (y2 y4 y5 y6 y7 : AV) (T4 : HT) (n4 : Nat) : R :=
 lenLK 30023 pn pm q0 fun x28_5 =>
 ltK Tryd.prog 3 (.tmp 26) (.tmp 28) 30024 y7 x28_5 fun x29_6 =>
 condK 30025 x29_6
 (
  iaTK 30028 pn q0 y7 fun x34_7 =>
  ldTK 30029 pn x34_7 fun x35_8 =>
  iaTK 30032 pn q0 y7 fun x39_9 =>
  ldTK 30033 pn x39_9 fun x40_10 =>
  callK (numTK 1 x35_8 (.lit (.int .i64 (.ofNat 8))) T4 n4) fun x36_11 T5 n5 =>
  keepK 30035 T4 T5 [(q0, 0, 0)] <|
  callK (numTK 1 x40_10 (.lit (.int .i64 (.ofNat 8))) T5 n5) fun x41_12 T6 n6 =>
  tAddOK Tryd.prog 3 (.tmp 41) (.const (.int .i64 (.ofNat 1))) 30037 x41_12 (.lit (.int .i64 (.ofNat 1))) fun x42_13 =>
  tCutK 30038 x36_11 x42_13 fun x43_14 =>
  tCatK 30039 x43_14 fun x44_15 =>
  bsK 30043 T6 n6 1 9 1 [(0, x44_15)] fun x47_16 T7 n7 =>
  shrK 30045 T7 y5 fun T8 =>
  appEK 30044 T8 ro n7 9 1 16 y5 x47_16 fun x48_17 T9 n9 =>
  optK 30049 (bld28 [(0, (.lit (.int .i64 (.ofNat 6)))), (3, x44_15)]) fun x51_18 =>
  bsK 30050 T9 n9 1 28 5 [(0, x51_18)] fun x52_19 T10 n10 =>
  shrK 30052 T10 y4 fun T11 =>
  appEK 30051 T11 ro n10 28 5 64 y4 x52_19 fun x53_20 T12 n12 =>
  gtK Tryd.prog 3 (.tmp 54) (.const (.int .i64 (.ofNat 0))) 30062 y7 (.lit (.int .i64 (.ofNat 0))) fun x55_24 =>
  condK 30063 x55_24
  (
   lenSK 30067 x53_20 fun x59_25 =>
   subK Tryd.prog 3 (.tmp 59) (.const (.int .i64 (.ofNat 1))) 30068 x59_25 (.lit (.int .i64 (.ofNat 1))) fun x60_26 =>
   bsK 30069 T12 n12 2 3 1 [(0, y6), (1, x60_26)] fun x61_27 T14 n14 =>
   optK 30070 (bld28 [(0, (.lit (.int .i64 (.ofNat 21)))), (4, x61_27)]) fun x62_28 =>
   bsK 30071 T14 n14 1 28 5 [(0, x62_28)] fun x63_29 T15 n15 =>
   shrK 30073 T15 x53_20 fun T16 =>
   appEK 30072 T16 ro n15 28 5 64 x53_20 x63_29 fun x64_30 T17 n17 =>
   g3_k4 pn pm q0 ro lp3 y2 x64_30 x48_17 y6 y7 T17 n17
  )
  (
   g3_k4 pn pm q0 ro lp3 y2 x53_20 x48_17 y6 y7 T12 n12
  )
 )
 (
  bsK 30077 T4 n4 1 3 1 [(0, y6)] fun x70_31 T18 n18 =>
  optK 30078 (bld28 [(0, (.lit (.int .i64 (.ofNat 35)))), (4, x70_31)]) fun x71_32 =>
  bsK 30079 T18 n18 1 28 5 [(0, x71_32)] fun x72_33 T19 n19 =>
  shrK 30081 T19 y4 fun T20 =>
  appEK 30080 T20 ro n19 28 5 64 y4 x72_33 fun x73_34 T21 n21 =>
  tAddOK Tryd.prog 3 (.tmp 75) (.const (.int .i64 (.ofNat 1))) 30085 y6 (.lit (.int .i64 (.ofNat 1))) fun x76_35 =>
  bsK 30086 T21 n21 1 3 1 [(0, x76_35)] fun x77_36 T22 n22 =>
  optK 30087 (bld28 [(0, (.lit (.int .i64 (.ofNat 47)))), (4, x77_36)]) fun x78_37 =>
  bsK 30088 T22 n22 1 28 5 [(0, x78_37)] fun x79_38 T23 n23 =>
  shrK 30090 T23 x73_34 fun T24 =>
  appEK 30089 T24 ro n23 28 5 64 x73_34 x79_38 fun x80_39 T25 n25 =>
  callK (g6 ro x80_39 y6 T25 n25) fun x83_40 T26 n26 =>
  callK (g7 ro x80_39 T26 n26) fun x85_41 T27 n27 =>
  bin0 Tryd.prog .neq 31 (.tmp 85) (.const (.nilIface)) 30098 x85_41 (.lit (.nilIface)) fun x86_42 =>
  condK 30156 x86_42
  (
   g3_k5 pn pm q0 ro y2 x80_39 y5 y6 x83_40 (.lit (.bool true)) T27 n27
  )
  (
   callK (g8 ro x80_39 T27 n27) fun x89_64 T41 n41 =>
   lenLK 30161 pn pm q0 fun x91_65 =>
   addK Tryd.prog 3 (.tmp 91) (.const (.int .i64 (.ofNat 2))) 30162 x91_65 (.lit (.int .i64 (.ofNat 2))) fun x92_66 =>
   neK Tryd.prog 3 (.tmp 89) (.tmp 92) 30163 x89_64 x92_66 fun x93_67 =>
   g3_k5 pn pm q0 ro y2 x80_39 y5 y6 x83_40 x93_67 T41 n41
  )
 )
noncomputable def g3_k2 (pn pm : Nat) (q0 : AV) (ro : List HT) (y3 y24 : AV) (T3 : HT) (n3 : Nat) : R :=
 condK 30013 y24
 (
  .ok (.val y3) T3 n3
 )
 (
  lpf5 30020 (g3_b3 pn pm q0 ro) 100000 (.lit (.bool false)) (.lit (.slice none 0 0)) (.lit (.slice none 0 0)) (.lit (.int .i64 (.ofNat 0))) (.lit (.int .i64 (.ofNat 0))) T3 n3
 )
noncomputable def g3_k1 (pn pm : Nat) (q0 : AV) (ro : List HT) (y3 y20 : AV) (T2 : HT) (n2 : Nat) : R :=
 condK 30165 y20
 (
  g3_k2 pn pm q0 ro y3 (.lit (.bool true)) T2 n2
 )
 (
  notK 30168 y3 fun x23_68 =>
  g3_k2 pn pm q0 ro y3 x23_68 T2 n2
 )
noncomputable def g3 (pn pm : Nat) (q0 : AV) (ro : List HT) (q0 : AV) (T : HT) (nx : Nat) : R :=
 callK (.ok (.val (.lit (.bool true))) T nx) fun x10_1 T1 n1 =>
 notK 30005 x10_1 fun x12_2 =>
 condK 30006 x12_2
 (
  .ok (.val (.lit (.bool false))) T1 n1
 )
 (
  lenLK 30009 pn pm q0 fun x14_3 =>
  gtK Tryd.prog 3 (.tmp 14) (.const (.int .i64 (.ofNat 60))) 30010 x14_3 (.lit (.int .i64 (.ofNat 60))) fun x15_4 =>
  condK 30170 x15_4
  (
   g3_k1 pn pm q0 ro x10_1 (.lit (.bool true)) T1 n1
  )
  (
   lenLK 30173 pn pm q0 fun x18_69 =>
   ltK Tryd.prog 3 (.tmp 18) (.const (.int .i64 (.ofNat 2))) 30174 x18_69 (.lit (.int .i64 (.ofNat 2))) fun x19_70 =>
   g3_k1 pn pm q0 ro x10_1 x19_70 T1 n1
  )
 )
theorem g3_ok (pn pm : Nat) (q0 : AV)  (ro : List HT) (T : HT) (nx : Nat) (hF : GOk Tryd.prog (envE pn pm) 4 [] ro T nx (.ok (.val (.lit (.bool true))) T nx)) : GOk Tryd.prog (envE pn pm) 3 [q0] ro T nx (g3 pn pm q0 ro q0 T nx) := by
 refine GOk.of_body Tryd.func3 rfl Tryd.ntmps3 (by kernel_rfl) rfl fun r T' n' h1 w0 base ρ0 its hS hP => ?_
 have X : CtxW (envE pn pm) ρ0 ro r T' n' := trivial
 unfold g3 at h1
 refine sr ?_
 refine as_ ?_
 refine dn ?_
 refine sr ?_
 refine LV.call hS h1 (hF) hP rfl rfl rfl rfl fun x10_1 T1 n1 h2 ρ its hS => ?_
 refine as_ ?_
 refine dn ?_
 refine CV.seq ?_
 refine sr ?_
 refine mv ?_
 refine vy (V.not h2 rfl) fun x12_2 h3 => ?_
 refine dn ?_
 refine CV.cond h3 rfl (fun e h4 => ?_) (fun e h4 => ?_)
 ·
  clear h1 h2 h3
  subst e
  refine sr ?_
  refine as_ ?_
  refine dn ?_
  refine CV.ret ?_
  refine PV.thenR ?_
  cases h4
  exact PV.ret (by simp) Tryd.results3 hS (RS.tmp rfl RS.nil) rfl
 ·
  clear h1 h2 h3
  subst e
  refine CV.skip ?_
  refine PV.thenN ?_
  refine CV.seq ?_
  refine sr ?_
  refine mv ?_
  refine vy (V.lenLk hS (envE_last _ _) h4 rfl Arf.slt22 rfl) fun x14_3 h5 => ?_
  refine vy (V.gt h5 rfl rfl) fun x15_4 h6 => ?_
  refine mv ?_
  refine ls2 X 3 20 [(2, (.lit (.bool false))), (0, q0)] (g3_k1 pn pm q0 ro) 4 ?_ ?_
  ·
   rcases condK_inv h6 with ⟨e, h99⟩ | ⟨e, h99⟩
   ·
    clear h4 h5 h6
    subst e
    refine sk ?_
    refine sk ?_
    refine sk ?_
    refine pu ?_
    exact la2 hS h99 ⟨rfl, rfl, rfl, rfl, trivial⟩
   ·
    clear h4 h5 h6
    subst e
    refine mv ?_
    refine vy (V.lenLk hS (envE_last _ _) h99 rfl Arf.slt22 rfl) fun x18_69 h100 => ?_
    refine vy (V.lt h100 rfl rfl) fun x19_70 h101 => ?_
    refine pu ?_
    exact la2 hS h101 ⟨rfl, rfl, rfl, rfl, trivial⟩
  ·
   intro y3 y20 T2 n2 ρ its hS h7
   unfold g3_k1 at h7
   clear h4 h5 h6
   refine mv ?_
   refine ls2 X 3 24 [(2, (.lit (.bool false))), (0, q0)] (g3_k2 pn pm q0 ro) 3 ?_ ?_
   ·
    rcases condK_inv h7 with ⟨e, h97⟩ | ⟨e, h97⟩
    ·
     clear h7
     subst e
     refine sk ?_
     refine sk ?_
     refine pu ?_
     exact la2 hS h97 ⟨rfl, rfl, rfl, rfl, trivial⟩
    ·
     clear h7
     subst e
     refine mv ?_
     refine vy (V.not h97 rfl) fun x23_68 h98 => ?_
     refine pu ?_
     exact la2 hS h98 ⟨rfl, rfl, rfl, rfl, trivial⟩
   ·
    intro y3 y24 T3 n3 ρ its hS h8
    unfold g3_k2 at h8
    clear h7
    refine dn ?_
    refine CV.cond h8 rfl (fun e h9 => ?_) (fun e h9 => ?_)
    ·
     clear h8
     subst e
     refine sr ?_
     refine mv ?_
     refine as_ ?_
     refine dn ?_
     refine CV.ret ?_
     refine PV.thenR ?_
     cases h9
     exact PV.ret (by simp) Tryd.results3 hS (RS.tmp rfl RS.nil) rfl
    ·
     clear h8
     subst e
     refine CV.skip ?_
     refine PV.thenN ?_
     refine sr ?_
     refine as_ ?_
     refine dn ?_
     refine sr ?_
     refine as_ ?_
     refine dn ?_
     refine sr ?_
     refine as_ ?_
     refine dn ?_
     refine CV.seq ?_
     refine sr ?_
     refine as_ ?_
     refine dn ?_
     refine CV.block ?_
     refine cl5 X 2 4 5 6 7 [(0, q0)] hS h9 ⟨rfl, rfl, rfl, rfl, rfl, rfl, trivial⟩ ?_
     intro f3 y2 y4 y5 y6 y7 T4 n4 ρ its hS h10
     unfold g3_b3 at h10
     clear h9
     refine CV.seq ?_
     refine sr ?_
     refine mv ?_
     refine mv ?_
     refine vy (V.lenLk hS (envE_last _ _) h10 rfl Arf.slt22 rfl) fun x28_5 h11 => ?_
     refine vy (V.lt h11 rfl rfl) fun x29_6 h12 => ?_
     refine dn ?_
     refine CV.cond h12 rfl (fun e h13 => ?_) (fun e h13 => ?_)
     ·
      clear h10 h11 h12
      subst e
      refine CV.skip ?_
      refine PV.thenN ?_
      refine CV.seq ?_
      refine CV.block ?_
      refine CV.seq ?_
      refine CV.regionMS hS [(q0, 0, 0)] [(0, .anywhere), (1, .anywhere), (2, .anywhere), (3, .held), (5, .anywhere), (6, .anywhere), (7, .anywhere), (8, .held), (4, .alone), (9, .alone), (10, .alone), (11, .alone), (12, .alone), (13, .alone)] rfl (fun c a a' w hd hq => PanicOk.root (P := Tryd.prog) (fn := Tryd.f3) (w0 := w0) (base := base) (E := (envE pn pm)) (ro := ro) (r := r) (T' := T') (n' := n') (ρ0 := ρ0) c a a' w hd hq) (by kernel_rfl) ?_
      have hK := KeepS.start [(q0, 0, 0)] hS
      have hR := hS
      have hP0 := hP
      replace hP := PK.up hR hP
      replace hS := hR.root
      refine MV.step0 (i := 0) rfl (VAL.move rfl) rfl rfl rfl ?_
      refine MV.step0 (i := 1) rfl (VAL.move rfl) rfl rfl rfl ?_
      refine MV.lift0 (i := 2) rfl (V.iaTk hS (envE_last _ _) h13 rfl rfl Arf.el22) rfl rfl rfl fun x34_7 h14 => ?_
      refine MV.lift1 (i := 3) rfl hK (V.ldTk hS (envE_last _ _) h14 rfl Arf.one3 (by first | exact fun _ q => WA.below q | exact fun _ q => q.1)) rfl rfl rfl [] (by kernel_rfl) fun x35_8 h15 => ?_
      refine MV.step0 (i := 5) rfl (VAL.move rfl) rfl rfl rfl ?_
      refine MV.step0 (i := 6) rfl (VAL.move rfl) rfl rfl rfl ?_
      refine MV.lift0 (i := 7) rfl (V.iaTk hS (envE_last _ _) h15 rfl rfl Arf.el22) rfl rfl rfl fun x39_9 h16 => ?_
      refine MV.lift1 (i := 8) rfl hK (V.ldTk hS (envE_last _ _) h16 rfl Arf.one3 (by first | exact fun _ q => WA.below q | exact fun _ q => q.1)) rfl rfl rfl [3] (by kernel_rfl) fun x40_10 h17 => ?_
      refine MV.force (i := 4) rfl ?_
      refine LV.call hS h17 (num_h _ _ _ _ _ _) hP rfl rfl rfl rfl fun x36_11 T5 n5 h18 ρ its hS => ?_
      obtain ⟨hK, h19⟩ := KeepS.step hR hS h18
      refine LV.nextM [8] (by kernel_rfl) (fun _ => hK) ?_
      refine MV.force (i := 9) rfl ?_
      refine LV.call hS h19 (num_h _ _ _ _ _ _) hP rfl rfl rfl rfl fun x41_12 T6 n6 h20 ρ its hS => ?_
      refine LV.nextM [] (by kernel_rfl) (fun z => absurd rfl z) ?_
      refine MV.force (i := 10) rfl ?_
      refine vy (V.tAddO hS (envE_last _ _) h20 rfl rfl) fun x42_13 h21 => ?_
      refine LV.nextM [] (by kernel_rfl) (fun z => absurd rfl z) ?_
      refine MV.force (i := 11) rfl ?_
      refine vy (V.tCut hS (envE_last _ _) h21 rfl rfl Arf.st9) fun x43_14 h22 => ?_
      refine LV.nextM [] (by kernel_rfl) (fun z => absurd rfl z) ?_
      refine MV.force (i := 12) rfl ?_
      refine vy (V.tCat hS (envE_last _ _) h22 rfl) fun x44_15 h23 => ?_
      refine LV.nextM [] (by kernel_rfl) (fun z => absurd rfl z) ?_
      refine MV.force (i := 13) rfl ?_
      refine as_ ?_
      refine LV.nextM [] (by kernel_rfl) (fun z => absurd rfl z) ?_
      replace hS := hR.up hS
      replace hP := hP0
      refine mdn ?_
      refine sr ?_
      refine mv ?_
      refine mv ?_
      refine LV.bslice hS h23 rfl rfl Arf.el25 rfl rfl rfl rfl fun x47_16 T7 n7 h24 ρ its hS hdr => ?_
      obtain ⟨T8, its1, h25, hS, hW⟩ := shrK_inv hS h24
      refine LV.world hW ?_
      refine LV.appE hS h25 rfl rfl rfl rfl Arf.el25 rfl rfl rfl fun x48_17 T9 n9 h26 ρ its hS => ?_
      refine as_ ?_
      refine dn ?_
      refine sr ?_
      refine mv ?_
      refine mv ?_
      refine vy (V.bld h26 rfl) fun x51_18 h27 => ?_
      refine LV.bslice hS h27 rfl rfl Arf.el24 rfl rfl rfl rfl fun x52_19 T10 n10 h28 ρ its hS hdr => ?_
      obtain ⟨T11, its1, h29, hS, hW⟩ := shrK_inv hS h28
      refine LV.world hW ?_
      refine LV.appE hS h29 rfl rfl rfl rfl Arf.el24 rfl rfl rfl fun x53_20 T12 n12 h30 ρ its hS => ?_
      refine as_ ?_
      refine dn ?_
      refine cs5 X 2 4 5 6 7 [(0, q0)] (g3_k4 pn pm q0 ro (lpf5 30020 (g3_b3 pn pm q0 ro) f3)) ?_ ?_
      ·
       refine sr ?_
       refine mv ?_
       refine vy (V.gt h30 rfl rfl) fun x55_24 h35 => ?_
       refine dn ?_
       refine CV.cond h35 rfl (fun e h36 => ?_) (fun e h36 => ?_)
       ·
        clear h13 h14 h15 h16 h17 h18 h19 h20 h21 h22 h23 h24 h25 h26 h27 h28 h29 h30 h35
        subst e
        refine CV.region ?_
        refine mv ?_
        refine mv ?_
        refine mv ?_
        refine vy (V.lenS h36 rfl Arf.ls24) fun x59_25 h37 => ?_
        refine vy (V.sub h37 rfl rfl) fun x60_26 h38 => ?_
        refine LV.bslice hS h38 rfl rfl Arf.el22 rfl rfl rfl rfl fun x61_27 T14 n14 h39 ρ its hS hdr => ?_
        refine vy (V.bld h39 rfl) fun x62_28 h40 => ?_
        refine LV.bslice hS h40 rfl rfl Arf.el24 rfl rfl rfl rfl fun x63_29 T15 n15 h41 ρ its hS hdr => ?_
        obtain ⟨T16, its1, h42, hS, hW⟩ := shrK_inv hS h41
        refine LV.world hW ?_
        refine LV.appE hS h42 rfl rfl rfl rfl Arf.el24 rfl rfl rfl fun x64_30 T17 n17 h43 ρ its hS => ?_
        refine as_ ?_
        refine LV.done ?_
        exact pa5 hS h43 ⟨rfl, rfl, rfl, rfl, rfl, rfl, trivial⟩
       ·
        clear h13 h14 h15 h16 h17 h18 h19 h20 h21 h22 h23 h24 h25 h26 h27 h28 h29 h30 h35
        subst e
        refine CV.skip ?_
        exact pa5 hS h36 ⟨rfl, rfl, rfl, rfl, rfl, rfl, trivial⟩
      ·
       intro y2 y4 y5 y6 y7 T13 n13 ρ its hS h31
       unfold g3_k4 at h31
       clear h13 h14 h15 h16 h17 h18 h19 h20 h21 h22 h23 h24 h25 h26 h27 h28 h29 h30
       refine CV.region ?_
       refine mv ?_
       refine vy (V.lenS h31 rfl Arf.ls24) fun x66_21 h32 => ?_
       refine vy (V.sub h32 rfl rfl) fun x67_22 h33 => ?_
       refine as_ ?_
       refine LV.done ?_
       refine PV.blockN ?_
       refine PV.thenN ?_
       refine CV.region ?_
       refine mv ?_
       refine vy (V.tAddO hS (envE_last _ _) h33 rfl rfl) fun x31_23 h34 => ?_
       refine as_ ?_
       refine LV.done ?_
       exact pb5 hS h34 ⟨rfl, rfl, rfl, rfl, rfl, rfl, trivial⟩
     ·
      clear h10 h11 h12
      subst e
      refine CV.exit ?_
      refine PV.thenE ?_
      refine PV.thenE ?_
      refine PV.blockE ?_
      refine PV.thenN ?_
      refine sr ?_
      refine mv ?_
      refine mv ?_
      refine LV.bslice hS h13 rfl rfl Arf.el22 rfl rfl rfl rfl fun x70_31 T18 n18 h44 ρ its hS hdr => ?_
      refine vy (V.bld h44 rfl) fun x71_32 h45 => ?_
      refine LV.bslice hS h45 rfl rfl Arf.el24 rfl rfl rfl rfl fun x72_33 T19 n19 h46 ρ its hS hdr => ?_
      obtain ⟨T20, its1, h47, hS, hW⟩ := shrK_inv hS h46
      refine LV.world hW ?_
      refine LV.appE hS h47 rfl rfl rfl rfl Arf.el24 rfl rfl rfl fun x73_34 T21 n21 h48 ρ its hS => ?_
      refine as_ ?_
      refine dn ?_
      refine sr ?_
      refine mv ?_
      refine mv ?_
      refine vy (V.tAddO hS (envE_last _ _) h48 rfl rfl) fun x76_35 h49 => ?_
      refine LV.bslice hS h49 rfl rfl Arf.el22 rfl rfl rfl rfl fun x77_36 T22 n22 h50 ρ its hS hdr => ?_
      refine vy (V.bld h50 rfl) fun x78_37 h51 => ?_
      refine LV.bslice hS h51 rfl rfl Arf.el24 rfl rfl rfl rfl fun x79_38 T23 n23 h52 ρ its hS hdr => ?_
      obtain ⟨T24, its1, h53, hS, hW⟩ := shrK_inv hS h52
      refine LV.world hW ?_
      refine LV.appE hS h53 rfl rfl rfl rfl Arf.el24 rfl rfl rfl fun x80_39 T25 n25 h54 ρ its hS => ?_
      refine as_ ?_
      refine dn ?_
      refine sr ?_
      refine mv ?_
      refine mv ?_
      refine LV.call hS h54 (g6_ok _ _ _ _ _ ) hP rfl rfl rfl rfl fun x83_40 T26 n26 h55 ρ its hS => ?_
      refine as_ ?_
      refine dn ?_
      refine CV.seq ?_
      refine sr ?_
      refine mv ?_
      refine LV.call hS h55 (g7_ok _ _ _ _ ) hP rfl rfl rfl rfl fun x85_41 T27 n27 h56 ρ its hS => ?_
      refine vy (V.bin0 h56 rfl rfl) fun x86_42 h57 => ?_
      refine mv ?_
      refine ls6 X 2 4 5 6 9 94 [] (g3_k5 pn pm q0 ro) 7 ?_ ?_
      ·
       rcases condK_inv h57 with ⟨e, h92⟩ | ⟨e, h92⟩
       ·
        clear h13 h44 h45 h46 h47 h48 h49 h50 h51 h52 h53 h54 h55 h56 h57
        subst e
        refine sk ?_
        refine sk ?_
        refine sk ?_
        refine sk ?_
        refine sk ?_
        refine sk ?_
        refine pu ?_
        exact la6 hS h92 ⟨rfl, rfl, rfl, rfl, rfl, rfl, trivial⟩
       ·
        clear h13 h44 h45 h46 h47 h48 h49 h50 h51 h52 h53 h54 h55 h56 h57
        subst e
        refine mv ?_
        refine LV.call hS h92 (g8_ok _ _ _ _ ) hP rfl rfl rfl rfl fun x89_64 T41 n41 h93 ρ its hS => ?_
        refine mv ?_
        refine vy (V.lenLk hS (envE_last _ _) h93 rfl Arf.slt22 rfl) fun x91_65 h94 => ?_
        refine vy (V.add h94 rfl rfl) fun x92_66 h95 => ?_
        refine vy (V.ne h95 rfl rfl) fun x93_67 h96 => ?_
        refine pu ?_
        exact la6 hS h96 ⟨rfl, rfl, rfl, rfl, rfl, rfl, trivial⟩
      ·
       intro y2 y4 y5 y6 y9 y94 T28 n28 ρ its hS h58
       unfold g3_k5 at h58
       clear h13 h44 h45 h46 h47 h48 h49 h50 h51 h52 h53 h54 h55 h56 h57
       refine mv ?_
       refine ls6 X 2 4 5 6 9 99 [] (g3_k6 pn pm q0 ro) 4 ?_ ?_
       ·
        rcases condK_inv h58 with ⟨e, h89⟩ | ⟨e, h89⟩
        ·
         clear h58
         subst e
         refine sk ?_
         refine sk ?_
         refine sk ?_
         refine pu ?_
         exact la6 hS h89 ⟨rfl, rfl, rfl, rfl, rfl, rfl, trivial⟩
        ·
         clear h58
         subst e
         refine mv ?_
         refine vy (V.lenS h89 rfl Arf.ls22) fun x97_62 h90 => ?_
         refine vy (V.ne h90 rfl rfl) fun x98_63 h91 => ?_
         refine pu ?_
         exact la6 hS h91 ⟨rfl, rfl, rfl, rfl, rfl, rfl, trivial⟩
       ·
        intro y2 y4 y5 y6 y9 y99 T29 n29 ρ its hS h59
        unfold g3_k6 at h59
        clear h58
        refine mv ?_
        refine ls5 X 2 4 6 9 107 [] (g3_k7 pn pm q0 ro) 7 ?_ ?_
        ·
         rcases condK_inv h59 with ⟨e, h84⟩ | ⟨e, h84⟩
         ·
          clear h59
          subst e
          refine sk ?_
          refine sk ?_
          refine sk ?_
          refine sk ?_
          refine sk ?_
          refine sk ?_
          refine pu ?_
          exact la5 hS h84 ⟨rfl, rfl, rfl, rfl, rfl, trivial⟩
         ·
          clear h59
          subst e
          refine mv ?_
          refine LV.call hS h84 (g10_ok pn pm _ _ _ _) hP rfl rfl rfl rfl fun x102_58 T38 n38 h85 ρ its hS => ?_
          refine mv ?_
          refine LV.call hS h85 (seq_h _ _ _ _ _) hP rfl rfl rfl rfl fun x104_59 T39 n39 h86 ρ its hS => ?_
          refine LV.call hS h86 (g9_ok _ _ _ _ _ ) hP rfl rfl rfl rfl fun x105_60 T40 n40 h87 ρ its hS => ?_
          refine vy (V.not h87 rfl) fun x106_61 h88 => ?_
          refine pu ?_
          exact la5 hS h88 ⟨rfl, rfl, rfl, rfl, rfl, trivial⟩
        ·
         intro y2 y4 y6 y9 y107 T30 n30 ρ its hS h60
         unfold g3_k7 at h60
         clear h59
         refine dn ?_
         refine CV.cond h60 rfl (fun e h61 => ?_) (fun e h61 => ?_)
         ·
          clear h60
          subst e
          refine sr ?_
          refine as_ ?_
          refine dn ?_
          refine CV.ret ?_
          refine PV.thenR ?_
          cases h61
          exact PV.ret (by simp) Tryd.results3 hS (RS.tmp rfl RS.nil) rfl
         ·
          clear h60
          subst e
          refine CV.skip ?_
          refine PV.thenN ?_
          refine sr ?_
          refine mv ?_
          refine vy (V.ia h61 rfl rfl Arf.el22) fun x109_43 h62 => ?_
          refine LV.st hS h62 rfl rfl rfl Arf.siz3 rfl rfl fun T31 its h63 hS => ?_
          refine dn ?_
          refine sr ?_
          refine mv ?_
          refine LV.call hS h63 (g6_ok _ _ _ _ _ ) hP rfl rfl rfl rfl fun x111_44 T32 n32 h64 ρ its hS => ?_
          refine vy (V.lenS h64 rfl Arf.ls22) fun x112_45 h65 => ?_
          refine vy (V.eq h65 rfl rfl) fun x113_46 h66 => ?_
          refine mv ?_
          refine ls4 X 2 4 6 121 [] (g3_k8 pn pm q0 ro) 7 ?_ ?_
          ·
           rcases condK_inv h66 with ⟨e, h79⟩ | ⟨e, h79⟩
           ·
            clear h61 h62 h63 h64 h65 h66
            subst e
            refine mv ?_
            refine mv ?_
            refine vy (V.lenS h79 rfl Arf.ls24) fun x117_54 h80 => ?_
            refine LV.call hS h80 (g6_ok _ _ _ _ _ ) hP rfl rfl rfl rfl fun x118_55 T37 n37 h81 ρ its hS => ?_
            refine vy (V.lenS h81 rfl Arf.ls22) fun x119_56 h82 => ?_
            refine vy (V.eq h82 rfl rfl) fun x120_57 h83 => ?_
            refine pu ?_
            exact la4 hS h83 ⟨rfl, rfl, rfl, rfl, trivial⟩
           ·
            clear h61 h62 h63 h64 h65 h66
            subst e
            refine sk ?_
            refine sk ?_
            refine sk ?_
            refine sk ?_
            refine sk ?_
            refine sk ?_
            refine pu ?_
            exact la4 hS h79 ⟨rfl, rfl, rfl, rfl, trivial⟩
          ·
           intro y2 y4 y6 y121 T33 n33 ρ its hS h67
           unfold g3_k8 at h67
           clear h61 h62 h63 h64 h65 h66
           refine mv ?_
           refine ls3 X 2 4 131 [] (g3_k9 pn pm q0 ro) 9 ?_ ?_
           ·
            rcases condK_inv h67 with ⟨e, h72⟩ | ⟨e, h72⟩
            ·
             clear h67
             subst e
             refine mv ?_
             refine mv ?_
             refine vy (V.ia h72 rfl rfl Arf.el24) fun x125_48 h73 => ?_
             refine vy (V.fa h73 rfl Arf.fo28_4) fun x126_49 h74 => ?_
             refine vy (V.ld hS h74 rfl Arf.one22) fun x127_50 h75 => ?_
             refine vy (V.ia h75 rfl rfl Arf.el22) fun x128_51 h76 => ?_
             refine vy (V.ld hS h76 rfl Arf.one3) fun x129_52 h77 => ?_
             refine vy (V.ne h77 rfl rfl) fun x130_53 h78 => ?_
             refine pu ?_
             exact la3 hS h78 ⟨rfl, rfl, rfl, trivial⟩
            ·
             clear h67
             subst e
             refine sk ?_
             refine sk ?_
             refine sk ?_
             refine sk ?_
             refine sk ?_
             refine sk ?_
             refine sk ?_
             refine sk ?_
             refine pu ?_
             exact la3 hS h72 ⟨rfl, rfl, rfl, trivial⟩
           ·
            intro y2 y4 y131 T34 n34 ρ its hS h68
            unfold g3_k9 at h68
            clear h67
            refine mv ?_
            refine ls2 X 2 136 [] (g3_k10 pn pm q0 ro) 4 ?_ ?_
            ·
             rcases condK_inv h68 with ⟨e, h70⟩ | ⟨e, h70⟩
             ·
              clear h68
              subst e
              refine mv ?_
              refine mv ?_
              refine LV.call hS h70 (g12_ok _ _ _ _ _ ) hP rfl rfl rfl rfl fun x135_47 T36 n36 h71 ρ its hS => ?_
              refine pu ?_
              exact la2 hS h71 ⟨rfl, rfl, trivial⟩
             ·
              clear h68
              subst e
              refine sk ?_
              refine sk ?_
              refine sk ?_
              refine pu ?_
              exact la2 hS h70 ⟨rfl, rfl, trivial⟩
            ·
             intro y2 y136 T35 n35 ρ its hS h69
             unfold g3_k10 at h69
             clear h68
             refine as_ ?_
             refine dn ?_
             refine CV.ret ?_
             cases h69
             exact PV.ret (by simp) Tryd.results3 hS (RS.tmp rfl RS.nil) rfl

end Go.Proofs.YtljaoofbklkglaaDoor.Ar
