/-
  Proved here: plain functions that do what the program's functions do, each with its proof.
-/
import Derived.Test.YtdepmlcnllofiaaGreatDoorRne
namespace Go.Proofs.YtdepmlcnllofiaaGreatDoor.Rn
open Go.EY Go.EX Go.SX Go.RowKit
noncomputable def g146_k3 (ro : List HT) (lp1 : AV → AV → AV → AV → AV → AV → AV → HT → Nat → R) (y0 y1 y2 y3 y4 y10 y11 y12 y13 y97 : AV) (T5 : HT) (n5 : Nat) : R :=
 condK 1460038 y97
 (
  .bad 1460039
 )
 (
  callK (g199 ro y0 y1 y2 y13 y4 T5 n5) fun x111_10 T6 n6 =>
  exK 1460047 x111_10 0 fun x112_11 =>
  exK 1460048 x111_10 1 fun x113_12 =>
  subK Tryz.prog 3 (.tmp 115) (.tmp 116) 1460055 x112_11 y1 fun x117_13 =>
  subK Tryz.prog 3 (.tmp 118) (.tmp 119) 1460058 y2 x112_11 fun x120_14 =>
  bin0 Tryz.prog .quo 3 (.tmp 121) (.const (.int .i64 (.ofNat 8))) 1460062 y12 (.lit (.int .i64 (.ofNat 8))) fun x122_15 =>
  ltK Tryz.prog 3 (.tmp 123) (.tmp 124) 1460066 x117_13 x120_14 fun x125_16 =>
  .bad 1460067
 )
noncomputable def g146_k2 (ro : List HT) (lp1 : AV → AV → AV → AV → AV → AV → AV → HT → Nat → R) (y0 y1 y2 y3 y4 y10 y11 y12 y13 : AV) (T4 : HT) (n4 : Nat) : R :=
 gtK Tryz.prog 3 (.tmp 81) (.const (.int .i64 (.ofNat 0))) 1460069 y1 (.lit (.int .i64 (.ofNat 0))) fun x82_17 =>
 condK 1460071 x82_17
 (
  subK Tryz.prog 3 (.tmp 86) (.const (.int .i64 (.ofNat 1))) 1460075 y1 (.lit (.int .i64 (.ofNat 1))) fun x87_18 =>
  iaK 1460076 y0 x87_18 2 fun x88_19 =>
  ldAK 1460077 T4 ro x88_19 2 fun x89_20 =>
  iaK 1460080 y0 y13 2 fun x92_21 =>
  ldAK 1460081 T4 ro x92_21 2 fun x93_22 =>
  dynK 1460082 y4 fun f p q => callK (scc3 4000 f ro (p ++ ([x89_20, x93_22] ++ q)) T4 n4) fun x94_23 T7 n7 =>
  ltK Tryz.prog 3 (.tmp 94) (.const (.int .i64 (.ofNat 0))) 1460083 x94_23 (.lit (.int .i64 (.ofNat 0))) fun x95_24 =>
  notK 1460084 x95_24 fun x96_25 =>
  g146_k3 ro lp1 y0 y1 y2 y3 y4 y10 y11 y12 y13 x96_25 T7 n7
 )
 (
  g146_k3 ro lp1 y0 y1 y2 y3 y4 y10 y11 y12 y13 (.lit (.bool false)) T4 n4
 )
noncomputable def g146_k5 (ro : List HT) (lp1 : AV → AV → AV → AV → AV → AV → AV → HT → Nat → R) (y0 y1 y2 y3 y4 y10 y11 y12 y13 y75 : AV) (T9 : HT) (n9 : Nat) : R :=
 condK 1460090 y75
 (
  callK (g197 ro y0 y1 y2 y4 T9 n9) fun x80_26 T10 n10 =>
  condK 1460096 x80_26
  (
   .ok (.val (.tup [])) T10 n10
  )
  (
   g146_k2 ro lp1 y0 y1 y2 y3 y4 y10 y11 y12 y13 T10 n10
  )
 )
 (
  g146_k2 ro lp1 y0 y1 y2 y3 y4 y10 y11 y12 y13 T9 n9
 )
noncomputable def g146_k4 (ro : List HT) (lp1 : AV → AV → AV → AV → AV → AV → AV → HT → Nat → R) (y0 y1 y2 y3 y4 y10 y11 y12 y13 y14 y71 : AV) (T8 : HT) (n8 : Nat) : R :=
 condK 1460097 y71
 (
  eqK Tryz.prog 202 (.tmp 73) (.const (.int .i64 (.ofNat 1))) 1460099 y14 (.lit (.int .i64 (.ofNat 1))) fun x74_27 =>
  g146_k5 ro lp1 y0 y1 y2 y3 y4 y10 y11 y12 y13 x74_27 T8 n8
 )
 (
  g146_k5 ro lp1 y0 y1 y2 y3 y4 y10 y11 y12 y13 (.lit (.bool false)) T8 n8
 )
noncomputable def g146_b1 (ro : List HT) (lp1 : AV → AV → AV → AV → AV → AV → AV → HT → Nat → R) (y0 y1 y2 y3 y4 y10 y11 : AV) (T1 : HT) (n1 : Nat) : R :=
 subK Tryz.prog 3 (.tmp 21) (.tmp 22) 1460006 y2 y1 fun x23_1 =>
 leK Tryz.prog 3 (.tmp 24) (.const (.int .i64 (.ofNat 12))) 1460009 x23_1 (.lit (.int .i64 (.ofNat 12))) fun x25_2 =>
 condK 1460010 x25_2
 (
  callK (g192 ro y0 y1 y2 y4 T1 n1) fun x30_3 T2 n2 =>
  .ok (.val (.tup [])) T2 n2
 )
 (
  eqK Tryz.prog 3 (.tmp 31) (.const (.int .i64 (.ofNat 0))) 1460017 y3 (.lit (.int .i64 (.ofNat 0))) fun x32_4 =>
  condK 1460018 x32_4
  (
   .bad 1460019
  )
  (
   notK 1460021 y10 fun x39_5 =>
   condK 1460022 x39_5
   (
    .bad 1460023
   )
   (
    callK (g195 ro y0 y1 y2 y4 T1 n1) fun x52_6 T3 n3 =>
    exK 1460030 x52_6 0 fun x53_7 =>
    exK 1460031 x52_6 1 fun x54_8 =>
    eqK Tryz.prog 202 (.tmp 55) (.const (.int .i64 (.ofNat 2))) 1460035 x54_8 (.lit (.int .i64 (.ofNat 2))) fun x56_9 =>
    condK 1460036 x56_9
    (
     .bad 1460037
    )
    (
     condK 1460102 y10
     (
      g146_k4 ro lp1 y0 y1 y2 y3 y4 (.lit (.bool true)) y11 x23_1 x53_7 x54_8 y11 T3 n3
     )
     (
      g146_k4 ro lp1 y0 y1 y2 y3 y4 (.lit (.bool false)) y11 x23_1 x53_7 x54_8 (.lit (.bool false)) T3 n3
     )
    )
   )
  )
 )
noncomputable def g146 (ro : List HT) (a0 a1 a2 a3 a4 : AV) (T : HT) (nx : Nat) : R :=
 lpf7 1460003 (g146_b1 ro) 100000 a0 a1 a2 a3 a4 (.lit (.bool true)) (.lit (.bool true)) T nx
theorem g146_ok (ro : List HT) (a0 a1 a2 a3 a4 : AV) (T : HT) (nx : Nat) : GOk Tryz.prog envE 146 [a0, a1, a2, a3, a4] ro T nx (g146 ro a0 a1 a2 a3 a4 T nx) := by
 refine GOk.of_body Tryz.func146 rfl Tryz.ntmps146 (by kernel_rfl) rfl fun r T' n' h1 w0 base ρ0 its hS hP => ?_
 have X : CtxW envE ρ0 ro r T' n' := trivial
 unfold g146 at h1
 refine sr ?_
 refine as_ ?_
 refine dn ?_
 refine sr ?_
 refine as_ ?_
 refine dn ?_
 refine CV.block ?_
 refine cl7 X 0 1 2 3 4 10 11 [] hS h1 ⟨rfl, rfl, rfl, rfl, rfl, rfl, rfl, trivial⟩ ?_
 intro f1 y0 y1 y2 y3 y4 y10 y11 T1 n1 ρ its hS h2
 unfold g146_b1 at h2
 clear h1
 refine CV.block ?_
 refine sr ?_
 refine mv ?_
 refine mv ?_
 refine vy (V.sub h2 rfl rfl) fun x23_1 h3 => ?_
 refine as_ ?_
 refine dn ?_
 refine CV.seq ?_
 refine sr ?_
 refine mv ?_
 refine vy (V.le h3 rfl rfl) fun x25_2 h4 => ?_
 refine dn ?_
 refine CV.cond h4 rfl (fun e h5 => ?_) (fun e h5 => ?_)
 ·
  clear h2 h3 h4
  subst e
  refine sr ?_
  refine mv ?_
  refine mv ?_
  refine mv ?_
  refine mv ?_
  refine LV.call hS h5 (g192_ok _ _ _ _ _ _ _ ) hP rfl rfl rfl rfl fun x30_3 T2 n2 h6 ρ its hS => ?_
  refine dn ?_
  refine CV.ret ?_
  refine PV.thenR ?_
  refine PV.blockR ?_
  refine PV.thenR ?_
  refine PV.blockR ?_
  cases h6
  exact PV.ret (by simp) Tryz.results146 hS RS.nil rfl
 ·
  clear h2 h3 h4
  subst e
  refine CV.skip ?_
  refine PV.thenN ?_
  refine CV.seq ?_
  refine sr ?_
  refine mv ?_
  refine vy (V.eq h5 rfl rfl) fun x32_4 h7 => ?_
  refine dn ?_
  refine CV.cond h7 rfl (fun e h8 => ?_) (fun e h8 => ?_)
  ·
   clear h5 h7
   subst e
   cases h8
  ·
   clear h5 h7
   subst e
   refine CV.skip ?_
   refine PV.thenN ?_
   refine CV.seq ?_
   refine sr ?_
   refine mv ?_
   refine vy (V.not h8 rfl) fun x39_5 h9 => ?_
   refine dn ?_
   refine CV.cond h9 rfl (fun e h10 => ?_) (fun e h10 => ?_)
   ·
    clear h8 h9
    subst e
    cases h10
   ·
    clear h8 h9
    subst e
    refine CV.skip ?_
    refine PV.thenN ?_
    refine sr ?_
    refine mv ?_
    refine mv ?_
    refine mv ?_
    refine mv ?_
    refine LV.call hS h10 (g195_ok _ _ _ _ _ _ _ ) hP rfl rfl rfl rfl fun x52_6 T3 n3 h11 ρ its hS => ?_
    refine mv ?_
    refine vy (V.ex h11 rfl) fun x53_7 h12 => ?_
    refine vy (V.ex h12 rfl) fun x54_8 h13 => ?_
    refine as_ ?_
    refine as_ ?_
    refine dn ?_
    refine CV.seq ?_
    refine sr ?_
    refine mv ?_
    refine vy (V.eq h13 rfl rfl) fun x56_9 h14 => ?_
    refine dn ?_
    refine CV.cond h14 rfl (fun e h15 => ?_) (fun e h15 => ?_)
    ·
     clear h10 h11 h12 h13 h14
     subst e
     cases h15
    ·
     clear h10 h11 h12 h13 h14
     subst e
     refine CV.skip ?_
     refine PV.thenN ?_
     refine cs9 X 0 1 2 3 4 10 11 12 13 [] (g146_k2 ro (lpf7 1460003 (g146_b1 ro) f1)) ?_ ?_
     ·
      refine sr ?_
      refine mv ?_
      refine mv ?_
      refine ls11 X 0 1 2 3 4 10 11 12 13 14 71 [] (g146_k4 ro (lpf7 1460003 (g146_b1 ro) f1)) 2 ?_ ?_
      ·
       rcases condK_inv h15 with ⟨e, h43⟩ | ⟨e, h43⟩
       ·
        clear h15
        subst e
        refine mv ?_
        refine pu ?_
        exact la11 hS h43 ⟨rfl, rfl, rfl, rfl, rfl, rfl, rfl, rfl, rfl, rfl, rfl, trivial⟩
       ·
        clear h15
        subst e
        refine sk ?_
        refine pu ?_
        exact la11 hS h43 ⟨rfl, rfl, rfl, rfl, rfl, rfl, rfl, rfl, rfl, rfl, rfl, trivial⟩
      ·
       intro y0 y1 y2 y3 y4 y10 y11 y12 y13 y14 y71 T8 n8 ρ its hS h36
       unfold g146_k4 at h36
       clear h15
       refine mv ?_
       refine ls10 X 0 1 2 3 4 10 11 12 13 75 [] (g146_k5 ro (lpf7 1460003 (g146_b1 ro) f1)) 3 ?_ ?_
       ·
        rcases condK_inv h36 with ⟨e, h41⟩ | ⟨e, h41⟩
        ·
         clear h36
         subst e
         refine mv ?_
         refine vy (V.eq h41 rfl rfl) fun x74_27 h42 => ?_
         refine pu ?_
         exact la10 hS h42 ⟨rfl, rfl, rfl, rfl, rfl, rfl, rfl, rfl, rfl, rfl, trivial⟩
        ·
         clear h36
         subst e
         refine sk ?_
         refine sk ?_
         refine pu ?_
         exact la10 hS h41 ⟨rfl, rfl, rfl, rfl, rfl, rfl, rfl, rfl, rfl, rfl, trivial⟩
       ·
        intro y0 y1 y2 y3 y4 y10 y11 y12 y13 y75 T9 n9 ρ its hS h37
        unfold g146_k5 at h37
        clear h36
        refine dn ?_
        refine CV.cond h37 rfl (fun e h38 => ?_) (fun e h38 => ?_)
        ·
         clear h37
         subst e
         refine sr ?_
         refine mv ?_
         refine mv ?_
         refine mv ?_
         refine mv ?_
         refine LV.call hS h38 (g197_ok _ _ _ _ _ _ _ ) hP rfl rfl rfl rfl fun x80_26 T10 n10 h39 ρ its hS => ?_
         refine dn ?_
         refine CV.cond h39 rfl (fun e h40 => ?_) (fun e h40 => ?_)
         ·
          clear h38 h39
          subst e
          refine CV.ret ?_
          refine PV.thenR ?_
          refine PV.blockR ?_
          refine PV.thenR ?_
          refine PV.blockR ?_
          cases h40
          exact PV.ret (by simp) Tryz.results146 hS RS.nil rfl
         ·
          clear h38 h39
          subst e
          refine CV.skip ?_
          exact pa9 hS h40 ⟨rfl, rfl, rfl, rfl, rfl, rfl, rfl, rfl, rfl, trivial⟩
        ·
         clear h37
         subst e
         refine CV.skip ?_
         exact pa9 hS h38 ⟨rfl, rfl, rfl, rfl, rfl, rfl, rfl, rfl, rfl, trivial⟩
     ·
      intro y0 y1 y2 y3 y4 y10 y11 y12 y13 T4 n4 ρ its hS h16
      unfold g146_k2 at h16
      clear h15
      refine CV.seq ?_
      refine cs10 X 0 1 2 3 4 10 11 12 13 97 [] (g146_k3 ro (lpf7 1460003 (g146_b1 ro) f1)) ?_ ?_
      ·
       refine CV.regionM [(0, .anywhere), (1, .anywhere), (2, .anywhere), (3, .anywhere), (4, .anywhere), (5, .anywhere), (6, .anywhere), (7, .anywhere), (8, .held), (9, .anywhere), (10, .anywhere), (11, .anywhere), (12, .held), (13, .alone), (14, .alone), (15, .alone), (16, .alone)] rfl (fun c a a' w hd hq => PanicOk.root (P := Tryz.prog) (fn := Tryz.f146) (w0 := w0) (base := base) (E := envE) (ro := ro) (r := r) (T' := T') (n' := n') (ρ0 := ρ0) c a a' w hd hq) (by kernel_rfl) ?_
       refine MV.step0 (i := 0) rfl (VAL.move rfl) rfl rfl rfl ?_
       refine MV.lift0 (i := 1) rfl (V.gt h16 rfl rfl) rfl rfl rfl fun x82_17 h26 => ?_
       refine MV.step0 (i := 2) rfl (VAL.move rfl) rfl rfl rfl ?_
       rcases condK_inv h26 with ⟨e, h27⟩ | ⟨e, h27⟩
       ·
        clear h16 h26
        subst e
        refine MV.step0 (i := 3) rfl (VAL.move rfl) rfl rfl rfl ?_
        refine MV.step0 (i := 4) rfl (VAL.move rfl) rfl rfl rfl ?_
        refine MV.step0 (i := 5) rfl (VAL.move rfl) rfl rfl rfl ?_
        refine MV.lift0 (i := 6) rfl (V.sub h27 rfl rfl) rfl rfl rfl fun x87_18 h28 => ?_
        refine MV.lift0 (i := 7) rfl (V.ia h28 rfl rfl Rnf.el150) rfl rfl rfl fun x88_19 h29 => ?_
        refine MV.lift1 (i := 8) rfl (fun _ z => z) (V.ldA hS h29 rfl Rnf.agg155) rfl rfl rfl [] (by kernel_rfl) fun x89_20 h30 => ?_
        refine MV.step0 (i := 9) rfl (VAL.move rfl) rfl rfl rfl ?_
        refine MV.step0 (i := 10) rfl (VAL.move rfl) rfl rfl rfl ?_
        refine MV.lift0 (i := 11) rfl (V.ia h30 rfl rfl Rnf.el150) rfl rfl rfl fun x92_21 h31 => ?_
        refine MV.lift1 (i := 12) rfl (fun _ z => z) (V.ldA hS h31 rfl Rnf.agg155) rfl rfl rfl [8] (by kernel_rfl) fun x93_22 h32 => ?_
        refine MV.force (i := 13) rfl ?_
        refine LV.callD (G := fun f gs => scc3 4000 f ro gs T4 n4) (qs := [x89_20, x93_22]) hS h32 (fun f gs => scc3_ok _ _ _ _ _ _) hP rfl rfl rfl rfl rfl rfl rfl fun x94_23 T7 n7 h33 ρ its hS => ?_
        refine LV.nextM [] (by kernel_rfl) (fun z => absurd rfl z) ?_
        refine MV.force (i := 14) rfl ?_
        refine vy (V.lt h33 rfl rfl) fun x95_24 h34 => ?_
        refine LV.nextM [] (by kernel_rfl) (fun z => absurd rfl z) ?_
        refine MV.force (i := 15) rfl ?_
        refine vy (V.not h34 rfl) fun x96_25 h35 => ?_
        refine LV.nextM [] (by kernel_rfl) (fun z => absurd rfl z) ?_
        refine MV.force (i := 16) rfl ?_
        refine pu ?_
        refine LV.nextM [] (by kernel_rfl) (fun z => absurd rfl z) ?_
        refine MV.done ?_
        exact pa10 hS h35 ⟨rfl, rfl, rfl, rfl, rfl, rfl, rfl, rfl, rfl, rfl, trivial⟩
       ·
        clear h16 h26
        subst e
        refine MV.skip0 (i := 3) rfl rfl rfl rfl ?_
        refine MV.skip0 (i := 4) rfl rfl rfl rfl ?_
        refine MV.skip0 (i := 5) rfl rfl rfl rfl ?_
        refine MV.skip0 (i := 6) rfl rfl rfl rfl ?_
        refine MV.skip0 (i := 7) rfl rfl rfl rfl ?_
        refine MV.skip1 (i := 8) rfl (fun _ z => z) rfl rfl rfl [] (by kernel_rfl) ?_
        refine MV.skip0 (i := 9) rfl rfl rfl rfl ?_
        refine MV.skip0 (i := 10) rfl rfl rfl rfl ?_
        refine MV.skip0 (i := 11) rfl rfl rfl rfl ?_
        refine MV.skip1 (i := 12) rfl (fun _ z => z) rfl rfl rfl [8] (by kernel_rfl) ?_
        refine MV.force (i := 13) rfl ?_
        refine sk ?_
        refine LV.nextM [] (by kernel_rfl) (fun z => absurd rfl z) ?_
        refine MV.force (i := 14) rfl ?_
        refine sk ?_
        refine LV.nextM [] (by kernel_rfl) (fun z => absurd rfl z) ?_
        refine MV.force (i := 15) rfl ?_
        refine sk ?_
        refine LV.nextM [] (by kernel_rfl) (fun z => absurd rfl z) ?_
        refine MV.force (i := 16) rfl ?_
        refine pu ?_
        refine LV.nextM [] (by kernel_rfl) (fun z => absurd rfl z) ?_
        refine MV.done ?_
        exact pa10 hS h27 ⟨rfl, rfl, rfl, rfl, rfl, rfl, rfl, rfl, rfl, rfl, trivial⟩
      ·
       intro y0 y1 y2 y3 y4 y10 y11 y12 y13 y97 T5 n5 ρ its hS h17
       unfold g146_k3 at h17
       clear h16
       refine CV.cond h17 rfl (fun e h18 => ?_) (fun e h18 => ?_)
       ·
        clear h17
        subst e
        cases h18
       ·
        clear h17
        subst e
        refine CV.skip ?_
        refine PV.thenN ?_
        refine sr ?_
        refine mv ?_
        refine mv ?_
        refine mv ?_
        refine mv ?_
        refine mv ?_
        refine LV.call hS h18 (g199_ok _ _ _ _ _ _ _ _ ) hP rfl rfl rfl rfl fun x111_10 T6 n6 h19 ρ its hS => ?_
        refine mv ?_
        refine vy (V.ex h19 rfl) fun x112_11 h20 => ?_
        refine vy (V.ex h20 rfl) fun x113_12 h21 => ?_
        refine as_ ?_
        refine as_ ?_
        refine dn ?_
        refine sr ?_
        refine mv ?_
        refine as_ ?_
        refine dn ?_
        refine sr ?_
        refine mv ?_
        refine mv ?_
        refine vy (V.sub h21 rfl rfl) fun x117_13 h22 => ?_
        refine mv ?_
        refine mv ?_
        refine vy (V.sub h22 rfl rfl) fun x120_14 h23 => ?_
        refine as_ ?_
        refine as_ ?_
        refine dn ?_
        refine sr ?_
        refine mv ?_
        refine vy (V.bin0 h23 rfl rfl) fun x122_15 h24 => ?_
        refine as_ ?_
        refine dn ?_
        refine sr ?_
        refine mv ?_
        refine mv ?_
        refine vy (V.lt h24 rfl rfl) fun x125_16 h25 => ?_
        refine dn ?_
        cases h25
noncomputable def g85 (ro : List HT) (a0 a1 : AV) (T : HT) (nx : Nat) : R :=
 lenSK 850002 a0 fun x6_1 =>
 optK 850007 (convV Tryz.prog 3 164 x6_1) fun x10_2 =>
 callK (g92 ro x10_2 T nx) fun x11_3 T1 n1 =>
 callK (g146 ro a0 (.lit (.int .i64 (.ofNat 0))) x6_1 x11_3 a1 T1 n1) fun x13_4 T2 n2 =>
 .ok (.val (.tup [])) T2 n2
theorem g85_ok (ro : List HT) (a0 a1 : AV) (T : HT) (nx : Nat) : GOk Tryz.prog envE 85 [a0, a1] ro T nx (g85 ro a0 a1 T nx) := by
 refine GOk.of_body Tryz.func85 rfl Tryz.ntmps85 (by kernel_rfl) rfl fun r T' n' h1 w0 base ρ0 its hS hP => ?_
 have X : CtxW envE ρ0 ro r T' n' := trivial
 unfold g85 at h1
 refine sr ?_
 refine mv ?_
 refine vy (V.lenS h1 rfl Rnf.ls150) fun x6_1 h2 => ?_
 refine as_ ?_
 refine dn ?_
 refine CV.region ?_
 refine mv ?_
 refine mv ?_
 refine mv ?_
 refine vy (V.conv h2 rfl) fun x10_2 h3 => ?_
 refine LV.call hS h3 (g92_ok _ _ _ _ ) hP rfl rfl rfl rfl fun x11_3 T1 n1 h4 ρ its hS => ?_
 refine mv ?_
 refine LV.call hS h4 (g146_ok _ _ _ _ _ _ _ _ ) hP rfl rfl rfl rfl fun x13_4 T2 n2 h5 ρ its hS => ?_
 refine LV.done ?_
 cases h5
 exact PV.ret (by simp) Tryz.results85 hS RS.nil rfl
noncomputable def g56_k2 (ro : List HT) (lp1 : AV → AV → AV → AV → AV → HT → Nat → R) (y4 y6 y14 y15 y16 : AV) (T5 : HT) (n5 : Nat) : R :=
 addK Tryz.prog 3 (.tmp 16) (.const (.int .i64 (.ofNat 1))) 560015 y16 (.lit (.int .i64 (.ofNat 1))) fun x30_8 =>
 lp1 y4 y6 y14 y15 x30_8 T5 n5
noncomputable def g56_b1 (ro : List HT) (lp1 : AV → AV → AV → AV → AV → HT → Nat → R) (y4 y6 y14 y15 y16 : AV) (T4 : HT) (n4 : Nat) : R :=
 ltK Tryz.prog 3 (.tmp 16) (.tmp 15) 560013 y16 y15 fun x17_7 =>
 condK 560014 x17_7
 (
  iaK 560017 y14 y16 2 fun x18_9 =>
  ldAK 560018 T4 ro x18_9 2 fun x19_10 =>
  newK T4 n4 (.obj [.lit (.int .i64 0), .lit (.string ⟨#[]⟩)] 155) fun x8_11 T6 n6 =>
  stAK 560020 T6 x8_11 x19_10 2 fun T7 =>
  faK 560022 x8_11 1 fun x21_12 =>
  ldK 560023 T7 ro x21_12 fun x22_13 =>
  callK (g87 ro y6 x22_13 T7 n6) fun x23_14 T8 n8 =>
  notK 560025 x23_14 fun x24_15 =>
  condK 560026 x24_15
  (
   faK 560028 x8_11 1 fun x26_16 =>
   ldK 560029 T8 ro x26_16 fun x27_17 =>
   bsK 560030 T8 n8 1 9 1 [(0, x27_17)] fun x28_18 T9 n9 =>
   shrK 560032 T9 y6 fun T10 =>
   appK 560031 T10 ro n9 9 1 16 y6 x28_18 fun x29_19 T11 n11 =>
   g56_k2 ro lp1 y4 x29_19 y14 y15 y16 T11 n11
  )
  (
   g56_k2 ro lp1 y4 y6 y14 y15 y16 T8 n8
  )
 )
 (
  .ok (.val y6) T4 n4
 )
noncomputable def g56 (ro : List HT) (a0 a1 : AV) (T : HT) (nx : Nat) : R :=
 newK T nx (.obj [.lit (.slice none 0 0)] 150) fun x5_1 T1 n1 =>
 callK (scc6 4000 84 ro [a0, a1, x5_1] T1 n1) fun x11_2 T2 n2 =>
 ldK 560006 T2 ro x5_1 fun x12_3 =>
 callK (g85 ro x12_3 (.lit (.func (.func 86) #[] #[])) T2 n2) fun x13_4 T3 n3 =>
 ldK 560009 T3 ro x5_1 fun x14_5 =>
 lenSK 560010 x14_5 fun x15_6 =>
 lpf5 560012 (g56_b1 ro) 100000 (.lit (.slice none 0 0)) (.lit (.slice none 0 0)) x14_5 x15_6 (.lit (.int .i64 (.ofNat 0))) T3 n3
theorem g56_ok (ro : List HT) (a0 a1 : AV) (T : HT) (nx : Nat) : GOk Tryz.prog envE 56 [a0, a1] ro T nx (g56 ro a0 a1 T nx) := by
 refine GOk.of_body Tryz.func56 rfl Tryz.ntmps56 (by kernel_rfl) rfl fun r T' n' h1 w0 base ρ0 its hS hP => ?_
 have X : CtxW envE ρ0 ro r T' n' := trivial
 unfold g56 at h1
 refine sr ?_
 refine as_ ?_
 refine dn ?_
 refine sr ?_
 refine LV.alloc hS h1 rfl Rnf.zr150 rfl rfl rfl fun x5_1 T1 n1 h2 ρ its hS hdr => ?_
 refine dn ?_
 refine sr ?_
 refine mv ?_
 refine mv ?_
 refine LV.call hS h2 (scc6_ok _ _ _ _ _ _) hP rfl rfl rfl rfl fun x11_2 T2 n2 h3 ρ its hS => ?_
 refine dn ?_
 refine sr ?_
 refine vy (V.ld hS h3 rfl Rnf.one150) fun x12_3 h4 => ?_
 refine LV.call hS h4 (g85_ok _ _ _ _ _ ) hP rfl rfl rfl rfl fun x13_4 T3 n3 h5 ρ its hS => ?_
 refine dn ?_
 refine sr ?_
 refine as_ ?_
 refine dn ?_
 refine CV.seq ?_
 refine sr ?_
 refine vy (V.ld hS h5 rfl Rnf.one150) fun x14_5 h6 => ?_
 refine vy (V.lenS h6 rfl Rnf.ls150) fun x15_6 h7 => ?_
 refine mv ?_
 refine dn ?_
 refine CV.block ?_
 refine cl5 X 4 6 14 15 16 [] hS h7 ⟨rfl, rfl, rfl, rfl, rfl, trivial⟩ ?_
 intro f1 y4 y6 y14 y15 y16 T4 n4 ρ its hS h8
 unfold g56_b1 at h8
 clear h1 h2 h3 h4 h5 h6 h7
 refine sr ?_
 refine vy (V.lt h8 rfl rfl) fun x17_7 h9 => ?_
 refine dn ?_
 refine CV.seq ?_
 refine CV.cond h9 rfl (fun e h10 => ?_) (fun e h10 => ?_)
 ·
  clear h8 h9
  subst e
  refine CV.skip ?_
  refine PV.thenN ?_
  refine cs5 X 4 6 14 15 16 [] (g56_k2 ro (lpf5 560012 (g56_b1 ro) f1)) ?_ ?_
  ·
   refine CV.block ?_
   refine sr ?_
   refine vy (V.ia h10 rfl rfl Rnf.el150) fun x18_9 h13 => ?_
   refine vy (V.ldA hS h13 rfl Rnf.agg155) fun x19_10 h14 => ?_
   refine LV.alloc hS h14 rfl Rnf.zr155 rfl rfl rfl fun x8_11 T6 n6 h15 ρ its hS hdr => ?_
   refine LV.stA hS h15 rfl rfl rfl Rnf.agg155 rfl rfl rfl fun T7 its h16 hS => ?_
   refine dn ?_
   refine sr ?_
   refine mv ?_
   refine vy (V.fa h16 rfl Rnf.fo155_1) fun x21_12 h17 => ?_
   refine vy (V.ld hS h17 rfl Rnf.one9) fun x22_13 h18 => ?_
   refine LV.call hS h18 (g87_ok _ _ _ _ _ ) hP rfl rfl rfl rfl fun x23_14 T8 n8 h19 ρ its hS => ?_
   refine vy (V.not h19 rfl) fun x24_15 h20 => ?_
   refine dn ?_
   refine CV.cond h20 rfl (fun e h21 => ?_) (fun e h21 => ?_)
   ·
    clear h10 h13 h14 h15 h16 h17 h18 h19 h20
    subst e
    refine CV.region ?_
    refine mv ?_
    refine vy (V.fa h21 rfl Rnf.fo155_1) fun x26_16 h22 => ?_
    refine vy (V.ld hS h22 rfl Rnf.one9) fun x27_17 h23 => ?_
    refine LV.bslice hS h23 rfl rfl Rnf.el46 rfl rfl rfl rfl fun x28_18 T9 n9 h24 ρ its hS hdr => ?_
    obtain ⟨T10, its1, h25, hS, hW⟩ := shrK_inv hS h24
    refine LV.world hW ?_
    refine LV.app hS h25 rfl rfl rfl rfl Rnf.el46 rfl rfl rfl fun x29_19 T11 n11 h26 ρ its hS => ?_
    refine as_ ?_
    refine LV.done ?_
    refine PV.blockN ?_
    exact pa5 hS h26 ⟨rfl, rfl, rfl, rfl, rfl, trivial⟩
   ·
    clear h10 h13 h14 h15 h16 h17 h18 h19 h20
    subst e
    refine CV.skip ?_
    refine PV.blockN ?_
    exact pa5 hS h21 ⟨rfl, rfl, rfl, rfl, rfl, trivial⟩
  ·
   intro y4 y6 y14 y15 y16 T5 n5 ρ its hS h11
   unfold g56_k2 at h11
   clear h10
   refine CV.region ?_
   refine vy (V.add h11 rfl rfl) fun x30_8 h12 => ?_
   refine mv ?_
   refine LV.done ?_
   exact pb5 hS h12 ⟨rfl, rfl, rfl, rfl, rfl, trivial⟩
 ·
  clear h8 h9
  subst e
  refine CV.exit ?_
  refine PV.thenE ?_
  refine PV.thenE ?_
  refine PV.blockE ?_
  refine PV.thenN ?_
  refine sr ?_
  refine mv ?_
  refine as_ ?_
  refine dn ?_
  refine CV.ret ?_
  cases h10
  exact PV.ret (by simp) Tryz.results56 hS (RS.tmp rfl RS.nil) rfl
noncomputable def g57 (ro : List HT) (a0 : AV) (T : HT) (nx : Nat) : R :=
 slEqK Tryz.prog .eql false 46 (.tmp 3) (.const (.slice none 0 0)) 570003 a0 fun x4_1 =>
 condK 570004 x4_1
 (
  .ok (.val (.lit (.slice none 0 0))) T nx
 )
 (
  bs0K T nx 9 1 fun x5_2 T1 n1 =>
  shrK 570009 T1 x5_2 fun T2 =>
  appK 570008 T2 ro n1 9 1 16 x5_2 a0 fun x7_3 T3 n3 =>
  .ok (.val x7_3) T3 n3
 )
theorem g57_ok (ro : List HT) (a0 : AV) (T : HT) (nx : Nat) : GOk Tryz.prog envE 57 [a0] ro T nx (g57 ro a0 T nx) := by
 refine GOk.of_body Tryz.func57 rfl Tryz.ntmps57 (by kernel_rfl) rfl fun r T' n' h1 w0 base ρ0 its hS hP => ?_
 have X : CtxW envE ρ0 ro r T' n' := trivial
 unfold g57 at h1
 refine sr ?_
 refine as_ ?_
 refine dn ?_
 refine CV.seq ?_
 refine sr ?_
 refine mv ?_
 refine vy (V.slEq h1 rfl Rnf.slt46) fun x4_1 h2 => ?_
 refine dn ?_
 refine CV.cond h2 rfl (fun e h3 => ?_) (fun e h3 => ?_)
 ·
  clear h1 h2
  subst e
  refine sr ?_
  refine as_ ?_
  refine dn ?_
  refine CV.ret ?_
  refine PV.thenR ?_
  cases h3
  exact PV.ret (by simp) Tryz.results57 hS (RS.tmp rfl RS.nil) rfl
 ·
  clear h1 h2
  subst e
  refine CV.skip ?_
  refine PV.thenN ?_
  refine sr ?_
  refine LV.bs0 hS h3 rfl Rnf.el46 rfl rfl rfl fun x5_2 T1 n1 h4 ρ its hS hdr => ?_
  refine mv ?_
  obtain ⟨T2, its1, h5, hS, hW⟩ := shrK_inv hS h4
  refine LV.world hW ?_
  refine LV.app hS h5 rfl rfl rfl rfl Rnf.el46 rfl rfl rfl fun x7_3 T3 n3 h6 ρ its hS => ?_
  refine as_ ?_
  refine dn ?_
  refine CV.ret ?_
  cases h6
  exact PV.ret (by simp) Tryz.results57 hS (RS.tmp rfl RS.nil) rfl
noncomputable def g148_b1 (ro : List HT) (lp1 : AV → AV → AV → HT → Nat → R) (y0 y1 y4 : AV) (T1 : HT) (n1 : Nat) : R :=
 bin0 Tryz.prog .neq 158 (.tmp 6) (.const (.pointer none)) 1480004 y0 (.lit (.pointer none)) fun x7_1 =>
 condK 1480005 x7_1
 (
  fldK 1480007 T1 ro y0 1 fun x15_2 =>
  callK (g147 ro x15_2 y1 T1 n1) fun x17_3 T2 n2 =>
  geK Tryz.prog 3 (.tmp 18) (.const (.int .i64 (.ofNat 0))) 1480012 x17_3 (.lit (.int .i64 (.ofNat 0))) fun x19_4 =>
  condK 1480013 x19_4
  (
   fldK 1480015 T2 ro y0 2 fun x23_5 =>
   addK Tryz.prog 3 (.tmp 23) (.tmp 24) 1480017 x23_5 x17_3 fun x25_6 =>
   .ok (.val x25_6) T2 n2
  )
  (
   fldK 1480020 T2 ro y0 0 fun x11_7 =>
   lp1 x11_7 y1 y4 T2 n2
  )
 )
 (
  .ok (.val (.lit (.int .i64 (.negSucc 0)))) T1 n1
 )
noncomputable def g148 (ro : List HT) (a0 a1 : AV) (T : HT) (nx : Nat) : R :=
 lpf3 1480002 (g148_b1 ro) 100000 a0 a1 (.lit (.int .i64 (.ofNat 0))) T nx
theorem g148_ok (ro : List HT) (a0 a1 : AV) (T : HT) (nx : Nat) : GOk Tryz.prog envE 148 [a0, a1] ro T nx (g148 ro a0 a1 T nx) := by
 refine GOk.of_body Tryz.func148 rfl Tryz.ntmps148 (by kernel_rfl) rfl fun r T' n' h1 w0 base ρ0 its hS hP => ?_
 have X : CtxW envE ρ0 ro r T' n' := trivial
 unfold g148 at h1
 refine sr ?_
 refine as_ ?_
 refine dn ?_
 refine CV.seq ?_
 refine CV.block ?_
 refine cl3 X 0 1 4 [] hS h1 ⟨rfl, rfl, rfl, trivial⟩ ?_
 intro f1 y0 y1 y4 T1 n1 ρ its hS h2
 unfold g148_b1 at h2
 clear h1
 refine CV.seq ?_
 refine sr ?_
 refine mv ?_
 refine vy (V.bin0 h2 rfl rfl) fun x7_1 h3 => ?_
 refine dn ?_
 refine CV.cond h3 rfl (fun e h4 => ?_) (fun e h4 => ?_)
 ·
  clear h2 h3
  subst e
  refine CV.skip ?_
  refine PV.thenN ?_
  refine CV.seq ?_
  refine CV.block ?_
  refine sr ?_
  refine mv ?_
  refine fl hS h4 Rnf.fo197_1 Rnf.one46 fun x15_2 h5 => ?_
  refine mv ?_
  refine LV.call hS h5 (g147_ok _ _ _ _ _ ) hP rfl rfl rfl rfl fun x17_3 T2 n2 h6 ρ its hS => ?_
  refine as_ ?_
  refine dn ?_
  refine sr ?_
  refine mv ?_
  refine vy (V.ge h6 rfl rfl) fun x19_4 h7 => ?_
  refine dn ?_
  refine CV.cond h7 rfl (fun e h8 => ?_) (fun e h8 => ?_)
  ·
   clear h4 h5 h6 h7
   subst e
   refine sr ?_
   refine mv ?_
   refine fl hS h8 Rnf.fo197_2 Rnf.one3 fun x23_5 h9 => ?_
   refine mv ?_
   refine vy (V.add h9 rfl rfl) fun x25_6 h10 => ?_
   refine as_ ?_
   refine dn ?_
   refine CV.ret ?_
   refine PV.blockR ?_
   refine PV.thenR ?_
   refine PV.thenR ?_
   refine PV.blockR ?_
   refine PV.thenR ?_
   cases h10
   exact PV.ret (by simp) Tryz.results148 hS (RS.tmp rfl RS.nil) rfl
  ·
   clear h4 h5 h6 h7
   subst e
   refine CV.skip ?_
   refine PV.blockN ?_
   refine PV.thenN ?_
   refine CV.region ?_
   refine mv ?_
   refine fl hS h8 Rnf.fo197_0 Rnf.one158 fun x11_7 h11 => ?_
   refine as_ ?_
   refine LV.done ?_
   exact pb3 hS h11 ⟨rfl, rfl, rfl, trivial⟩
 ·
  clear h2 h3
  subst e
  refine CV.exit ?_
  refine PV.thenE ?_
  refine PV.thenE ?_
  refine PV.blockE ?_
  refine PV.thenN ?_
  refine sr ?_
  refine as_ ?_
  refine dn ?_
  refine CV.ret ?_
  cases h4
  exact PV.ret (by simp) Tryz.results148 hS (RS.tmp rfl RS.nil) rfl
noncomputable def g88_k1 (ro : List HT) (y0 y1 y80 : AV) (T16 : HT) (n16 : Nat) : R :=
 condK 880061 y80
 (
  faK 880064 y0 5 fun x84_26 =>
  stK 880065 T16 x84_26 y1 fun T17 =>
  .ok (.val (.tup [])) T17 n16
 )
 (
  .ok (.val (.tup [])) T16 n16
 )
noncomputable def g88 (ro : List HT) (a0 a1 a2 a3 : AV) (T : HT) (nx : Nat) : R :=
 callK (g148 ro a3 a2 T nx) fun x13_1 T1 n1 =>
 geK Tryz.prog 3 (.tmp 14) (.const (.int .i64 (.ofNat 0))) 880006 x13_1 (.lit (.int .i64 (.ofNat 0))) fun x15_2 =>
 condK 880007 x15_2
 (
  fldK 880010 T1 ro a0 3 fun x20_3 =>
  optK 880013 (bld58 [(0, a1), (1, (.lit (.int .i64 (.ofNat 1)))), (2, x13_1)]) fun x23_4 =>
  bsK 880014 T1 n1 1 58 3 [(0, x23_4)] fun x24_5 T2 n2 =>
  shrK 880016 T2 x20_3 fun T3 =>
  appK 880015 T3 ro n2 58 3 24 x20_3 x24_5 fun x25_6 T4 n4 =>
  faK 880017 a0 3 fun x27_7 =>
  stK 880018 T4 x27_7 x25_6 fun T5 =>
  .ok (.val (.tup [])) T5 n4
 )
 (
  fldK 880020 T1 ro a0 1 fun x31_8 =>
  callK (g147 ro x31_8 a2 T1 n1) fun x33_9 T6 n6 =>
  geK Tryz.prog 3 (.tmp 34) (.const (.int .i64 (.ofNat 0))) 880025 x33_9 (.lit (.int .i64 (.ofNat 0))) fun x35_10 =>
  condK 880026 x35_10
  (
   fldK 880029 T6 ro a0 3 fun x40_11 =>
   optK 880032 (bld58 [(0, a1), (1, (.lit (.int .i64 (.ofNat 2)))), (2, x33_9)]) fun x43_12 =>
   bsK 880033 T6 n6 1 58 3 [(0, x43_12)] fun x44_13 T7 n7 =>
   shrK 880035 T7 x40_11 fun T8 =>
   appK 880034 T8 ro n7 58 3 24 x40_11 x44_13 fun x45_14 T9 n9 =>
   faK 880036 a0 3 fun x47_15 =>
   stK 880037 T9 x47_15 x45_14 fun T10 =>
   .ok (.val (.tup [])) T10 n9
  )
  (
   fldK 880039 T6 ro a0 2 fun x51_16 =>
   callK (g147 ro x51_16 a2 T6 n6) fun x53_17 T11 n11 =>
   geK Tryz.prog 3 (.tmp 54) (.const (.int .i64 (.ofNat 0))) 880044 x53_17 (.lit (.int .i64 (.ofNat 0))) fun x55_18 =>
   condK 880045 x55_18
   (
    fldK 880048 T11 ro a0 3 fun x60_19 =>
    optK 880051 (bld58 [(0, a1), (1, (.lit (.int .i64 (.ofNat 3)))), (2, x53_17)]) fun x63_20 =>
    bsK 880052 T11 n11 1 58 3 [(0, x63_20)] fun x64_21 T12 n12 =>
    shrK 880054 T12 x60_19 fun T13 =>
    appK 880053 T13 ro n12 58 3 24 x60_19 x64_21 fun x65_22 T14 n14 =>
    faK 880055 a0 3 fun x67_23 =>
    stK 880056 T14 x67_23 x65_22 fun T15 =>
    .ok (.val (.tup [])) T15 n14
   )
   (
    fldK 880058 T11 ro a0 5 fun x71_24 =>
    ltK Tryz.prog 3 (.tmp 71) (.const (.int .i64 (.ofNat 0))) 880059 x71_24 (.lit (.int .i64 (.ofNat 0))) fun x72_25 =>
    condK 880066 x72_25
    (
     g88_k1 ro a0 a1 (.lit (.bool true)) T11 n11
    )
    (
     ncK 880070 a0 fun x76_27 =>
     faK 880071 x76_27 5 fun x77_28 =>
     ldK 880072 T11 ro x77_28 fun x78_29 =>
     ltK Tryz.prog 3 (.tmp 74) (.tmp 78) 880073 a1 x78_29 fun x79_30 =>
     g88_k1 ro a0 a1 x79_30 T11 n11
    )
   )
  )
 )
theorem g88_ok (ro : List HT) (a0 a1 a2 a3 : AV) (T : HT) (nx : Nat) : GOk Tryz.prog envE 88 [a0, a1, a2, a3] ro T nx (g88 ro a0 a1 a2 a3 T nx) := by
 refine GOk.of_body Tryz.func88 rfl Tryz.ntmps88 (by kernel_rfl) rfl fun r T' n' h1 w0 base ρ0 its hS hP => ?_
 have X : CtxW envE ρ0 ro r T' n' := trivial
 unfold g88 at h1
 refine CV.seq ?_
 refine sr ?_
 refine mv ?_
 refine mv ?_
 refine LV.call hS h1 (g148_ok _ _ _ _ _ ) hP rfl rfl rfl rfl fun x13_1 T1 n1 h2 ρ its hS => ?_
 refine as_ ?_
 refine dn ?_
 refine sr ?_
 refine mv ?_
 refine vy (V.ge h2 rfl rfl) fun x15_2 h3 => ?_
 refine dn ?_
 refine CV.cond h3 rfl (fun e h4 => ?_) (fun e h4 => ?_)
 ·
  clear h1 h2 h3
  subst e
  refine sr ?_
  refine mv ?_
  refine mv ?_
  refine fl hS h4 Rnf.fo114_3 Rnf.one50 fun x20_3 h5 => ?_
  refine mv ?_
  refine mv ?_
  refine vy (V.bld h5 rfl) fun x23_4 h6 => ?_
  refine LV.bslice hS h6 rfl rfl Rnf.el50 rfl rfl rfl rfl fun x24_5 T2 n2 h7 ρ its hS hdr => ?_
  obtain ⟨T3, its1, h8, hS, hW⟩ := shrK_inv hS h7
  refine LV.world hW ?_
  refine LV.app hS h8 rfl rfl rfl rfl Rnf.el50 rfl rfl rfl fun x25_6 T4 n4 h9 ρ its hS => ?_
  refine fa2 h9 Rnf.fo114_3 fun x27_7 h10 => ?_
  refine LV.st hS h10 rfl rfl rfl Rnf.siz50 rfl rfl fun T5 its h11 hS => ?_
  refine dn ?_
  refine CV.ret ?_
  refine PV.thenR ?_
  cases h11
  exact PV.ret (by simp) Tryz.results88 hS RS.nil rfl
 ·
  clear h1 h2 h3
  subst e
  refine CV.skip ?_
  refine PV.thenN ?_
  refine CV.seq ?_
  refine sr ?_
  refine mv ?_
  refine fl hS h4 Rnf.fo114_1 Rnf.one46 fun x31_8 h12 => ?_
  refine mv ?_
  refine LV.call hS h12 (g147_ok _ _ _ _ _ ) hP rfl rfl rfl rfl fun x33_9 T6 n6 h13 ρ its hS => ?_
  refine as_ ?_
  refine dn ?_
  refine sr ?_
  refine mv ?_
  refine vy (V.ge h13 rfl rfl) fun x35_10 h14 => ?_
  refine dn ?_
  refine CV.cond h14 rfl (fun e h15 => ?_) (fun e h15 => ?_)
  ·
   clear h4 h12 h13 h14
   subst e
   refine sr ?_
   refine mv ?_
   refine mv ?_
   refine fl hS h15 Rnf.fo114_3 Rnf.one50 fun x40_11 h16 => ?_
   refine mv ?_
   refine mv ?_
   refine vy (V.bld h16 rfl) fun x43_12 h17 => ?_
   refine LV.bslice hS h17 rfl rfl Rnf.el50 rfl rfl rfl rfl fun x44_13 T7 n7 h18 ρ its hS hdr => ?_
   obtain ⟨T8, its1, h19, hS, hW⟩ := shrK_inv hS h18
   refine LV.world hW ?_
   refine LV.app hS h19 rfl rfl rfl rfl Rnf.el50 rfl rfl rfl fun x45_14 T9 n9 h20 ρ its hS => ?_
   refine fa2 h20 Rnf.fo114_3 fun x47_15 h21 => ?_
   refine LV.st hS h21 rfl rfl rfl Rnf.siz50 rfl rfl fun T10 its h22 hS => ?_
   refine dn ?_
   refine CV.ret ?_
   refine PV.thenR ?_
   cases h22
   exact PV.ret (by simp) Tryz.results88 hS RS.nil rfl
  ·
   clear h4 h12 h13 h14
   subst e
   refine CV.skip ?_
   refine PV.thenN ?_
   refine CV.seq ?_
   refine sr ?_
   refine mv ?_
   refine fl hS h15 Rnf.fo114_2 Rnf.one46 fun x51_16 h23 => ?_
   refine mv ?_
   refine LV.call hS h23 (g147_ok _ _ _ _ _ ) hP rfl rfl rfl rfl fun x53_17 T11 n11 h24 ρ its hS => ?_
   refine as_ ?_
   refine dn ?_
   refine sr ?_
   refine mv ?_
   refine vy (V.ge h24 rfl rfl) fun x55_18 h25 => ?_
   refine dn ?_
   refine CV.cond h25 rfl (fun e h26 => ?_) (fun e h26 => ?_)
   ·
    clear h15 h23 h24 h25
    subst e
    refine sr ?_
    refine mv ?_
    refine mv ?_
    refine fl hS h26 Rnf.fo114_3 Rnf.one50 fun x60_19 h27 => ?_
    refine mv ?_
    refine mv ?_
    refine vy (V.bld h27 rfl) fun x63_20 h28 => ?_
    refine LV.bslice hS h28 rfl rfl Rnf.el50 rfl rfl rfl rfl fun x64_21 T12 n12 h29 ρ its hS hdr => ?_
    obtain ⟨T13, its1, h30, hS, hW⟩ := shrK_inv hS h29
    refine LV.world hW ?_
    refine LV.app hS h30 rfl rfl rfl rfl Rnf.el50 rfl rfl rfl fun x65_22 T14 n14 h31 ρ its hS => ?_
    refine fa2 h31 Rnf.fo114_3 fun x67_23 h32 => ?_
    refine LV.st hS h32 rfl rfl rfl Rnf.siz50 rfl rfl fun T15 its h33 hS => ?_
    refine dn ?_
    refine CV.ret ?_
    refine PV.thenR ?_
    cases h33
    exact PV.ret (by simp) Tryz.results88 hS RS.nil rfl
   ·
    clear h15 h23 h24 h25
    subst e
    refine CV.skip ?_
    refine PV.thenN ?_
    refine sr ?_
    refine mv ?_
    refine fl hS h26 Rnf.fo114_5 Rnf.one3 fun x71_24 h34 => ?_
    refine vy (V.lt h34 rfl rfl) fun x72_25 h35 => ?_
    refine mv ?_
    refine ls3 X 0 1 80 [] (g88_k1 ro) 7 ?_ ?_
    ·
     rcases condK_inv h35 with ⟨e, h40⟩ | ⟨e, h40⟩
     ·
      clear h26 h34 h35
      subst e
      refine sk ?_
      refine sk ?_
      refine sk ?_
      refine sk ?_
      refine sk ?_
      refine sk ?_
      refine pu ?_
      exact la3 hS h40 ⟨rfl, rfl, rfl, trivial⟩
     ·
      clear h26 h34 h35
      subst e
      refine mv ?_
      refine mv ?_
      refine vy (V.nc h40 rfl) fun x76_27 h41 => ?_
      refine vy (V.fa h41 rfl Rnf.fo114_5) fun x77_28 h42 => ?_
      refine vy (V.ld hS h42 rfl Rnf.one3) fun x78_29 h43 => ?_
      refine vy (V.lt h43 rfl rfl) fun x79_30 h44 => ?_
      refine pu ?_
      exact la3 hS h44 ⟨rfl, rfl, rfl, trivial⟩
    ·
     intro y0 y1 y80 T16 n16 ρ its hS h36
     unfold g88_k1 at h36
     clear h26 h34 h35
     refine dn ?_
     refine CV.cond h36 rfl (fun e h37 => ?_) (fun e h37 => ?_)
     ·
      clear h36
      subst e
      refine CV.region ?_
      refine mv ?_
      refine mv ?_
      refine fa2 h37 Rnf.fo114_5 fun x84_26 h38 => ?_
      refine LV.st hS h38 rfl rfl rfl Rnf.siz3 rfl rfl fun T17 its h39 hS => ?_
      refine LV.done ?_
      cases h39
      exact PV.ret (by simp) Tryz.results88 hS RS.nil rfl
     ·
      clear h36
      subst e
      refine CV.skip ?_
      cases h37
      exact PV.ret (by simp) Tryz.results88 hS RS.nil rfl
noncomputable def g151_b1 (ro : List HT) (lp1 : AV → AV → AV → AV → AV → HT → Nat → R) (y0 y1 y4 y7 y8 : AV) (T1 : HT) (n1 : Nat) : R :=
 ltK Tryz.prog 3 (.tmp 8) (.tmp 7) 1510006 y8 y7 fun x9_2 =>
 condK 1510007 x9_2
 (
  iaK 1510013 y0 y8 4 fun x14_3 =>
  ldAK 1510014 T1 ro x14_3 4 fun x15_4 =>
  dynK 1510015 y1 fun f p q => callK (scc3 4000 f ro (p ++ ([x15_4] ++ q)) T1 n1) fun x16_5 T2 n2 =>
  condK 1510016 x16_5
  (
   .ok (.val y8) T2 n2
  )
  (
   addK Tryz.prog 3 (.tmp 8) (.const (.int .i64 (.ofNat 1))) 1510019 y8 (.lit (.int .i64 (.ofNat 1))) fun x18_6 =>
   lp1 y0 y1 y4 y7 x18_6 T2 n2
  )
 )
 (
  .ok (.val (.lit (.int .i64 (.negSucc 0)))) T1 n1
 )
noncomputable def g151 (ro : List HT) (a0 a1 : AV) (T : HT) (nx : Nat) : R :=
 lenSK 1510003 a0 fun x7_1 =>
 lpf5 1510005 (g151_b1 ro) 100000 a0 a1 (.lit (.int .i64 (.ofNat 0))) x7_1 (.lit (.int .i64 (.ofNat 0))) T nx
theorem g151_ok (ro : List HT) (a0 a1 : AV) (T : HT) (nx : Nat) : GOk Tryz.prog envE 151 [a0, a1] ro T nx (g151 ro a0 a1 T nx) := by
 refine GOk.of_body Tryz.func151 rfl Tryz.ntmps151 (by kernel_rfl) rfl fun r T' n' h1 w0 base ρ0 its hS hP => ?_
 have X : CtxW envE ρ0 ro r T' n' := trivial
 unfold g151 at h1
 refine sr ?_
 refine as_ ?_
 refine dn ?_
 refine CV.seq ?_
 refine sr ?_
 refine mv ?_
 refine vy (V.lenS h1 rfl Rnf.ls51) fun x7_1 h2 => ?_
 refine mv ?_
 refine dn ?_
 refine CV.block ?_
 refine cl5 X 0 1 4 7 8 [] hS h2 ⟨rfl, rfl, rfl, rfl, rfl, trivial⟩ ?_
 intro f1 y0 y1 y4 y7 y8 T1 n1 ρ its hS h3
 unfold g151_b1 at h3
 clear h1 h2
 refine sr ?_
 refine vy (V.lt h3 rfl rfl) fun x9_2 h4 => ?_
 refine dn ?_
 refine CV.seq ?_
 refine CV.cond h4 rfl (fun e h5 => ?_) (fun e h5 => ?_)
 ·
  clear h3 h4
  subst e
  refine CV.skip ?_
  refine PV.thenN ?_
  refine CV.seq ?_
  refine CV.block ?_
  refine sr ?_
  refine mv ?_
  refine as_ ?_
  refine dn ?_
  refine sr ?_
  refine mv ?_
  refine mv ?_
  refine mv ?_
  refine vy (V.ia h5 rfl rfl Rnf.el51) fun x14_3 h6 => ?_
  refine vy (V.ldA hS h6 rfl Rnf.agg56) fun x15_4 h7 => ?_
  refine LV.callD (G := fun f gs => scc3 4000 f ro gs T1 n1) (qs := [x15_4]) hS h7 (fun f gs => scc3_ok _ _ _ _ _ _) hP rfl rfl rfl rfl rfl rfl rfl fun x16_5 T2 n2 h8 ρ its hS => ?_
  refine dn ?_
  refine CV.cond h8 rfl (fun e h9 => ?_) (fun e h9 => ?_)
  ·
   clear h5 h6 h7 h8
   subst e
   refine sr ?_
   refine mv ?_
   refine as_ ?_
   refine dn ?_
   refine CV.ret ?_
   refine PV.blockR ?_
   refine PV.thenR ?_
   refine PV.thenR ?_
   refine PV.blockR ?_
   refine PV.thenR ?_
   cases h9
   exact PV.ret (by simp) Tryz.results151 hS (RS.tmp rfl RS.nil) rfl
  ·
   clear h5 h6 h7 h8
   subst e
   refine CV.skip ?_
   refine PV.blockN ?_
   refine PV.thenN ?_
   refine CV.region ?_
   refine vy (V.add h9 rfl rfl) fun x18_6 h10 => ?_
   refine mv ?_
   refine LV.done ?_
   exact pb5 hS h10 ⟨rfl, rfl, rfl, rfl, rfl, trivial⟩
 ·
  clear h3 h4
  subst e
  refine CV.exit ?_
  refine PV.thenE ?_
  refine PV.thenE ?_
  refine PV.blockE ?_
  refine PV.thenN ?_
  refine sr ?_
  refine as_ ?_
  refine dn ?_
  refine CV.ret ?_
  cases h5
  exact PV.ret (by simp) Tryz.results151 hS (RS.tmp rfl RS.nil) rfl
noncomputable def g58_b1 (ih : FuncId → List HT → List AV → HT → Nat → R) (ro : List HT) (lp1 : AV → AV → AV → AV → AV → HT → Nat → R) (y0 y2 y19 y20 y21 : AV) (T5 : HT) (n5 : Nat) : R :=
 ltK Tryz.prog 3 (.tmp 21) (.tmp 20) 580039 y21 y20 fun x22_19 =>
 condK 580040 x22_19
 (
  iaK 580041 y19 y21 1 fun x23_20 =>
  ldK 580042 T5 ro x23_20 fun x24_21 =>
  callK (ih 58 ro [y0, x24_21, y2] T5 n5) fun x28_22 T6 n6 =>
  addK Tryz.prog 3 (.tmp 21) (.const (.int .i64 (.ofNat 1))) 580048 y21 (.lit (.int .i64 (.ofNat 1))) fun x29_23 =>
  lp1 y0 y2 y19 y20 x29_23 T6 n6
 )
 (
  .ok (.val (.tup [])) T5 n5
 )
noncomputable def g58 (ih : FuncId → List HT → List AV → HT → Nat → R) (ro : List HT) (a0 a1 a2 : AV) (T : HT) (nx : Nat) : R :=
 fldK 580002 T ro a0 0 fun x12_1 =>
 iaK 580004 x12_1 a1 5 fun x14_2 =>
 ldAK 580005 T ro x14_2 5 fun x15_3 =>
 newK T nx (.obj [.lit (.int .i64 0), .lit (.int .i64 0), .lit (.int .i64 0), .lit (.string ⟨#[]⟩), .lit (.slice none 0 0)] 32) fun x6_4 T1 n1 =>
 stAK 580007 T1 x6_4 x15_3 5 fun T2 =>
 faK 580008 x6_4 0 fun x16_5 =>
 ldK 580009 T2 ro x16_5 fun x17_6 =>
 eqK Tryz.prog 3 (.tmp 17) (.const (.int .i64 (.ofNat 6))) 580010 x17_6 (.lit (.int .i64 (.ofNat 6))) fun x31_7 =>
 condK 580012 x31_7
 (
  faK 580015 x6_4 3 fun x34_8 =>
  ldK 580016 T2 ro x34_8 fun x35_9 =>
  callK (g88 ro a0 a1 x35_9 a2 T2 n1) fun x37_10 T3 n3 =>
  .ok (.val (.tup [])) T3 n3
 )
 (
  eqK Tryz.prog 3 (.tmp 17) (.const (.int .i64 (.ofNat 34))) 580019 x17_6 (.lit (.int .i64 (.ofNat 34))) fun x39_11 =>
  condK 580021 x39_11
  (
   .bad 580022
  )
  (
   eqK Tryz.prog 3 (.tmp 17) (.const (.int .i64 (.ofNat 45))) 580023 x17_6 (.lit (.int .i64 (.ofNat 45))) fun x45_12 =>
   condK 580025 x45_12
   (
    ldAK 580028 T2 ro x6_4 5 fun x48_13 =>
    callK (ih 90 ro [a0, a1, x48_13, a2] T2 n1) fun x50_14 T4 n4 =>
    .ok (.val (.tup [])) T4 n4
   )
   (
    eqK Tryz.prog 3 (.tmp 17) (.const (.int .i64 (.ofNat 42))) 580031 x17_6 (.lit (.int .i64 (.ofNat 42))) fun x52_15 =>
    condK 580033 x52_15
    (
     .ok (.val (.tup [])) T2 n1
    )
    (
     faK 580034 x6_4 4 fun x18_16 =>
     ldK 580035 T2 ro x18_16 fun x19_17 =>
     lenSK 580036 x19_17 fun x20_18 =>
     lpf5 580038 (g58_b1 ih ro) 100000 a0 a2 x19_17 x20_18 (.lit (.int .i64 (.ofNat 0))) T2 n1
    )
   )
  )
 )
theorem g58_ok (ih : FuncId → List HT → List AV → HT → Nat → R) (hI : ∀ f ro args T nx, GOk Tryz.prog envE f args ro T nx (ih f ro args T nx)) (ro : List HT) (a0 a1 a2 : AV) (T : HT) (nx : Nat) : GOk Tryz.prog envE 58 [a0, a1, a2] ro T nx (g58 ih ro a0 a1 a2 T nx) := by
 refine GOk.of_body Tryz.func58 rfl Tryz.ntmps58 (by kernel_rfl) rfl fun r T' n' h1 w0 base ρ0 its hS hP => ?_
 have X : CtxW envE ρ0 ro r T' n' := trivial
 unfold g58 at h1
 refine sr ?_
 refine mv ?_
 refine fl hS h1 Rnf.fo114_0 Rnf.one23 fun x12_1 h2 => ?_
 refine mv ?_
 refine vy (V.ia h2 rfl rfl Rnf.el23) fun x14_2 h3 => ?_
 refine vy (V.ldA hS h3 rfl Rnf.agg32) fun x15_3 h4 => ?_
 refine LV.alloc hS h4 rfl Rnf.zr32 rfl rfl rfl fun x6_4 T1 n1 h5 ρ its hS hdr => ?_
 refine LV.stA hS h5 rfl rfl rfl Rnf.agg32 rfl rfl rfl fun T2 its h6 hS => ?_
 refine dn ?_
 refine sr ?_
 refine vy (V.fa h6 rfl Rnf.fo32_0) fun x16_5 h7 => ?_
 refine vy (V.ld hS h7 rfl Rnf.one3) fun x17_6 h8 => ?_
 refine dn ?_
 refine CV.block ?_
 refine sr ?_
 refine vy (V.eq h8 rfl rfl) fun x31_7 h9 => ?_
 refine as_ ?_
 refine dn ?_
 refine CV.cond h9 rfl (fun e h10 => ?_) (fun e h10 => ?_)
 ·
  clear h1 h2 h3 h4 h5 h6 h7 h8 h9
  subst e
  refine CV.region ?_
  refine mv ?_
  refine mv ?_
  refine vy (V.fa h10 rfl Rnf.fo32_3) fun x34_8 h11 => ?_
  refine vy (V.ld hS h11 rfl Rnf.one9) fun x35_9 h12 => ?_
  refine mv ?_
  refine LV.call hS h12 (g88_ok _ _ _ _ _ _ _ ) hP rfl rfl rfl rfl fun x37_10 T3 n3 h13 ρ its hS => ?_
  refine LV.done ?_
  refine PV.blockN ?_
  cases h13
  exact PV.ret (by simp) Tryz.results58 hS RS.nil rfl
 ·
  clear h1 h2 h3 h4 h5 h6 h7 h8 h9
  subst e
  refine sr ?_
  refine vy (V.eq h10 rfl rfl) fun x39_11 h14 => ?_
  refine as_ ?_
  refine dn ?_
  refine CV.cond h14 rfl (fun e h15 => ?_) (fun e h15 => ?_)
  ·
   clear h10 h14
   subst e
   cases h15
  ·
   clear h10 h14
   subst e
   refine sr ?_
   refine vy (V.eq h15 rfl rfl) fun x45_12 h16 => ?_
   refine as_ ?_
   refine dn ?_
   refine CV.cond h16 rfl (fun e h17 => ?_) (fun e h17 => ?_)
   ·
    clear h15 h16
    subst e
    refine CV.region ?_
    refine mv ?_
    refine mv ?_
    refine vy (V.ldA hS h17 rfl Rnf.agg32) fun x48_13 h18 => ?_
    refine mv ?_
    refine LV.call hS h18 (hI _ _ _ _ _) hP rfl rfl rfl rfl fun x50_14 T4 n4 h19 ρ its hS => ?_
    refine LV.done ?_
    refine PV.blockN ?_
    cases h19
    exact PV.ret (by simp) Tryz.results58 hS RS.nil rfl
   ·
    clear h15 h16
    subst e
    refine sr ?_
    refine vy (V.eq h17 rfl rfl) fun x52_15 h20 => ?_
    refine as_ ?_
    refine dn ?_
    refine CV.cond h20 rfl (fun e h21 => ?_) (fun e h21 => ?_)
    ·
     clear h17 h20
     subst e
     refine CV.skip ?_
     refine PV.blockN ?_
     cases h21
     exact PV.ret (by simp) Tryz.results58 hS RS.nil rfl
    ·
     clear h17 h20
     subst e
     refine sr ?_
     refine vy (V.fa h21 rfl Rnf.fo32_4) fun x18_16 h22 => ?_
     refine vy (V.ld hS h22 rfl Rnf.one30) fun x19_17 h23 => ?_
     refine vy (V.lenS h23 rfl Rnf.ls30) fun x20_18 h24 => ?_
     refine mv ?_
     refine dn ?_
     refine CV.block ?_
     refine cl5 X 0 2 19 20 21 [] hS h24 ⟨rfl, rfl, rfl, rfl, rfl, trivial⟩ ?_
     intro f1 y0 y2 y19 y20 y21 T5 n5 ρ its hS h25
     unfold g58_b1 at h25
     clear h21 h22 h23 h24
     refine sr ?_
     refine vy (V.lt h25 rfl rfl) fun x22_19 h26 => ?_
     refine dn ?_
     refine CV.seq ?_
     refine CV.cond h26 rfl (fun e h27 => ?_) (fun e h27 => ?_)
     ·
      clear h25 h26
      subst e
      refine CV.skip ?_
      refine PV.thenN ?_
      refine CV.seq ?_
      refine CV.block ?_
      refine sr ?_
      refine vy (V.ia h27 rfl rfl Rnf.el30) fun x23_20 h28 => ?_
      refine vy (V.ld hS h28 rfl Rnf.one3) fun x24_21 h29 => ?_
      refine as_ ?_
      refine dn ?_
      refine CV.region ?_
      refine mv ?_
      refine mv ?_
      refine mv ?_
      refine LV.call hS h29 (hI _ _ _ _ _) hP rfl rfl rfl rfl fun x28_22 T6 n6 h30 ρ its hS => ?_
      refine LV.done ?_
      refine PV.blockN ?_
      refine PV.thenN ?_
      refine CV.region ?_
      refine vy (V.add h30 rfl rfl) fun x29_23 h31 => ?_
      refine mv ?_
      refine LV.done ?_
      exact pb5 hS h31 ⟨rfl, rfl, rfl, rfl, rfl, trivial⟩
     ·
      clear h25 h26
      subst e
      refine CV.exit ?_
      refine PV.thenE ?_
      refine PV.thenE ?_
      refine PV.blockE ?_
      refine PV.blockN ?_
      cases h27
      exact PV.ret (by simp) Tryz.results58 hS RS.nil rfl
noncomputable def g90_b3 (ih : FuncId → List HT → List AV → HT → Nat → R) (ro : List HT) (lp3 : AV → AV → AV → AV → AV → AV → AV → AV → HT → Nat → R) (y0 y6 y8 y11 y12 y84 y85 y86 : AV) (T14 : HT) (n14 : Nat) : R :=
 ltK Tryz.prog 3 (.tmp 86) (.tmp 85) 900082 y86 y85 fun x87_49 =>
 condK 900083 x87_49
 (
  iaK 900084 y84 y86 1 fun x88_50 =>
  ldK 900085 T14 ro x88_50 fun x89_51 =>
  fldK 900088 T14 ro y12 1 fun x93_52 =>
  callK (g87 ro x93_52 x89_51 T14 n14) fun x95_53 T15 n15 =>
  notK 900091 x95_53 fun x96_54 =>
  condK 900092 x96_54
  (
   .bad 900093
  )
  (
   addK Tryz.prog 3 (.tmp 86) (.const (.int .i64 (.ofNat 1))) 900094 y86 (.lit (.int .i64 (.ofNat 1))) fun x107_55 =>
   lp3 y0 y6 y8 y11 y12 y84 y85 x107_55 T15 n15
  )
 )
 (
  ncK 900097 y0 fun x109_56 =>
  faK 900098 x109_56 4 fun x110_57 =>
  ldK 900099 T14 ro x110_57 fun x111_58 =>
  ncK 900101 y0 fun x113_59 =>
  faK 900102 x113_59 6 fun x114_60 =>
  ldK 900103 T14 ro x114_60 fun x115_61 =>
  iaK 900104 x111_58 x115_61 4 fun x116_62 =>
  ncK 900109 y12 fun x120_63 =>
  faK 900110 x120_63 1 fun x121_64 =>
  ldQK 900111 T14 ro [y12] x121_64 fun x122_65 =>
  ncK 900113 y12 fun x125_66 =>
  faK 900114 x125_66 1 fun x126_67 =>
  ldQK 900115 T14 ro [y12] x126_67 fun x127_68 =>
  lenSK 900116 x127_68 fun x128_69 =>
  callK (g57 ro x122_65 T14 n14) fun x123_70 T16 n16 =>
  keepK 900118 T14 T16 [y12] <|
  ncK 900119 x116_62 fun x129_71 =>
  faK 900120 x129_71 3 fun x130_72 =>
  stK 900121 T16 x130_72 x123_70 fun T17 =>
  keepK 900122 T14 T17 [y12] <|
  ncK 900123 x116_62 fun x131_73 =>
  faK 900124 x131_73 2 fun x132_74 =>
  stK 900125 T17 x132_74 x128_69 fun T18 =>
  faK 900127 y6 4 fun x134_75 =>
  ldK 900128 T18 ro x134_75 fun x135_76 =>
  iaK 900130 x135_76 y8 1 fun x137_77 =>
  ldK 900131 T18 ro x137_77 fun x138_78 =>
  callK (ih 58 ro [y0, x138_78, y12] T18 n16) fun x140_79 T19 n19 =>
  faK 900136 y0 6 fun x144_80 =>
  stK 900137 T19 x144_80 y11 fun T20 =>
  .ok (.val (.tup [])) T20 n19
 )
noncomputable def g90_b2 (ih : FuncId → List HT → List AV → HT → Nat → R) (ro : List HT) (lp2 : AV → AV → AV → AV → AV → AV → AV → AV → HT → Nat → R) (y0 y6 y8 y11 y12 y54 y55 y56 : AV) (T8 : HT) (n8 : Nat) : R :=
 ltK Tryz.prog 3 (.tmp 56) (.tmp 55) 900046 y56 y55 fun x57_26 =>
 condK 900047 x57_26
 (
  iaK 900048 y54 y56 1 fun x58_27 =>
  ldK 900049 T8 ro x58_27 fun x59_28 =>
  ncK 900053 y12 fun x62_29 =>
  faK 900054 x62_29 1 fun x63_30 =>
  ldK 900055 T8 ro x63_30 fun x64_31 =>
  ncK 900057 y0 fun x66_32 =>
  faK 900058 x66_32 0 fun x67_33 =>
  ldK 900059 T8 ro x67_33 fun x68_34 =>
  iaK 900061 x68_34 x59_28 5 fun x70_35 =>
  faK 900062 x70_35 3 fun x71_36 =>
  ldK 900063 T8 ro x71_36 fun x72_37 =>
  bsK 900064 T8 n8 1 9 1 [(0, x72_37)] fun x73_38 T9 n9 =>
  shrK 900066 T9 x64_31 fun T10 =>
  appK 900065 T10 ro n9 9 1 16 x64_31 x73_38 fun x74_39 T11 n11 =>
  ncK 900067 y12 fun x75_40 =>
  faK 900068 x75_40 1 fun x76_41 =>
  stK 900069 T11 x76_41 x74_39 fun T12 =>
  addK Tryz.prog 3 (.tmp 56) (.const (.int .i64 (.ofNat 1))) 900070 y56 (.lit (.int .i64 (.ofNat 1))) fun x77_42 =>
  lp2 y0 y6 y8 y11 y12 y54 y55 x77_42 T12 n11
 )
 (
  faK 900073 y6 4 fun x79_43 =>
  ldK 900074 T8 ro x79_43 fun x80_44 =>
  iaK 900076 x80_44 y8 1 fun x82_45 =>
  ldK 900077 T8 ro x82_45 fun x83_46 =>
  callK (g56 ro y0 x83_46 T8 n8) fun x84_47 T13 n13 =>
  lenSK 900079 x84_47 fun x85_48 =>
  lpf8 900081 (g90_b3 ih ro) 100000 y0 y6 y8 y11 y12 x84_47 x85_48 (.lit (.int .i64 (.ofNat 0))) T13 n13
 )
noncomputable def g90_b1 (ih : FuncId → List HT → List AV → HT → Nat → R) (ro : List HT) (lp1 : AV → AV → AV → AV → AV → AV → AV → AV → HT → Nat → R) (y0 y3 y5 y6 y8 y25 y26 y27 : AV) (T3 : HT) (n3 : Nat) : R :=
 ltK Tryz.prog 3 (.tmp 27) (.tmp 26) 900015 y27 y26 fun x28_11 =>
 condK 900016 x28_11
 (
  iaK 900017 y25 y27 1 fun x29_12 =>
  ldK 900018 T3 ro x29_12 fun x30_13 =>
  callK (ih 58 ro [y0, x30_13, y3] T3 n3) fun x34_14 T4 n4 =>
  addK Tryz.prog 3 (.tmp 27) (.const (.int .i64 (.ofNat 1))) 900024 y27 (.lit (.int .i64 (.ofNat 1))) fun x35_15 =>
  lp1 y0 y3 y5 y6 y8 y25 y26 x35_15 T4 n4
 )
 (
  fldK 900027 T3 ro y0 6 fun x39_16 =>
  fldK 900031 T3 ro y0 4 fun x44_17 =>
  callK (g151 ro x44_17 (.fn (.func 152) [] [y5]) T3 n3) fun x46_18 T5 n5 =>
  faK 900034 y0 6 fun x48_19 =>
  stK 900035 T5 x48_19 x46_18 fun T6 =>
  optK 900036 (bld197 []) fun x49_20 =>
  boxK 900037 T6 n5 x49_20 197 fun x50_21 T7 n7 =>
  faK 900039 y6 4 fun x51_22 =>
  ldK 900040 T7 ro x51_22 fun x52_23 =>
  cutHiK 900042 T7 ro x52_23 y8 fun x54_24 =>
  lenSK 900043 x54_24 fun x55_25 =>
  lpf8 900045 (g90_b2 ih ro) 100000 y0 y6 y8 x39_16 x50_21 x54_24 x55_25 (.lit (.int .i64 (.ofNat 0))) T7 n7
 )
noncomputable def g90 (ih : FuncId → List HT → List AV → HT → Nat → R) (ro : List HT) (a0 a1 a2 a3 : AV) (T : HT) (nx : Nat) : R :=
 boxK 900001 T nx a1 3 fun x5_1 T1 n1 =>
 boxK 900002 T1 n1 a2 32 fun x6_2 T2 n2 =>
 faK 900003 x6_2 4 fun x18_3 =>
 ldK 900004 T2 ro x18_3 fun x19_4 =>
 lenSK 900005 x19_4 fun x20_5 =>
 subK Tryz.prog 3 (.tmp 20) (.const (.int .i64 (.ofNat 1))) 900006 x20_5 (.lit (.int .i64 (.ofNat 1))) fun x21_6 =>
 faK 900008 x6_2 4 fun x22_7 =>
 ldK 900009 T2 ro x22_7 fun x23_8 =>
 cutHiK 900011 T2 ro x23_8 x21_6 fun x25_9 =>
 lenSK 900012 x25_9 fun x26_10 =>
 lpf8 900014 (g90_b1 ih ro) 100000 a0 a3 x5_1 x6_2 x21_6 x25_9 x26_10 (.lit (.int .i64 (.ofNat 0))) T2 n2
theorem g90_ok (ih : FuncId → List HT → List AV → HT → Nat → R) (hI : ∀ f ro args T nx, GOk Tryz.prog envE f args ro T nx (ih f ro args T nx)) (ro : List HT) (a0 a1 a2 a3 : AV) (T : HT) (nx : Nat) : GOk Tryz.prog envE 90 [a0, a1, a2, a3] ro T nx (g90 ih ro a0 a1 a2 a3 T nx) := by
 refine GOk.of_body Tryz.func90 rfl Tryz.ntmps90 (by kernel_rfl) rfl fun r T' n' h1 w0 base ρ0 its hS hP => ?_
 have X : CtxW envE ρ0 ro r T' n' := trivial
 unfold g90 at h1
 refine sr ?_
 refine LV.box hS h1 rfl rfl rfl rfl rfl fun x5_1 T1 n1 h2 ρ its hS hdr => ?_
 refine LV.box hS h2 rfl rfl rfl rfl rfl fun x6_2 T2 n2 h3 ρ its hS hdr => ?_
 refine dn ?_
 refine sr ?_
 refine vy (V.fa h3 rfl Rnf.fo32_4) fun x18_3 h4 => ?_
 refine vy (V.ld hS h4 rfl Rnf.one30) fun x19_4 h5 => ?_
 refine vy (V.lenS h5 rfl Rnf.ls30) fun x20_5 h6 => ?_
 refine vy (V.sub h6 rfl rfl) fun x21_6 h7 => ?_
 refine as_ ?_
 refine dn ?_
 refine CV.seq ?_
 refine sr ?_
 refine vy (V.fa h7 rfl Rnf.fo32_4) fun x22_7 h8 => ?_
 refine vy (V.ld hS h8 rfl Rnf.one30) fun x23_8 h9 => ?_
 refine mv ?_
 refine vy (V.cutHi hS h9 rfl rfl Rnf.el30) fun x25_9 h10 => ?_
 refine vy (V.lenS h10 rfl Rnf.ls30) fun x26_10 h11 => ?_
 refine mv ?_
 refine dn ?_
 refine CV.block ?_
 refine cl8 X 0 3 5 6 8 25 26 27 [] hS h11 ⟨rfl, rfl, rfl, rfl, rfl, rfl, rfl, rfl, trivial⟩ ?_
 intro f1 y0 y3 y5 y6 y8 y25 y26 y27 T3 n3 ρ its hS h12
 unfold g90_b1 at h12
 clear h1 h2 h3 h4 h5 h6 h7 h8 h9 h10 h11
 refine sr ?_
 refine vy (V.lt h12 rfl rfl) fun x28_11 h13 => ?_
 refine dn ?_
 refine CV.seq ?_
 refine CV.cond h13 rfl (fun e h14 => ?_) (fun e h14 => ?_)
 ·
  clear h12 h13
  subst e
  refine CV.skip ?_
  refine PV.thenN ?_
  refine CV.seq ?_
  refine CV.block ?_
  refine sr ?_
  refine vy (V.ia h14 rfl rfl Rnf.el30) fun x29_12 h15 => ?_
  refine vy (V.ld hS h15 rfl Rnf.one3) fun x30_13 h16 => ?_
  refine as_ ?_
  refine dn ?_
  refine CV.region ?_
  refine mv ?_
  refine mv ?_
  refine mv ?_
  refine LV.call hS h16 (hI _ _ _ _ _) hP rfl rfl rfl rfl fun x34_14 T4 n4 h17 ρ its hS => ?_
  refine LV.done ?_
  refine PV.blockN ?_
  refine PV.thenN ?_
  refine CV.region ?_
  refine vy (V.add h17 rfl rfl) fun x35_15 h18 => ?_
  refine mv ?_
  refine LV.done ?_
  exact pb8 hS h18 ⟨rfl, rfl, rfl, rfl, rfl, rfl, rfl, rfl, trivial⟩
 ·
  clear h12 h13
  subst e
  refine CV.exit ?_
  refine PV.thenE ?_
  refine PV.thenE ?_
  refine PV.blockE ?_
  refine PV.thenN ?_
  refine sr ?_
  refine mv ?_
  refine fl hS h14 Rnf.fo114_6 Rnf.one3 fun x39_16 h19 => ?_
  refine as_ ?_
  refine dn ?_
  refine sr ?_
  refine mv ?_
  refine mv ?_
  refine fl hS h19 Rnf.fo114_4 Rnf.one51 fun x44_17 h20 => ?_
  refine pu ?_
  refine LV.call hS h20 (g151_ok _ _ _ _ _ ) hP rfl rfl rfl rfl fun x46_18 T5 n5 h21 ρ its hS => ?_
  refine fa2 h21 Rnf.fo114_6 fun x48_19 h22 => ?_
  refine LV.st hS h22 rfl rfl rfl Rnf.siz3 rfl rfl fun T6 its h23 hS => ?_
  refine dn ?_
  refine sr ?_
  refine vy (V.bld h23 rfl) fun x49_20 h24 => ?_
  refine LV.box hS h24 rfl rfl rfl rfl rfl fun x50_21 T7 n7 h25 ρ its hS hdr => ?_
  refine as_ ?_
  refine dn ?_
  refine CV.seq ?_
  refine sr ?_
  refine vy (V.fa h25 rfl Rnf.fo32_4) fun x51_22 h26 => ?_
  refine vy (V.ld hS h26 rfl Rnf.one30) fun x52_23 h27 => ?_
  refine mv ?_
  refine vy (V.cutHi hS h27 rfl rfl Rnf.el30) fun x54_24 h28 => ?_
  refine vy (V.lenS h28 rfl Rnf.ls30) fun x55_25 h29 => ?_
  refine mv ?_
  refine dn ?_
  refine CV.block ?_
  refine cl8 X 0 6 8 11 12 54 55 56 [] hS h29 ⟨rfl, rfl, rfl, rfl, rfl, rfl, rfl, rfl, trivial⟩ ?_
  intro f2 y0 y6 y8 y11 y12 y54 y55 y56 T8 n8 ρ its hS h30
  unfold g90_b2 at h30
  clear h14 h19 h20 h21 h22 h23 h24 h25 h26 h27 h28 h29
  refine sr ?_
  refine vy (V.lt h30 rfl rfl) fun x57_26 h31 => ?_
  refine dn ?_
  refine CV.seq ?_
  refine CV.cond h31 rfl (fun e h32 => ?_) (fun e h32 => ?_)
  ·
   clear h30 h31
   subst e
   refine CV.skip ?_
   refine PV.thenN ?_
   refine CV.seq ?_
   refine CV.block ?_
   refine sr ?_
   refine vy (V.ia h32 rfl rfl Rnf.el30) fun x58_27 h33 => ?_
   refine vy (V.ld hS h33 rfl Rnf.one3) fun x59_28 h34 => ?_
   refine as_ ?_
   refine dn ?_
   refine CV.regionM [(0, .anywhere), (1, .anywhere), (2, .anywhere), (3, .anywhere), (4, .held), (5, .anywhere), (6, .anywhere), (7, .anywhere), (8, .held), (9, .anywhere), (10, .held), (11, .held), (12, .held), (13, .alone), (14, .alone), (15, .alone), (16, .alone), (17, .alone)] rfl (fun c a a' w hd hq => PanicOk.root (P := Tryz.prog) (fn := Tryz.f90) (w0 := w0) (base := base) (E := envE) (ro := ro) (r := r) (T' := T') (n' := n') (ρ0 := ρ0) c a a' w hd hq) (by kernel_rfl) ?_
   refine MV.step0 (i := 0) rfl (VAL.move rfl) rfl rfl rfl ?_
   refine MV.step0 (i := 1) rfl (VAL.move rfl) rfl rfl rfl ?_
   refine MV.lift0 (i := 2) rfl (V.nc h34 rfl) rfl rfl rfl fun x62_29 h35 => ?_
   refine MV.lift0 (i := 3) rfl (V.fa h35 rfl Rnf.fo197_1) rfl rfl rfl fun x63_30 h36 => ?_
   refine MV.lift1 (i := 4) rfl (fun _ z => z) (V.ld hS h36 rfl Rnf.one46) rfl rfl rfl [] (by kernel_rfl) fun x64_31 h37 => ?_
   refine MV.step0 (i := 5) rfl (VAL.move rfl) rfl rfl rfl ?_
   refine MV.lift0 (i := 6) rfl (V.nc h37 rfl) rfl rfl rfl fun x66_32 h38 => ?_
   refine MV.lift0 (i := 7) rfl (V.fa h38 rfl Rnf.fo114_0) rfl rfl rfl fun x67_33 h39 => ?_
   refine MV.lift1 (i := 8) rfl (fun _ z => z) (V.ld hS h39 rfl Rnf.one23) rfl rfl rfl [4] (by kernel_rfl) fun x68_34 h40 => ?_
   refine MV.step0 (i := 9) rfl (VAL.move rfl) rfl rfl rfl ?_
   refine MV.lift1 (i := 10) rfl (fun _ z => z) (V.ia h40 rfl rfl Rnf.el23) rfl rfl rfl [4] (by kernel_rfl) fun x70_35 h41 => ?_
   refine MV.lift1 (i := 11) rfl (fun _ z => z) (V.fa h41 rfl Rnf.fo32_3) rfl rfl rfl [4] (by kernel_rfl) fun x71_36 h42 => ?_
   refine MV.lift1 (i := 12) rfl (fun _ z => z) (V.ld hS h42 rfl Rnf.one9) rfl rfl rfl [4] (by kernel_rfl) fun x72_37 h43 => ?_
   refine MV.force (i := 13) rfl ?_
   refine LV.bslice hS h43 rfl rfl Rnf.el46 rfl rfl rfl rfl fun x73_38 T9 n9 h44 ρ its hS hdr => ?_
   refine LV.nextM [4] (by kernel_rfl) (fun _ => hdr) ?_
   refine MV.force (i := 14) rfl ?_
   obtain ⟨T10, its1, h45, hS, hW⟩ := shrK_inv hS h44
   refine LV.world hW ?_
   refine LV.app hS h45 rfl rfl rfl rfl Rnf.el46 rfl rfl rfl fun x74_39 T11 n11 h46 ρ its hS => ?_
   refine LV.nextM [] (by kernel_rfl) (fun z => absurd rfl z) ?_
   refine MV.force (i := 15) rfl ?_
   refine vy (V.nc h46 rfl) fun x75_40 h47 => ?_
   refine LV.nextM [] (by kernel_rfl) (fun z => absurd rfl z) ?_
   refine MV.force (i := 16) rfl ?_
   refine vy (V.fa h47 rfl Rnf.fo197_1) fun x76_41 h48 => ?_
   refine LV.nextM [] (by kernel_rfl) (fun z => absurd rfl z) ?_
   refine MV.force (i := 17) rfl ?_
   refine LV.st hS h48 rfl rfl rfl Rnf.siz46 rfl rfl fun T12 its h49 hS => ?_
   refine LV.nextM [] (by kernel_rfl) (fun z => absurd rfl z) ?_
   refine MV.done ?_
   refine PV.blockN ?_
   refine PV.thenN ?_
   refine CV.region ?_
   refine vy (V.add h49 rfl rfl) fun x77_42 h50 => ?_
   refine mv ?_
   refine LV.done ?_
   exact pb8 hS h50 ⟨rfl, rfl, rfl, rfl, rfl, rfl, rfl, rfl, trivial⟩
  ·
   clear h30 h31
   subst e
   refine CV.exit ?_
   refine PV.thenE ?_
   refine PV.thenE ?_
   refine PV.blockE ?_
   refine PV.thenN ?_
   refine CV.seq ?_
   refine sr ?_
   refine mv ?_
   refine vy (V.fa h32 rfl Rnf.fo32_4) fun x79_43 h51 => ?_
   refine vy (V.ld hS h51 rfl Rnf.one30) fun x80_44 h52 => ?_
   refine mv ?_
   refine vy (V.ia h52 rfl rfl Rnf.el30) fun x82_45 h53 => ?_
   refine vy (V.ld hS h53 rfl Rnf.one3) fun x83_46 h54 => ?_
   refine LV.call hS h54 (g56_ok _ _ _ _ _ ) hP rfl rfl rfl rfl fun x84_47 T13 n13 h55 ρ its hS => ?_
   refine vy (V.lenS h55 rfl Rnf.ls46) fun x85_48 h56 => ?_
   refine mv ?_
   refine dn ?_
   refine CV.block ?_
   refine cl8 X 0 6 8 11 12 84 85 86 [] hS h56 ⟨rfl, rfl, rfl, rfl, rfl, rfl, rfl, rfl, trivial⟩ ?_
   intro f3 y0 y6 y8 y11 y12 y84 y85 y86 T14 n14 ρ its hS h57
   unfold g90_b3 at h57
   clear h32 h51 h52 h53 h54 h55 h56
   refine sr ?_
   refine vy (V.lt h57 rfl rfl) fun x87_49 h58 => ?_
   refine dn ?_
   refine CV.seq ?_
   refine CV.cond h58 rfl (fun e h59 => ?_) (fun e h59 => ?_)
   ·
    clear h57 h58
    subst e
    refine CV.skip ?_
    refine PV.thenN ?_
    refine CV.seq ?_
    refine CV.block ?_
    refine sr ?_
    refine vy (V.ia h59 rfl rfl Rnf.el46) fun x88_50 h60 => ?_
    refine vy (V.ld hS h60 rfl Rnf.one9) fun x89_51 h61 => ?_
    refine as_ ?_
    refine dn ?_
    refine sr ?_
    refine mv ?_
    refine fl hS h61 Rnf.fo197_1 Rnf.one46 fun x93_52 h62 => ?_
    refine mv ?_
    refine LV.call hS h62 (g87_ok _ _ _ _ _ ) hP rfl rfl rfl rfl fun x95_53 T15 n15 h63 ρ its hS => ?_
    refine vy (V.not h63 rfl) fun x96_54 h64 => ?_
    refine dn ?_
    refine CV.cond h64 rfl (fun e h65 => ?_) (fun e h65 => ?_)
    ·
     clear h59 h60 h61 h62 h63 h64
     subst e
     cases h65
    ·
     clear h59 h60 h61 h62 h63 h64
     subst e
     refine CV.skip ?_
     refine PV.blockN ?_
     refine PV.thenN ?_
     refine CV.region ?_
     refine vy (V.add h65 rfl rfl) fun x107_55 h66 => ?_
     refine mv ?_
     refine LV.done ?_
     exact pb8 hS h66 ⟨rfl, rfl, rfl, rfl, rfl, rfl, rfl, rfl, trivial⟩
   ·
    clear h57 h58
    subst e
    refine CV.exit ?_
    refine PV.thenE ?_
    refine PV.thenE ?_
    refine PV.blockE ?_
    refine PV.thenN ?_
    refine CV.seq ?_
    refine CV.regionM [(0, .anywhere), (1, .anywhere), (2, .anywhere), (3, .held), (4, .anywhere), (5, .anywhere), (6, .anywhere), (7, .held), (8, .held), (9, .held)] rfl (fun c a a' w hd hq => PanicOk.root (P := Tryz.prog) (fn := Tryz.f90) (w0 := w0) (base := base) (E := envE) (ro := ro) (r := r) (T' := T') (n' := n') (ρ0 := ρ0) c a a' w hd hq) (by kernel_rfl) ?_
    refine MV.step0 (i := 0) rfl (VAL.move rfl) rfl rfl rfl ?_
    refine MV.lift0 (i := 1) rfl (V.nc h59 rfl) rfl rfl rfl fun x109_56 h67 => ?_
    refine MV.lift0 (i := 2) rfl (V.fa h67 rfl Rnf.fo114_4) rfl rfl rfl fun x110_57 h68 => ?_
    refine MV.lift1 (i := 3) rfl (fun _ z => z) (V.ld hS h68 rfl Rnf.one51) rfl rfl rfl [] (by kernel_rfl) fun x111_58 h69 => ?_
    refine MV.step0 (i := 4) rfl (VAL.move rfl) rfl rfl rfl ?_
    refine MV.lift0 (i := 5) rfl (V.nc h69 rfl) rfl rfl rfl fun x113_59 h70 => ?_
    refine MV.lift0 (i := 6) rfl (V.fa h70 rfl Rnf.fo114_6) rfl rfl rfl fun x114_60 h71 => ?_
    refine MV.lift1 (i := 7) rfl (fun _ z => z) (V.ld hS h71 rfl Rnf.one3) rfl rfl rfl [3] (by kernel_rfl) fun x115_61 h72 => ?_
    refine MV.lift1 (i := 8) rfl (fun _ z => z) (V.ia h72 rfl rfl Rnf.el51) rfl rfl rfl [] (by kernel_rfl) fun x116_62 h73 => ?_
    refine MV.step1 (i := 9) rfl (fun _ z => z) (VAL.assign rfl) rfl rfl rfl [] (by kernel_rfl) ?_
    refine mdn ?_
    refine CV.seq ?_
    refine CV.regionMS hS [y12] [(0, .anywhere), (1, .anywhere), (2, .anywhere), (3, .anywhere), (4, .anywhere), (5, .held), (7, .anywhere), (8, .anywhere), (9, .anywhere), (10, .held), (11, .held), (6, .alone), (12, .alone), (13, .alone), (14, .alone), (15, .alone), (16, .alone), (17, .alone)] rfl (fun c a a' w hd hq => PanicOk.root (P := Tryz.prog) (fn := Tryz.f90) (w0 := w0) (base := base) (E := envE) (ro := ro) (r := r) (T' := T') (n' := n') (ρ0 := ρ0) c a a' w hd hq) (by kernel_rfl) ?_
    have hK := KeepS.start [y12] hS
    have hR := hS
    have hP0 := hP
    replace hP := PK.up hR hP
    replace hS := hR.root
    refine MV.step0 (i := 0) rfl (VAL.move rfl) rfl rfl rfl ?_
    refine MV.step0 (i := 1) rfl (VAL.move rfl) rfl rfl rfl ?_
    refine MV.step0 (i := 2) rfl (VAL.move rfl) rfl rfl rfl ?_
    refine MV.lift0 (i := 3) rfl (V.nc h73 rfl) rfl rfl rfl fun x120_63 h74 => ?_
    refine MV.lift0 (i := 4) rfl (V.fa h74 rfl Rnf.fo197_1) rfl rfl rfl fun x121_64 h75 => ?_
    refine MV.lift1 (i := 5) rfl hK (V.ldQ hS h75 rfl Rnf.one46) rfl rfl rfl [] (by kernel_rfl) fun x122_65 h76 => ?_
    refine MV.step0 (i := 7) rfl (VAL.move rfl) rfl rfl rfl ?_
    refine MV.lift0 (i := 8) rfl (V.nc h76 rfl) rfl rfl rfl fun x125_66 h77 => ?_
    refine MV.lift0 (i := 9) rfl (V.fa h77 rfl Rnf.fo197_1) rfl rfl rfl fun x126_67 h78 => ?_
    refine MV.lift1 (i := 10) rfl hK (V.ldQ hS h78 rfl Rnf.one46) rfl rfl rfl [5] (by kernel_rfl) fun x127_68 h79 => ?_
    refine MV.lift1 (i := 11) rfl hK (V.lenS h79 rfl Rnf.ls46) rfl rfl rfl [5] (by kernel_rfl) fun x128_69 h80 => ?_
    refine MV.force (i := 6) rfl ?_
    refine LV.call hS h80 (g57_ok _ _ _ _ ) hP rfl rfl rfl rfl fun x123_70 T16 n16 h81 ρ its hS => ?_
    obtain ⟨hK, h82⟩ := KeepS.step hR hS h81
    refine LV.nextM [11] (by kernel_rfl) (fun _ => hK) ?_
    refine MV.force (i := 12) rfl ?_
    refine vy (V.nc h82 rfl) fun x129_71 h83 => ?_
    refine LV.nextM [11] (by kernel_rfl) (fun _ => hK) ?_
    refine MV.force (i := 13) rfl ?_
    refine vy (V.fa h83 rfl Rnf.fo56_3) fun x130_72 h84 => ?_
    refine LV.nextM [11] (by kernel_rfl) (fun _ => hK) ?_
    refine MV.force (i := 14) rfl ?_
    refine LV.st hS h84 rfl rfl rfl Rnf.siz46 rfl rfl fun T17 its h85 hS => ?_
    obtain ⟨hK, h86⟩ := KeepS.step hR hS h85
    refine LV.nextM [11] (by kernel_rfl) (fun _ => hK) ?_
    refine MV.force (i := 15) rfl ?_
    refine vy (V.nc h86 rfl) fun x131_73 h87 => ?_
    refine LV.nextM [] (by kernel_rfl) (fun z => absurd rfl z) ?_
    refine MV.force (i := 16) rfl ?_
    refine vy (V.fa h87 rfl Rnf.fo56_2) fun x132_74 h88 => ?_
    refine LV.nextM [] (by kernel_rfl) (fun z => absurd rfl z) ?_
    refine MV.force (i := 17) rfl ?_
    refine LV.st hS h88 rfl rfl rfl Rnf.siz3 rfl rfl fun T18 its h89 hS => ?_
    refine LV.nextM [] (by kernel_rfl) (fun z => absurd rfl z) ?_
    replace hS := hR.up hS
    replace hP := hP0
    refine mdn ?_
    refine sr ?_
    refine mv ?_
    refine vy (V.fa h89 rfl Rnf.fo32_4) fun x134_75 h90 => ?_
    refine vy (V.ld hS h90 rfl Rnf.one30) fun x135_76 h91 => ?_
    refine mv ?_
    refine vy (V.ia h91 rfl rfl Rnf.el30) fun x137_77 h92 => ?_
    refine vy (V.ld hS h92 rfl Rnf.one3) fun x138_78 h93 => ?_
    refine mv ?_
    refine LV.call hS h93 (hI _ _ _ _ _) hP rfl rfl rfl rfl fun x140_79 T19 n19 h94 ρ its hS => ?_
    refine dn ?_
    refine CV.region ?_
    refine mv ?_
    refine mv ?_
    refine fa2 h94 Rnf.fo114_6 fun x144_80 h95 => ?_
    refine LV.st hS h95 rfl rfl rfl Rnf.siz3 rfl rfl fun T20 its h96 hS => ?_
    refine LV.done ?_
    cases h96
    exact PV.ret (by simp) Tryz.results90 hS RS.nil rfl
noncomputable def ap7 (ih : FuncId → List HT → List AV → HT → Nat → R) (f : FuncId) (ro : List HT) (args : List AV) (T : HT) (nx : Nat) : R :=
  Bool.rec (motive := fun _ => R) (Bool.rec (motive := fun _ => R) (.bad 2) (List.rec (motive := fun _ => R) (.bad 1) (fun a0 l0 _ => List.rec (motive := fun _ => R) (.bad 1) (fun a1 l1 _ => List.rec (motive := fun _ => R) (.bad 1) (fun a2 l2 _ => List.rec (motive := fun _ => R) (.bad 1) (fun a3 l3 _ => List.rec (motive := fun _ => R) (g90 ih ro a0 a1 a2 a3 T nx) (fun _ _ _ => .bad 1) l3) l2) l1) l0) args) (Nat.beq f 90)) (Bool.rec (motive := fun _ => R) (.bad 2) (List.rec (motive := fun _ => R) (.bad 1) (fun a0 l0 _ => List.rec (motive := fun _ => R) (.bad 1) (fun a1 l1 _ => List.rec (motive := fun _ => R) (.bad 1) (fun a2 l2 _ => List.rec (motive := fun _ => R) (g58 ih ro a0 a1 a2 T nx) (fun _ _ _ => .bad 1) l2) l1) l0) args) (Nat.beq f 58)) (Nat.ble f 58)
noncomputable def scc7 (fuel : Nat) : FuncId → List HT → List AV → HT → Nat → R :=
  Nat.rec (motive := fun _ => FuncId → List HT → List AV → HT → Nat → R) (fun _ _ _ _ _ => .bad 3) (fun _ ih => ap7 ih) fuel
theorem ap7_ok (ih : FuncId → List HT → List AV → HT → Nat → R) (hI : ∀ f ro args T nx, GOk Tryz.prog envE f args ro T nx (ih f ro args T nx)) (f : FuncId) (ro : List HT) (args : List AV) (T : HT) (nx : Nat) : GOk Tryz.prog envE f args ro T nx (ap7 ih f ro args T nx) := by
  unfold ap7
  refine recb_go (fun hb => ?_) (fun _ => ?_)
  · refine recb_go (fun hb => ?_) (fun _ => ?_)
    · obtain rfl := beqT hb
      rcases args with _ | ⟨a0, l0⟩
      · exact GOk.bad
      rcases l0 with _ | ⟨a1, l1⟩
      · exact GOk.bad
      rcases l1 with _ | ⟨a2, l2⟩
      · exact GOk.bad
      rcases l2 with _ | ⟨_, _⟩
      · exact g58_ok _ hI _ _ _ _ _ _ 
      · exact GOk.bad
    · exact GOk.bad
  · refine recb_go (fun hb => ?_) (fun _ => ?_)
    · obtain rfl := beqT hb
      rcases args with _ | ⟨a0, l0⟩
      · exact GOk.bad
      rcases l0 with _ | ⟨a1, l1⟩
      · exact GOk.bad
      rcases l1 with _ | ⟨a2, l2⟩
      · exact GOk.bad
      rcases l2 with _ | ⟨a3, l3⟩
      · exact GOk.bad
      rcases l3 with _ | ⟨_, _⟩
      · exact g90_ok _ hI _ _ _ _ _ _ _ 
      · exact GOk.bad
    · exact GOk.bad
theorem scc7_ok : ∀ (fuel : Nat) (f : FuncId) (ro : List HT) (args : List AV) (T : HT) (nx : Nat), GOk Tryz.prog envE f args ro T nx (scc7 fuel f ro args T nx)
  | 0, _, _, _, _, _ => GOk.bad
  | fuel + 1, f, ro, args, T, nx => ap7_ok (scc7 fuel) (scc7_ok fuel) f ro args T nx
noncomputable def g153_k3 (ro : List HT) (lp1 : AV → AV → AV → AV → AV → HT → Nat → R) (lp2 : AV → AV → AV → AV → AV → AV → HT → Nat → R) (y0 y1 y2 y3 y8 y9 y34 : AV) (T3 : HT) (n3 : Nat) : R :=
 condK 1530012 y34
 (
  subK Tryz.prog 3 (.tmp 40) (.const (.int .i64 (.ofNat 1))) 1530017 y9 (.lit (.int .i64 (.ofNat 1))) fun x41_3 =>
  subK Tryz.prog 3 (.tmp 43) (.const (.int .i64 (.ofNat 1))) 1530020 y9 (.lit (.int .i64 (.ofNat 1))) fun x44_4 =>
  iaK 1530021 y0 x44_4 3 fun x45_5 =>
  ldAK 1530022 T3 ro x45_5 3 fun x46_6 =>
  iaK 1530025 y0 y9 3 fun x49_7 =>
  ldAK 1530026 T3 ro x49_7 3 fun x50_8 =>
  iaK 1530027 y0 y9 3 fun x51_9 =>
  stAK 1530028 T3 x51_9 x46_6 3 fun T4 =>
  iaK 1530029 y0 x41_3 3 fun x52_10 =>
  stAK 1530030 T4 x52_10 x50_8 3 fun T5 =>
  subK Tryz.prog 3 (.tmp 35) (.const (.int .i64 (.ofNat 1))) 1530032 y9 (.lit (.int .i64 (.ofNat 1))) fun x36_11 =>
  lp2 y0 y1 y2 y3 y8 x36_11 T5 n3
 )
 (
  addK Tryz.prog 3 (.tmp 15) (.const (.int .i64 (.ofNat 1))) 1530035 y8 (.lit (.int .i64 (.ofNat 1))) fun x16_12 =>
  lp1 y0 y1 y2 y3 x16_12 T3 n3
 )
noncomputable def g153_b2 (ro : List HT) (lp1 : AV → AV → AV → AV → AV → HT → Nat → R) (lp2 : AV → AV → AV → AV → AV → AV → HT → Nat → R) (y0 y1 y2 y3 y8 y9 : AV) (T2 : HT) (n2 : Nat) : R :=
 gtK Tryz.prog 3 (.tmp 18) (.tmp 19) 1530039 y9 y1 fun x20_13 =>
 condK 1530041 x20_13
 (
  iaK 1530045 y0 y9 3 fun x25_14 =>
  ldAK 1530046 T2 ro x25_14 3 fun x26_15 =>
  subK Tryz.prog 3 (.tmp 28) (.const (.int .i64 (.ofNat 1))) 1530049 y9 (.lit (.int .i64 (.ofNat 1))) fun x29_16 =>
  iaK 1530050 y0 x29_16 3 fun x30_17 =>
  ldAK 1530051 T2 ro x30_17 3 fun x31_18 =>
  dynK 1530052 y3 fun f p q => callK (scc3 4000 f ro (p ++ ([x26_15, x31_18] ++ q)) T2 n2) fun x32_19 T6 n6 =>
  ltK Tryz.prog 3 (.tmp 32) (.const (.int .i64 (.ofNat 0))) 1530053 x32_19 (.lit (.int .i64 (.ofNat 0))) fun x33_20 =>
  g153_k3 ro lp1 lp2 y0 y1 y2 y3 y8 y9 x33_20 T6 n6
 )
 (
  g153_k3 ro lp1 lp2 y0 y1 y2 y3 y8 y9 (.lit (.bool false)) T2 n2
 )
noncomputable def g153_b1 (ro : List HT) (lp1 : AV → AV → AV → AV → AV → HT → Nat → R) (y0 y1 y2 y3 y8 : AV) (T1 : HT) (n1 : Nat) : R :=
 ltK Tryz.prog 3 (.tmp 12) (.tmp 13) 1530007 y8 y2 fun x14_2 =>
 condK 1530008 x14_2
 (
  lpf6 1530011 (g153_b2 ro lp1) 100000 y0 y1 y2 y3 y8 y8 T1 n1
 )
 (
  .ok (.val (.tup [])) T1 n1
 )
noncomputable def g153 (ro : List HT) (a0 a1 a2 a3 : AV) (T : HT) (nx : Nat) : R :=
 addK Tryz.prog 3 (.tmp 10) (.const (.int .i64 (.ofNat 1))) 1530002 a1 (.lit (.int .i64 (.ofNat 1))) fun x11_1 =>
 lpf5 1530004 (g153_b1 ro) 100000 a0 a1 a2 a3 x11_1 T nx
theorem g153_ok (ro : List HT) (a0 a1 a2 a3 : AV) (T : HT) (nx : Nat) : GOk Tryz.prog envE 153 [a0, a1, a2, a3] ro T nx (g153 ro a0 a1 a2 a3 T nx) := by
 refine GOk.of_body Tryz.func153 rfl Tryz.ntmps153 (by kernel_rfl) rfl fun r T' n' h1 w0 base ρ0 its hS hP => ?_
 have X : CtxW envE ρ0 ro r T' n' := trivial
 unfold g153 at h1
 refine sr ?_
 refine mv ?_
 refine vy (V.add h1 rfl rfl) fun x11_1 h2 => ?_
 refine as_ ?_
 refine dn ?_
 refine CV.block ?_
 refine cl5 X 0 1 2 3 8 [] hS h2 ⟨rfl, rfl, rfl, rfl, rfl, trivial⟩ ?_
 intro f1 y0 y1 y2 y3 y8 T1 n1 ρ its hS h3
 unfold g153_b1 at h3
 clear h1 h2
 refine CV.seq ?_
 refine sr ?_
 refine mv ?_
 refine mv ?_
 refine vy (V.lt h3 rfl rfl) fun x14_2 h4 => ?_
 refine dn ?_
 refine CV.cond h4 rfl (fun e h5 => ?_) (fun e h5 => ?_)
 ·
  clear h3 h4
  subst e
  refine CV.skip ?_
  refine PV.thenN ?_
  refine CV.seq ?_
  refine CV.block ?_
  refine sr ?_
  refine mv ?_
  refine as_ ?_
  refine dn ?_
  refine CV.block ?_
  refine cl6 X 0 1 2 3 8 9 [] hS h5 ⟨rfl, rfl, rfl, rfl, rfl, rfl, trivial⟩ ?_
  intro f2 y0 y1 y2 y3 y8 y9 T2 n2 ρ its hS h6
  unfold g153_b2 at h6
  clear h5
  refine CV.seq ?_
  refine cs7 X 0 1 2 3 8 9 34 [] (g153_k3 ro (lpf5 1530004 (g153_b1 ro) f1) (lpf6 1530011 (g153_b2 ro (lpf5 1530004 (g153_b1 ro) f1)) f2)) ?_ ?_
  ·
   refine CV.regionM [(0, .anywhere), (1, .anywhere), (2, .anywhere), (3, .anywhere), (4, .anywhere), (5, .anywhere), (6, .anywhere), (7, .anywhere), (8, .held), (9, .anywhere), (10, .anywhere), (11, .anywhere), (12, .anywhere), (13, .held), (14, .alone), (15, .alone), (16, .alone)] rfl (fun c a a' w hd hq => PanicOk.root (P := Tryz.prog) (fn := Tryz.f153) (w0 := w0) (base := base) (E := envE) (ro := ro) (r := r) (T' := T') (n' := n') (ρ0 := ρ0) c a a' w hd hq) (by kernel_rfl) ?_
   refine MV.step0 (i := 0) rfl (VAL.move rfl) rfl rfl rfl ?_
   refine MV.step0 (i := 1) rfl (VAL.move rfl) rfl rfl rfl ?_
   refine MV.lift0 (i := 2) rfl (V.gt h6 rfl rfl) rfl rfl rfl fun x20_13 h21 => ?_
   refine MV.step0 (i := 3) rfl (VAL.move rfl) rfl rfl rfl ?_
   rcases condK_inv h21 with ⟨e, h22⟩ | ⟨e, h22⟩
   ·
    clear h6 h21
    subst e
    refine MV.step0 (i := 4) rfl (VAL.move rfl) rfl rfl rfl ?_
    refine MV.step0 (i := 5) rfl (VAL.move rfl) rfl rfl rfl ?_
    refine MV.step0 (i := 6) rfl (VAL.move rfl) rfl rfl rfl ?_
    refine MV.lift0 (i := 7) rfl (V.ia h22 rfl rfl Rnf.el50) rfl rfl rfl fun x25_14 h23 => ?_
    refine MV.lift1 (i := 8) rfl (fun _ z => z) (V.ldA hS h23 rfl Rnf.agg58) rfl rfl rfl [] (by kernel_rfl) fun x26_15 h24 => ?_
    refine MV.step0 (i := 9) rfl (VAL.move rfl) rfl rfl rfl ?_
    refine MV.step0 (i := 10) rfl (VAL.move rfl) rfl rfl rfl ?_
    refine MV.lift0 (i := 11) rfl (V.sub h24 rfl rfl) rfl rfl rfl fun x29_16 h25 => ?_
    refine MV.lift0 (i := 12) rfl (V.ia h25 rfl rfl Rnf.el50) rfl rfl rfl fun x30_17 h26 => ?_
    refine MV.lift1 (i := 13) rfl (fun _ z => z) (V.ldA hS h26 rfl Rnf.agg58) rfl rfl rfl [8] (by kernel_rfl) fun x31_18 h27 => ?_
    refine MV.force (i := 14) rfl ?_
    refine LV.callD (G := fun f gs => scc3 4000 f ro gs T2 n2) (qs := [x26_15, x31_18]) hS h27 (fun f gs => scc3_ok _ _ _ _ _ _) hP rfl rfl rfl rfl rfl rfl rfl fun x32_19 T6 n6 h28 ρ its hS => ?_
    refine LV.nextM [] (by kernel_rfl) (fun z => absurd rfl z) ?_
    refine MV.force (i := 15) rfl ?_
    refine vy (V.lt h28 rfl rfl) fun x33_20 h29 => ?_
    refine LV.nextM [] (by kernel_rfl) (fun z => absurd rfl z) ?_
    refine MV.force (i := 16) rfl ?_
    refine pu ?_
    refine LV.nextM [] (by kernel_rfl) (fun z => absurd rfl z) ?_
    refine MV.done ?_
    exact pa7 hS h29 ⟨rfl, rfl, rfl, rfl, rfl, rfl, rfl, trivial⟩
   ·
    clear h6 h21
    subst e
    refine MV.skip0 (i := 4) rfl rfl rfl rfl ?_
    refine MV.skip0 (i := 5) rfl rfl rfl rfl ?_
    refine MV.skip0 (i := 6) rfl rfl rfl rfl ?_
    refine MV.skip0 (i := 7) rfl rfl rfl rfl ?_
    refine MV.skip1 (i := 8) rfl (fun _ z => z) rfl rfl rfl [] (by kernel_rfl) ?_
    refine MV.skip0 (i := 9) rfl rfl rfl rfl ?_
    refine MV.skip0 (i := 10) rfl rfl rfl rfl ?_
    refine MV.skip0 (i := 11) rfl rfl rfl rfl ?_
    refine MV.skip0 (i := 12) rfl rfl rfl rfl ?_
    refine MV.skip1 (i := 13) rfl (fun _ z => z) rfl rfl rfl [8] (by kernel_rfl) ?_
    refine MV.force (i := 14) rfl ?_
    refine sk ?_
    refine LV.nextM [] (by kernel_rfl) (fun z => absurd rfl z) ?_
    refine MV.force (i := 15) rfl ?_
    refine sk ?_
    refine LV.nextM [] (by kernel_rfl) (fun z => absurd rfl z) ?_
    refine MV.force (i := 16) rfl ?_
    refine pu ?_
    refine LV.nextM [] (by kernel_rfl) (fun z => absurd rfl z) ?_
    refine MV.done ?_
    exact pa7 hS h22 ⟨rfl, rfl, rfl, rfl, rfl, rfl, rfl, trivial⟩
  ·
   intro y0 y1 y2 y3 y8 y9 y34 T3 n3 ρ its hS h7
   unfold g153_k3 at h7
   clear h6
   refine CV.cond h7 rfl (fun e h8 => ?_) (fun e h8 => ?_)
   ·
    clear h7
    subst e
    refine CV.skip ?_
    refine PV.thenN ?_
    refine CV.seq ?_
    refine CV.block ?_
    refine CV.regionM [(0, .anywhere), (1, .anywhere), (2, .anywhere), (3, .anywhere), (4, .anywhere), (5, .anywhere), (6, .anywhere), (7, .anywhere), (8, .anywhere), (9, .held), (10, .anywhere), (11, .anywhere), (12, .anywhere), (13, .held), (14, .held), (15, .alone), (16, .alone), (17, .alone)] rfl (fun c a a' w hd hq => PanicOk.root (P := Tryz.prog) (fn := Tryz.f153) (w0 := w0) (base := base) (E := envE) (ro := ro) (r := r) (T' := T') (n' := n') (ρ0 := ρ0) c a a' w hd hq) (by kernel_rfl) ?_
    refine MV.step0 (i := 0) rfl (VAL.move rfl) rfl rfl rfl ?_
    refine MV.step0 (i := 1) rfl (VAL.move rfl) rfl rfl rfl ?_
    refine MV.step0 (i := 2) rfl (VAL.move rfl) rfl rfl rfl ?_
    refine MV.step0 (i := 3) rfl (VAL.move rfl) rfl rfl rfl ?_
    refine MV.lift0 (i := 4) rfl (V.sub h8 rfl rfl) rfl rfl rfl fun x41_3 h9 => ?_
    refine MV.step0 (i := 5) rfl (VAL.move rfl) rfl rfl rfl ?_
    refine MV.step0 (i := 6) rfl (VAL.move rfl) rfl rfl rfl ?_
    refine MV.lift0 (i := 7) rfl (V.sub h9 rfl rfl) rfl rfl rfl fun x44_4 h10 => ?_
    refine MV.lift0 (i := 8) rfl (V.ia h10 rfl rfl Rnf.el50) rfl rfl rfl fun x45_5 h11 => ?_
    refine MV.lift1 (i := 9) rfl (fun _ z => z) (V.ldA hS h11 rfl Rnf.agg58) rfl rfl rfl [] (by kernel_rfl) fun x46_6 h12 => ?_
    refine MV.step0 (i := 10) rfl (VAL.move rfl) rfl rfl rfl ?_
    refine MV.step0 (i := 11) rfl (VAL.move rfl) rfl rfl rfl ?_
    refine MV.lift0 (i := 12) rfl (V.ia h12 rfl rfl Rnf.el50) rfl rfl rfl fun x49_7 h13 => ?_
    refine MV.lift1 (i := 13) rfl (fun _ z => z) (V.ldA hS h13 rfl Rnf.agg58) rfl rfl rfl [9] (by kernel_rfl) fun x50_8 h14 => ?_
    refine MV.lift1 (i := 14) rfl (fun _ z => z) (V.ia h14 rfl rfl Rnf.el50) rfl rfl rfl [] (by kernel_rfl) fun x51_9 h15 => ?_
    refine MV.force (i := 15) rfl ?_
    refine LV.stA hS h15 rfl rfl rfl Rnf.agg58 rfl rfl rfl fun T4 its h16 hS => ?_
    refine LV.nextM [] (by kernel_rfl) (fun z => absurd rfl z) ?_
    refine MV.force (i := 16) rfl ?_
    refine vy (V.ia h16 rfl rfl Rnf.el50) fun x52_10 h17 => ?_
    refine LV.nextM [] (by kernel_rfl) (fun z => absurd rfl z) ?_
    refine MV.force (i := 17) rfl ?_
    refine LV.stA hS h17 rfl rfl rfl Rnf.agg58 rfl rfl rfl fun T5 its h18 hS => ?_
    refine LV.nextM [] (by kernel_rfl) (fun z => absurd rfl z) ?_
    refine MV.done ?_
    refine PV.blockN ?_
    refine PV.thenN ?_
    refine CV.region ?_
    refine mv ?_
    refine vy (V.sub h18 rfl rfl) fun x36_11 h19 => ?_
    refine as_ ?_
    refine LV.done ?_
    exact pb6 hS h19 ⟨rfl, rfl, rfl, rfl, rfl, rfl, trivial⟩
   ·
    clear h7
    subst e
    refine CV.exit ?_
    refine PV.thenE ?_
    refine PV.thenE ?_
    refine PV.blockE ?_
    refine PV.blockN ?_
    refine PV.thenN ?_
    refine CV.region ?_
    refine mv ?_
    refine vy (V.add h8 rfl rfl) fun x16_12 h20 => ?_
    refine as_ ?_
    refine LV.done ?_
    exact pb5 hS h20 ⟨rfl, rfl, rfl, rfl, rfl, trivial⟩
 ·
  clear h3 h4
  subst e
  refine CV.exit ?_
  refine PV.thenE ?_
  refine PV.thenE ?_
  refine PV.blockE ?_
  cases h5
  exact PV.ret (by simp) Tryz.results153 hS RS.nil rfl
noncomputable def g224 (ro : List HT) (a0 a1 a2 a3 a4 : AV) (T : HT) (nx : Nat) : R :=
 iaK 2240006 a0 a2 3 fun x15_1 =>
 ldAK 2240007 T ro x15_1 3 fun x16_2 =>
 iaK 2240010 a0 a1 3 fun x19_3 =>
 ldAK 2240011 T ro x19_3 3 fun x20_4 =>
 dynK 2240012 a4 fun f p q => callK (scc3 4000 f ro (p ++ ([x16_2, x20_4] ++ q)) T nx) fun x21_5 T1 n1 =>
 ltK Tryz.prog 3 (.tmp 21) (.const (.int .i64 (.ofNat 0))) 2240013 x21_5 (.lit (.int .i64 (.ofNat 0))) fun x22_6 =>
 condK 2240014 x22_6
 (
  .bad 2240015
 )
 (
  .ok (.val (.tup [a1, a2])) T1 n1
 )
theorem g224_ok (ro : List HT) (a0 a1 a2 a3 a4 : AV) (T : HT) (nx : Nat) : GOk Tryz.prog envE 224 [a0, a1, a2, a3, a4] ro T nx (g224 ro a0 a1 a2 a3 a4 T nx) := by
 refine GOk.of_body Tryz.func224 rfl Tryz.ntmps224 (by kernel_rfl) rfl fun r T' n' h1 w0 base ρ0 its hS hP => ?_
 have X : CtxW envE ρ0 ro r T' n' := trivial
 unfold g224 at h1
 refine sr ?_
 refine as_ ?_
 refine as_ ?_
 refine dn ?_
 refine CV.seq ?_
 refine CV.seq ?_
 refine CV.regionM [(0, .anywhere), (1, .anywhere), (2, .anywhere), (3, .anywhere), (4, .held), (5, .anywhere), (6, .anywhere), (7, .anywhere), (8, .held), (9, .alone), (10, .alone)] rfl (fun c a a' w hd hq => PanicOk.root (P := Tryz.prog) (fn := Tryz.f224) (w0 := w0) (base := base) (E := envE) (ro := ro) (r := r) (T' := T') (n' := n') (ρ0 := ρ0) c a a' w hd hq) (by kernel_rfl) ?_
 refine MV.step0 (i := 0) rfl (VAL.move rfl) rfl rfl rfl ?_
 refine MV.step0 (i := 1) rfl (VAL.move rfl) rfl rfl rfl ?_
 refine MV.step0 (i := 2) rfl (VAL.move rfl) rfl rfl rfl ?_
 refine MV.lift0 (i := 3) rfl (V.ia h1 rfl rfl Rnf.el50) rfl rfl rfl fun x15_1 h2 => ?_
 refine MV.lift1 (i := 4) rfl (fun _ z => z) (V.ldA hS h2 rfl Rnf.agg58) rfl rfl rfl [] (by kernel_rfl) fun x16_2 h3 => ?_
 refine MV.step0 (i := 5) rfl (VAL.move rfl) rfl rfl rfl ?_
 refine MV.step0 (i := 6) rfl (VAL.move rfl) rfl rfl rfl ?_
 refine MV.lift0 (i := 7) rfl (V.ia h3 rfl rfl Rnf.el50) rfl rfl rfl fun x19_3 h4 => ?_
 refine MV.lift1 (i := 8) rfl (fun _ z => z) (V.ldA hS h4 rfl Rnf.agg58) rfl rfl rfl [4] (by kernel_rfl) fun x20_4 h5 => ?_
 refine MV.force (i := 9) rfl ?_
 refine LV.callD (G := fun f gs => scc3 4000 f ro gs T nx) (qs := [x16_2, x20_4]) hS h5 (fun f gs => scc3_ok _ _ _ _ _ _) hP rfl rfl rfl rfl rfl rfl rfl fun x21_5 T1 n1 h6 ρ its hS => ?_
 refine LV.nextM [] (by kernel_rfl) (fun z => absurd rfl z) ?_
 refine MV.force (i := 10) rfl ?_
 refine vy (V.lt h6 rfl rfl) fun x22_6 h7 => ?_
 refine LV.nextM [] (by kernel_rfl) (fun z => absurd rfl z) ?_
 refine mdn ?_
 refine CV.cond h7 rfl (fun e h8 => ?_) (fun e h8 => ?_)
 ·
  clear h1 h2 h3 h4 h5 h6 h7
  subst e
  cases h8
 ·
  clear h1 h2 h3 h4 h5 h6 h7
  subst e
  refine CV.skip ?_
  refine PV.thenN ?_
  refine sr ?_
  refine mv ?_
  refine mv ?_
  refine as_ ?_
  refine as_ ?_
  refine dn ?_
  refine CV.ret ?_
  cases h8
  exact PV.ret (by simp) Tryz.results224 hS (RS.tmp rfl (RS.tmp rfl RS.nil)) rfl
noncomputable def g204 (ro : List HT) (a0 a1 a2 a3 a4 a5 : AV) (T : HT) (nx : Nat) : R :=
 callK (g224 ro a0 a1 a2 a4 a5 T nx) fun x19_1 T1 n1 =>
 exK 2040009 x19_1 0 fun x20_2 =>
 exK 2040010 x19_1 1 fun x21_3 =>
 callK (g224 ro a0 x21_3 a3 a4 a5 T1 n1) fun x28_4 T2 n2 =>
 exK 2040020 x28_4 0 fun x29_5 =>
 exK 2040021 x28_4 1 fun x30_6 =>
 callK (g224 ro a0 x20_2 x29_5 a4 a5 T2 n2) fun x37_7 T3 n3 =>
 exK 2040031 x37_7 0 fun x38_8 =>
 exK 2040032 x37_7 1 fun x39_9 =>
 .ok (.val x39_9) T3 n3
theorem g204_ok (ro : List HT) (a0 a1 a2 a3 a4 a5 : AV) (T : HT) (nx : Nat) : GOk Tryz.prog envE 204 [a0, a1, a2, a3, a4, a5] ro T nx (g204 ro a0 a1 a2 a3 a4 a5 T nx) := by
 refine GOk.of_body Tryz.func204 rfl Tryz.ntmps204 (by kernel_rfl) rfl fun r T' n' h1 w0 base ρ0 its hS hP => ?_
 have X : CtxW envE ρ0 ro r T' n' := trivial
 unfold g204 at h1
 refine sr ?_
 refine as_ ?_
 refine dn ?_
 refine sr ?_
 refine mv ?_
 refine mv ?_
 refine mv ?_
 refine mv ?_
 refine mv ?_
 refine LV.call hS h1 (g224_ok _ _ _ _ _ _ _ _ ) hP rfl rfl rfl rfl fun x19_1 T1 n1 h2 ρ its hS => ?_
 refine mv ?_
 refine vy (V.ex h2 rfl) fun x20_2 h3 => ?_
 refine vy (V.ex h3 rfl) fun x21_3 h4 => ?_
 refine as_ ?_
 refine as_ ?_
 refine dn ?_
 refine sr ?_
 refine mv ?_
 refine mv ?_
 refine mv ?_
 refine mv ?_
 refine mv ?_
 refine LV.call hS h4 (g224_ok _ _ _ _ _ _ _ _ ) hP rfl rfl rfl rfl fun x28_4 T2 n2 h5 ρ its hS => ?_
 refine mv ?_
 refine vy (V.ex h5 rfl) fun x29_5 h6 => ?_
 refine vy (V.ex h6 rfl) fun x30_6 h7 => ?_
 refine as_ ?_
 refine as_ ?_
 refine dn ?_
 refine sr ?_
 refine mv ?_
 refine mv ?_
 refine mv ?_
 refine mv ?_
 refine mv ?_
 refine LV.call hS h7 (g224_ok _ _ _ _ _ _ _ _ ) hP rfl rfl rfl rfl fun x37_7 T3 n3 h8 ρ its hS => ?_
 refine mv ?_
 refine vy (V.ex h8 rfl) fun x38_8 h9 => ?_
 refine vy (V.ex h9 rfl) fun x39_9 h10 => ?_
 refine as_ ?_
 refine as_ ?_
 refine dn ?_
 refine sr ?_
 refine mv ?_
 refine as_ ?_
 refine dn ?_
 refine CV.ret ?_
 cases h10
 exact PV.ret (by simp) Tryz.results204 hS (RS.tmp rfl RS.nil) rfl
noncomputable def g156_k1 (ro : List HT) (y8 y9 y11 y13 : AV) (T2 : HT) (n2 : Nat) : R :=
 ldK 1560026 T2 ro y11 fun x55_12 =>
 eqK Tryz.prog 3 (.tmp 55) (.const (.int .i64 (.ofNat 0))) 1560027 x55_12 (.lit (.int .i64 (.ofNat 0))) fun x58_13 =>
 condK 1560029 x58_13
 (
  .ok (.val (.tup [y13, (.lit (.int .i64 (.ofNat 1)))])) T2 n2
 )
 (
  eqK Tryz.prog 3 (.tmp 55) (.const (.int .i64 (.ofNat 12))) 1560033 x55_12 (.lit (.int .i64 (.ofNat 12))) fun x61_14 =>
  .bad 1560035
 )
noncomputable def g156 (ro : List HT) (a0 a1 a2 a3 : AV) (T : HT) (nx : Nat) : R :=
 subK Tryz.prog 3 (.tmp 15) (.tmp 16) 1560005 a2 a1 fun x17_1 =>
 newK T nx (.obj [.lit (.int .i64 0)] 3) fun x11_2 T1 n1 =>
 bin0 Tryz.prog .quo 3 (.tmp 19) (.const (.int .i64 (.ofNat 4))) 1560010 x17_1 (.lit (.int .i64 (.ofNat 4))) fun x20_3 =>
 bin0 Tryz.prog .mul 3 (.tmp 20) (.const (.int .i64 (.ofNat 1))) 1560011 x20_3 (.lit (.int .i64 (.ofNat 1))) fun x21_4 =>
 addK Tryz.prog 3 (.tmp 18) (.tmp 21) 1560012 a1 x21_4 fun x22_5 =>
 bin0 Tryz.prog .quo 3 (.tmp 24) (.const (.int .i64 (.ofNat 4))) 1560016 x17_1 (.lit (.int .i64 (.ofNat 4))) fun x25_6 =>
 bin0 Tryz.prog .mul 3 (.tmp 25) (.const (.int .i64 (.ofNat 2))) 1560017 x25_6 (.lit (.int .i64 (.ofNat 2))) fun x26_7 =>
 addK Tryz.prog 3 (.tmp 23) (.tmp 26) 1560018 a1 x26_7 fun x27_8 =>
 bin0 Tryz.prog .quo 3 (.tmp 29) (.const (.int .i64 (.ofNat 4))) 1560022 x17_1 (.lit (.int .i64 (.ofNat 4))) fun x30_9 =>
 bin0 Tryz.prog .mul 3 (.tmp 30) (.const (.int .i64 (.ofNat 3))) 1560023 x30_9 (.lit (.int .i64 (.ofNat 3))) fun x31_10 =>
 addK Tryz.prog 3 (.tmp 28) (.tmp 31) 1560024 a1 x31_10 fun x32_11 =>
 geK Tryz.prog 3 (.tmp 33) (.const (.int .i64 (.ofNat 8))) 1560037 x17_1 (.lit (.int .i64 (.ofNat 8))) fun x34_15 =>
 condK 1560038 x34_15
 (
  geK Tryz.prog 3 (.tmp 35) (.const (.int .i64 (.ofNat 50))) 1560040 x17_1 (.lit (.int .i64 (.ofNat 50))) fun x36_16 =>
  condK 1560041 x36_16
  (
   .bad 1560042
  )
  (
   callK (g204 ro a0 x22_5 x27_8 x32_11 x11_2 a3 T1 n1) fun x54_17 T3 n3 =>
   g156_k1 ro (.lit (.int .i64 (.ofNat 0))) (.lit (.int .i64 (.ofNat 0))) x11_2 x54_17 T3 n3
  )
 )
 (
  g156_k1 ro (.lit (.int .i64 (.ofNat 0))) (.lit (.int .i64 (.ofNat 0))) x11_2 x27_8 T1 n1
 )
theorem g156_ok (ro : List HT) (a0 a1 a2 a3 : AV) (T : HT) (nx : Nat) : GOk Tryz.prog envE 156 [a0, a1, a2, a3] ro T nx (g156 ro a0 a1 a2 a3 T nx) := by
 refine GOk.of_body Tryz.func156 rfl Tryz.ntmps156 (by kernel_rfl) rfl fun r T' n' h1 w0 base ρ0 its hS hP => ?_
 have X : CtxW envE ρ0 ro r T' n' := trivial
 unfold g156 at h1
 refine sr ?_
 refine as_ ?_
 refine as_ ?_
 refine dn ?_
 refine sr ?_
 refine mv ?_
 refine mv ?_
 refine vy (V.sub h1 rfl rfl) fun x17_1 h2 => ?_
 refine as_ ?_
 refine dn ?_
 refine sr ?_
 refine LV.alloc hS h2 rfl Rnf.zr3 rfl rfl rfl fun x11_2 T1 n1 h3 ρ its hS hdr => ?_
 refine dn ?_
 refine sr ?_
 refine mv ?_
 refine mv ?_
 refine vy (V.bin0 h3 rfl rfl) fun x20_3 h4 => ?_
 refine vy (V.bin0 h4 rfl rfl) fun x21_4 h5 => ?_
 refine vy (V.add h5 rfl rfl) fun x22_5 h6 => ?_
 refine as_ ?_
 refine dn ?_
 refine sr ?_
 refine mv ?_
 refine mv ?_
 refine vy (V.bin0 h6 rfl rfl) fun x25_6 h7 => ?_
 refine vy (V.bin0 h7 rfl rfl) fun x26_7 h8 => ?_
 refine vy (V.add h8 rfl rfl) fun x27_8 h9 => ?_
 refine as_ ?_
 refine dn ?_
 refine sr ?_
 refine mv ?_
 refine mv ?_
 refine vy (V.bin0 h9 rfl rfl) fun x30_9 h10 => ?_
 refine vy (V.bin0 h10 rfl rfl) fun x31_10 h11 => ?_
 refine vy (V.add h11 rfl rfl) fun x32_11 h12 => ?_
 refine as_ ?_
 refine dn ?_
 refine cs4 X 8 9 11 13 [] (g156_k1 ro) ?_ ?_
 ·
  refine sr ?_
  refine mv ?_
  refine vy (V.ge h12 rfl rfl) fun x34_15 h18 => ?_
  refine dn ?_
  refine CV.cond h18 rfl (fun e h19 => ?_) (fun e h19 => ?_)
  ·
   clear h1 h2 h3 h4 h5 h6 h7 h8 h9 h10 h11 h12 h18
   subst e
   refine CV.seq ?_
   refine sr ?_
   refine mv ?_
   refine vy (V.ge h19 rfl rfl) fun x36_16 h20 => ?_
   refine dn ?_
   refine CV.cond h20 rfl (fun e h21 => ?_) (fun e h21 => ?_)
   ·
    clear h19 h20
    subst e
    cases h21
   ·
    clear h19 h20
    subst e
    refine CV.skip ?_
    refine PV.thenN ?_
    refine CV.region ?_
    refine mv ?_
    refine mv ?_
    refine mv ?_
    refine mv ?_
    refine mv ?_
    refine LV.call hS h21 (g204_ok _ _ _ _ _ _ _ _ _ ) hP rfl rfl rfl rfl fun x54_17 T3 n3 h22 ρ its hS => ?_
    refine as_ ?_
    refine LV.done ?_
    exact pa4 hS h22 ⟨rfl, rfl, rfl, rfl, trivial⟩
  ·
   clear h1 h2 h3 h4 h5 h6 h7 h8 h9 h10 h11 h12 h18
   subst e
   refine CV.skip ?_
   exact pa4 hS h19 ⟨rfl, rfl, rfl, rfl, trivial⟩
 ·
  intro y8 y9 y11 y13 T2 n2 ρ its hS h13
  unfold g156_k1 at h13
  clear h1 h2 h3 h4 h5 h6 h7 h8 h9 h10 h11 h12
  refine sr ?_
  refine vy (V.ld hS h13 rfl Rnf.one3) fun x55_12 h14 => ?_
  refine dn ?_
  refine CV.block ?_
  refine sr ?_
  refine vy (V.eq h14 rfl rfl) fun x58_13 h15 => ?_
  refine as_ ?_
  refine dn ?_
  refine CV.cond h15 rfl (fun e h16 => ?_) (fun e h16 => ?_)
  ·
   clear h13 h14 h15
   subst e
   refine sr ?_
   refine mv ?_
   refine as_ ?_
   refine as_ ?_
   refine dn ?_
   refine CV.ret ?_
   refine PV.blockR ?_
   cases h16
   exact PV.ret (by simp) Tryz.results156 hS (RS.tmp rfl (RS.tmp rfl RS.nil)) rfl
  ·
   clear h13 h14 h15
   subst e
   refine sr ?_
   refine vy (V.eq h16 rfl rfl) fun x61_14 h17 => ?_
   refine as_ ?_
   refine dn ?_
   cases h17
noncomputable def g158_k3 (ro : List HT) (lp1 : AV → AV → AV → AV → AV → AV → AV → HT → Nat → R) (lp2 : AV → AV → AV → AV → AV → AV → AV → HT → Nat → R) (y0 y1 y2 y3 y8 y9 y10 y36 : AV) (T3 : HT) (n3 : Nat) : R :=
 condK 1580011 y36
 (
  addK Tryz.prog 3 (.tmp 37) (.const (.int .i64 (.ofNat 1))) 1580013 y9 (.lit (.int .i64 (.ofNat 1))) fun x38_3 =>
  lp2 y0 y1 y2 y3 y8 x38_3 y10 T3 n3
 )
 (
  eqK Tryz.prog 3 (.tmp 39) (.tmp 40) 1580017 y9 y2 fun x41_4 =>
  condK 1580018 x41_4
  (
   .ok (.val (.lit (.bool true))) T3 n3
  )
  (
   subK Tryz.prog 3 (.tmp 42) (.tmp 43) 1580022 y2 y1 fun x44_5 =>
   ltK Tryz.prog 3 (.tmp 44) (.const (.int .i64 (.ofNat 50))) 1580023 x44_5 (.lit (.int .i64 (.ofNat 50))) fun x45_6 =>
   condK 1580024 x45_6
   (
    .bad 1580025
   )
   (
    subK Tryz.prog 3 (.tmp 49) (.const (.int .i64 (.ofNat 1))) 1580030 y9 (.lit (.int .i64 (.ofNat 1))) fun x50_7 =>
    subK Tryz.prog 3 (.tmp 52) (.const (.int .i64 (.ofNat 1))) 1580033 y9 (.lit (.int .i64 (.ofNat 1))) fun x53_8 =>
    iaK 1580034 y0 x53_8 3 fun x54_9 =>
    ldAK 1580035 T3 ro x54_9 3 fun x55_10 =>
    iaK 1580038 y0 y9 3 fun x58_11 =>
    ldAK 1580039 T3 ro x58_11 3 fun x59_12 =>
    iaK 1580040 y0 y9 3 fun x60_13 =>
    stAK 1580041 T3 x60_13 x55_10 3 fun T4 =>
    iaK 1580042 y0 x50_7 3 fun x61_14 =>
    stAK 1580043 T4 x61_14 x59_12 3 fun T5 =>
    subK Tryz.prog 3 (.tmp 62) (.tmp 63) 1580046 y9 y1 fun x64_15 =>
    geK Tryz.prog 3 (.tmp 64) (.const (.int .i64 (.ofNat 2))) 1580047 x64_15 (.lit (.int .i64 (.ofNat 2))) fun x65_16 =>
    condK 1580048 x65_16
    (
     .bad 1580049
    )
    (
     subK Tryz.prog 3 (.tmp 101) (.tmp 102) 1580052 y2 y9 fun x103_17 =>
     geK Tryz.prog 3 (.tmp 103) (.const (.int .i64 (.ofNat 2))) 1580053 x103_17 (.lit (.int .i64 (.ofNat 2))) fun x104_18 =>
     condK 1580054 x104_18
     (
      .bad 1580055
     )
     (
      addK Tryz.prog 3 (.tmp 17) (.const (.int .i64 (.ofNat 1))) 1580057 y10 (.lit (.int .i64 (.ofNat 1))) fun x18_19 =>
      lp1 y0 y1 y2 y3 y8 y9 x18_19 T5 n3
     )
    )
   )
  )
 )
noncomputable def g158_b2 (ro : List HT) (lp1 : AV → AV → AV → AV → AV → AV → AV → HT → Nat → R) (lp2 : AV → AV → AV → AV → AV → AV → AV → HT → Nat → R) (y0 y1 y2 y3 y8 y9 y10 : AV) (T2 : HT) (n2 : Nat) : R :=
 ltK Tryz.prog 3 (.tmp 19) (.tmp 20) 1580061 y9 y2 fun x21_20 =>
 condK 1580063 x21_20
 (
  iaK 1580067 y0 y9 3 fun x26_21 =>
  ldAK 1580068 T2 ro x26_21 3 fun x27_22 =>
  subK Tryz.prog 3 (.tmp 29) (.const (.int .i64 (.ofNat 1))) 1580071 y9 (.lit (.int .i64 (.ofNat 1))) fun x30_23 =>
  iaK 1580072 y0 x30_23 3 fun x31_24 =>
  ldAK 1580073 T2 ro x31_24 3 fun x32_25 =>
  dynK 1580074 y3 fun f p q => callK (scc3 4000 f ro (p ++ ([x27_22, x32_25] ++ q)) T2 n2) fun x33_26 T6 n6 =>
  ltK Tryz.prog 3 (.tmp 33) (.const (.int .i64 (.ofNat 0))) 1580075 x33_26 (.lit (.int .i64 (.ofNat 0))) fun x34_27 =>
  notK 1580076 x34_27 fun x35_28 =>
  g158_k3 ro lp1 lp2 y0 y1 y2 y3 y8 y9 y10 x35_28 T6 n6
 )
 (
  g158_k3 ro lp1 lp2 y0 y1 y2 y3 y8 y9 y10 (.lit (.bool false)) T2 n2
 )
noncomputable def g158_b1 (ro : List HT) (lp1 : AV → AV → AV → AV → AV → AV → AV → HT → Nat → R) (y0 y1 y2 y3 y8 y9 y10 : AV) (T1 : HT) (n1 : Nat) : R :=
 ltK Tryz.prog 3 (.tmp 15) (.const (.int .i64 (.ofNat 5))) 1580008 y10 (.lit (.int .i64 (.ofNat 5))) fun x16_2 =>
 condK 1580009 x16_2
 (
  lpf7 1580010 (g158_b2 ro lp1) 100000 y0 y1 y2 y3 y8 y9 y10 T1 n1
 )
 (
  .ok (.val (.lit (.bool false))) T1 n1
 )
noncomputable def g158 (ro : List HT) (a0 a1 a2 a3 : AV) (T : HT) (nx : Nat) : R :=
 addK Tryz.prog 3 (.tmp 13) (.const (.int .i64 (.ofNat 1))) 1580003 a1 (.lit (.int .i64 (.ofNat 1))) fun x14_1 =>
 lpf7 1580006 (g158_b1 ro) 100000 a0 a1 a2 a3 (.lit (.bool false)) x14_1 (.lit (.int .i64 (.ofNat 0))) T nx
theorem g158_ok (ro : List HT) (a0 a1 a2 a3 : AV) (T : HT) (nx : Nat) : GOk Tryz.prog envE 158 [a0, a1, a2, a3] ro T nx (g158 ro a0 a1 a2 a3 T nx) := by
 refine GOk.of_body Tryz.func158 rfl Tryz.ntmps158 (by kernel_rfl) rfl fun r T' n' h1 w0 base ρ0 its hS hP => ?_
 have X : CtxW envE ρ0 ro r T' n' := trivial
 unfold g158 at h1
 refine sr ?_
 refine as_ ?_
 refine dn ?_
 refine sr ?_
 refine mv ?_
 refine vy (V.add h1 rfl rfl) fun x14_1 h2 => ?_
 refine as_ ?_
 refine dn ?_
 refine CV.seq ?_
 refine sr ?_
 refine as_ ?_
 refine dn ?_
 refine CV.block ?_
 refine cl7 X 0 1 2 3 8 9 10 [] hS h2 ⟨rfl, rfl, rfl, rfl, rfl, rfl, rfl, trivial⟩ ?_
 intro f1 y0 y1 y2 y3 y8 y9 y10 T1 n1 ρ its hS h3
 unfold g158_b1 at h3
 clear h1 h2
 refine CV.seq ?_
 refine sr ?_
 refine mv ?_
 refine vy (V.lt h3 rfl rfl) fun x16_2 h4 => ?_
 refine dn ?_
 refine CV.cond h4 rfl (fun e h5 => ?_) (fun e h5 => ?_)
 ·
  clear h3 h4
  subst e
  refine CV.skip ?_
  refine PV.thenN ?_
  refine CV.seq ?_
  refine CV.block ?_
  refine CV.seq ?_
  refine CV.block ?_
  refine cl7 X 0 1 2 3 8 9 10 [] hS h5 ⟨rfl, rfl, rfl, rfl, rfl, rfl, rfl, trivial⟩ ?_
  intro f2 y0 y1 y2 y3 y8 y9 y10 T2 n2 ρ its hS h6
  unfold g158_b2 at h6
  clear h5
  refine CV.seq ?_
  refine cs8 X 0 1 2 3 8 9 10 36 [] (g158_k3 ro (lpf7 1580006 (g158_b1 ro) f1) (lpf7 1580010 (g158_b2 ro (lpf7 1580006 (g158_b1 ro) f1)) f2)) ?_ ?_
  ·
   refine CV.regionM [(0, .anywhere), (1, .anywhere), (2, .anywhere), (3, .anywhere), (4, .anywhere), (5, .anywhere), (6, .anywhere), (7, .anywhere), (8, .held), (9, .anywhere), (10, .anywhere), (11, .anywhere), (12, .anywhere), (13, .held), (14, .alone), (15, .alone), (16, .alone), (17, .alone)] rfl (fun c a a' w hd hq => PanicOk.root (P := Tryz.prog) (fn := Tryz.f158) (w0 := w0) (base := base) (E := envE) (ro := ro) (r := r) (T' := T') (n' := n') (ρ0 := ρ0) c a a' w hd hq) (by kernel_rfl) ?_
   refine MV.step0 (i := 0) rfl (VAL.move rfl) rfl rfl rfl ?_
   refine MV.step0 (i := 1) rfl (VAL.move rfl) rfl rfl rfl ?_
   refine MV.lift0 (i := 2) rfl (V.lt h6 rfl rfl) rfl rfl rfl fun x21_20 h32 => ?_
   refine MV.step0 (i := 3) rfl (VAL.move rfl) rfl rfl rfl ?_
   rcases condK_inv h32 with ⟨e, h33⟩ | ⟨e, h33⟩
   ·
    clear h6 h32
    subst e
    refine MV.step0 (i := 4) rfl (VAL.move rfl) rfl rfl rfl ?_
    refine MV.step0 (i := 5) rfl (VAL.move rfl) rfl rfl rfl ?_
    refine MV.step0 (i := 6) rfl (VAL.move rfl) rfl rfl rfl ?_
    refine MV.lift0 (i := 7) rfl (V.ia h33 rfl rfl Rnf.el50) rfl rfl rfl fun x26_21 h34 => ?_
    refine MV.lift1 (i := 8) rfl (fun _ z => z) (V.ldA hS h34 rfl Rnf.agg58) rfl rfl rfl [] (by kernel_rfl) fun x27_22 h35 => ?_
    refine MV.step0 (i := 9) rfl (VAL.move rfl) rfl rfl rfl ?_
    refine MV.step0 (i := 10) rfl (VAL.move rfl) rfl rfl rfl ?_
    refine MV.lift0 (i := 11) rfl (V.sub h35 rfl rfl) rfl rfl rfl fun x30_23 h36 => ?_
    refine MV.lift0 (i := 12) rfl (V.ia h36 rfl rfl Rnf.el50) rfl rfl rfl fun x31_24 h37 => ?_
    refine MV.lift1 (i := 13) rfl (fun _ z => z) (V.ldA hS h37 rfl Rnf.agg58) rfl rfl rfl [8] (by kernel_rfl) fun x32_25 h38 => ?_
    refine MV.force (i := 14) rfl ?_
    refine LV.callD (G := fun f gs => scc3 4000 f ro gs T2 n2) (qs := [x27_22, x32_25]) hS h38 (fun f gs => scc3_ok _ _ _ _ _ _) hP rfl rfl rfl rfl rfl rfl rfl fun x33_26 T6 n6 h39 ρ its hS => ?_
    refine LV.nextM [] (by kernel_rfl) (fun z => absurd rfl z) ?_
    refine MV.force (i := 15) rfl ?_
    refine vy (V.lt h39 rfl rfl) fun x34_27 h40 => ?_
    refine LV.nextM [] (by kernel_rfl) (fun z => absurd rfl z) ?_
    refine MV.force (i := 16) rfl ?_
    refine vy (V.not h40 rfl) fun x35_28 h41 => ?_
    refine LV.nextM [] (by kernel_rfl) (fun z => absurd rfl z) ?_
    refine MV.force (i := 17) rfl ?_
    refine pu ?_
    refine LV.nextM [] (by kernel_rfl) (fun z => absurd rfl z) ?_
    refine MV.done ?_
    exact pa8 hS h41 ⟨rfl, rfl, rfl, rfl, rfl, rfl, rfl, rfl, trivial⟩
   ·
    clear h6 h32
    subst e
    refine MV.skip0 (i := 4) rfl rfl rfl rfl ?_
    refine MV.skip0 (i := 5) rfl rfl rfl rfl ?_
    refine MV.skip0 (i := 6) rfl rfl rfl rfl ?_
    refine MV.skip0 (i := 7) rfl rfl rfl rfl ?_
    refine MV.skip1 (i := 8) rfl (fun _ z => z) rfl rfl rfl [] (by kernel_rfl) ?_
    refine MV.skip0 (i := 9) rfl rfl rfl rfl ?_
    refine MV.skip0 (i := 10) rfl rfl rfl rfl ?_
    refine MV.skip0 (i := 11) rfl rfl rfl rfl ?_
    refine MV.skip0 (i := 12) rfl rfl rfl rfl ?_
    refine MV.skip1 (i := 13) rfl (fun _ z => z) rfl rfl rfl [8] (by kernel_rfl) ?_
    refine MV.force (i := 14) rfl ?_
    refine sk ?_
    refine LV.nextM [] (by kernel_rfl) (fun z => absurd rfl z) ?_
    refine MV.force (i := 15) rfl ?_
    refine sk ?_
    refine LV.nextM [] (by kernel_rfl) (fun z => absurd rfl z) ?_
    refine MV.force (i := 16) rfl ?_
    refine sk ?_
    refine LV.nextM [] (by kernel_rfl) (fun z => absurd rfl z) ?_
    refine MV.force (i := 17) rfl ?_
    refine pu ?_
    refine LV.nextM [] (by kernel_rfl) (fun z => absurd rfl z) ?_
    refine MV.done ?_
    exact pa8 hS h33 ⟨rfl, rfl, rfl, rfl, rfl, rfl, rfl, rfl, trivial⟩
  ·
   intro y0 y1 y2 y3 y8 y9 y10 y36 T3 n3 ρ its hS h7
   unfold g158_k3 at h7
   clear h6
   refine CV.cond h7 rfl (fun e h8 => ?_) (fun e h8 => ?_)
   ·
    clear h7
    subst e
    refine CV.skip ?_
    refine PV.thenN ?_
    refine CV.block ?_
    refine CV.region ?_
    refine mv ?_
    refine vy (V.add h8 rfl rfl) fun x38_3 h9 => ?_
    refine as_ ?_
    refine LV.done ?_
    refine PV.blockN ?_
    exact pb7 hS h9 ⟨rfl, rfl, rfl, rfl, rfl, rfl, rfl, trivial⟩
   ·
    clear h7
    subst e
    refine CV.exit ?_
    refine PV.thenE ?_
    refine PV.thenE ?_
    refine PV.blockE ?_
    refine PV.thenN ?_
    refine CV.seq ?_
    refine sr ?_
    refine mv ?_
    refine mv ?_
    refine vy (V.eq h8 rfl rfl) fun x41_4 h10 => ?_
    refine dn ?_
    refine CV.cond h10 rfl (fun e h11 => ?_) (fun e h11 => ?_)
    ·
     clear h8 h10
     subst e
     refine sr ?_
     refine as_ ?_
     refine dn ?_
     refine CV.ret ?_
     refine PV.thenR ?_
     refine PV.blockR ?_
     refine PV.thenR ?_
     refine PV.thenR ?_
     refine PV.blockR ?_
     refine PV.thenR ?_
     cases h11
     exact PV.ret (by simp) Tryz.results158 hS (RS.tmp rfl RS.nil) rfl
    ·
     clear h8 h10
     subst e
     refine CV.skip ?_
     refine PV.thenN ?_
     refine CV.seq ?_
     refine sr ?_
     refine mv ?_
     refine mv ?_
     refine vy (V.sub h11 rfl rfl) fun x44_5 h12 => ?_
     refine vy (V.lt h12 rfl rfl) fun x45_6 h13 => ?_
     refine dn ?_
     refine CV.cond h13 rfl (fun e h14 => ?_) (fun e h14 => ?_)
     ·
      clear h11 h12 h13
      subst e
      cases h14
     ·
      clear h11 h12 h13
      subst e
      refine CV.skip ?_
      refine PV.thenN ?_
      refine CV.seq ?_
      refine CV.regionM [(0, .anywhere), (1, .anywhere), (2, .anywhere), (3, .anywhere), (4, .anywhere), (5, .anywhere), (6, .anywhere), (7, .anywhere), (8, .anywhere), (9, .held), (10, .anywhere), (11, .anywhere), (12, .anywhere), (13, .held), (14, .held), (15, .alone), (16, .alone), (17, .alone)] rfl (fun c a a' w hd hq => PanicOk.root (P := Tryz.prog) (fn := Tryz.f158) (w0 := w0) (base := base) (E := envE) (ro := ro) (r := r) (T' := T') (n' := n') (ρ0 := ρ0) c a a' w hd hq) (by kernel_rfl) ?_
      refine MV.step0 (i := 0) rfl (VAL.move rfl) rfl rfl rfl ?_
      refine MV.step0 (i := 1) rfl (VAL.move rfl) rfl rfl rfl ?_
      refine MV.step0 (i := 2) rfl (VAL.move rfl) rfl rfl rfl ?_
      refine MV.step0 (i := 3) rfl (VAL.move rfl) rfl rfl rfl ?_
      refine MV.lift0 (i := 4) rfl (V.sub h14 rfl rfl) rfl rfl rfl fun x50_7 h15 => ?_
      refine MV.step0 (i := 5) rfl (VAL.move rfl) rfl rfl rfl ?_
      refine MV.step0 (i := 6) rfl (VAL.move rfl) rfl rfl rfl ?_
      refine MV.lift0 (i := 7) rfl (V.sub h15 rfl rfl) rfl rfl rfl fun x53_8 h16 => ?_
      refine MV.lift0 (i := 8) rfl (V.ia h16 rfl rfl Rnf.el50) rfl rfl rfl fun x54_9 h17 => ?_
      refine MV.lift1 (i := 9) rfl (fun _ z => z) (V.ldA hS h17 rfl Rnf.agg58) rfl rfl rfl [] (by kernel_rfl) fun x55_10 h18 => ?_
      refine MV.step0 (i := 10) rfl (VAL.move rfl) rfl rfl rfl ?_
      refine MV.step0 (i := 11) rfl (VAL.move rfl) rfl rfl rfl ?_
      refine MV.lift0 (i := 12) rfl (V.ia h18 rfl rfl Rnf.el50) rfl rfl rfl fun x58_11 h19 => ?_
      refine MV.lift1 (i := 13) rfl (fun _ z => z) (V.ldA hS h19 rfl Rnf.agg58) rfl rfl rfl [9] (by kernel_rfl) fun x59_12 h20 => ?_
      refine MV.lift1 (i := 14) rfl (fun _ z => z) (V.ia h20 rfl rfl Rnf.el50) rfl rfl rfl [] (by kernel_rfl) fun x60_13 h21 => ?_
      refine MV.force (i := 15) rfl ?_
      refine LV.stA hS h21 rfl rfl rfl Rnf.agg58 rfl rfl rfl fun T4 its h22 hS => ?_
      refine LV.nextM [] (by kernel_rfl) (fun z => absurd rfl z) ?_
      refine MV.force (i := 16) rfl ?_
      refine vy (V.ia h22 rfl rfl Rnf.el50) fun x61_14 h23 => ?_
      refine LV.nextM [] (by kernel_rfl) (fun z => absurd rfl z) ?_
      refine MV.force (i := 17) rfl ?_
      refine LV.stA hS h23 rfl rfl rfl Rnf.agg58 rfl rfl rfl fun T5 its h24 hS => ?_
      refine LV.nextM [] (by kernel_rfl) (fun z => absurd rfl z) ?_
      refine mdn ?_
      refine CV.seq ?_
      refine sr ?_
      refine mv ?_
      refine mv ?_
      refine vy (V.sub h24 rfl rfl) fun x64_15 h25 => ?_
      refine vy (V.ge h25 rfl rfl) fun x65_16 h26 => ?_
      refine dn ?_
      refine CV.cond h26 rfl (fun e h27 => ?_) (fun e h27 => ?_)
      ·
       clear h14 h15 h16 h17 h18 h19 h20 h21 h22 h23 h24 h25 h26
       subst e
       cases h27
      ·
       clear h14 h15 h16 h17 h18 h19 h20 h21 h22 h23 h24 h25 h26
       subst e
       refine CV.skip ?_
       refine PV.thenN ?_
       refine sr ?_
       refine mv ?_
       refine mv ?_
       refine vy (V.sub h27 rfl rfl) fun x103_17 h28 => ?_
       refine vy (V.ge h28 rfl rfl) fun x104_18 h29 => ?_
       refine dn ?_
       refine CV.cond h29 rfl (fun e h30 => ?_) (fun e h30 => ?_)
       ·
        clear h27 h28 h29
        subst e
        cases h30
       ·
        clear h27 h28 h29
        subst e
        refine CV.skip ?_
        refine PV.blockN ?_
        refine PV.thenN ?_
        refine CV.region ?_
        refine mv ?_
        refine vy (V.add h30 rfl rfl) fun x18_19 h31 => ?_
        refine as_ ?_
        refine LV.done ?_
        exact pb7 hS h31 ⟨rfl, rfl, rfl, rfl, rfl, rfl, rfl, trivial⟩
 ·
  clear h3 h4
  subst e
  refine CV.exit ?_
  refine PV.thenE ?_
  refine PV.thenE ?_
  refine PV.blockE ?_
  refine PV.thenN ?_
  refine sr ?_
  refine as_ ?_
  refine dn ?_
  refine CV.ret ?_
  cases h5
  exact PV.ret (by simp) Tryz.results158 hS (RS.tmp rfl RS.nil) rfl

end Go.Proofs.YtdepmlcnllofiaaGreatDoor.Rn
