/-
  Proved here: plain functions that do what the program's functions do, each with its proof.
-/
import Derived.Test.YtlljgagoboapaaaGreatDoorVfh
namespace Go.Proofs.YtlljgagoboapaaaGreatDoor.Vf
open Go.EY Go.EX Go.SX Go.RowKit
noncomputable def g51_k1 (ih : FuncId → List HT → List AV → HT → Nat → R) (ro : List HT) (y37 : AV) (T4 : HT) (n4 : Nat) : R :=
 .ok (.val (.tup [y37, (.lit (.nilIface))])) T4 n4
noncomputable def g51 (ih : FuncId → List HT → List AV → HT → Nat → R) (ro : List HT) (a0 a1 a2 a3 : AV) (T : HT) (nx : Nat) : R :=
 callK (g60 ro a0 a3 T nx) fun x18_1 T1 n1 =>
 bin0 Tryz.prog .neq 36 (.tmp 19) (.const (.nilIface)) 510008 x18_1 (.lit (.nilIface)) fun x20_2 =>
 condK 510009 x20_2
 (
  .bad 510010
 )
 (
  callK (ifcK 510012 a1 fun tr xr => Bool.rec (motive := fun _ => R) (Bool.rec (motive := fun _ => R) (Bool.rec (motive := fun _ => R) (Bool.rec (motive := fun _ => R) (Bool.rec (motive := fun _ => R) (Bool.rec (motive := fun _ => R) (.bad 510012) (g314 ro xr T1 n1) (Nat.beq tr 104)) (g313 ro xr T1 n1) (Nat.beq tr 100)) (g312 ro xr T1 n1) (Nat.beq tr 72)) (g311 ro xr T1 n1) (Nat.beq tr 67)) (g310 ro xr T1 n1) (Nat.beq tr 43)) (g308 ro xr T1 n1) (Nat.beq tr 32)) fun x23_3 T2 n2 =>
  callK (ifcK 510014 a2 fun tr xr => Bool.rec (motive := fun _ => R) (Bool.rec (motive := fun _ => R) (Bool.rec (motive := fun _ => R) (Bool.rec (motive := fun _ => R) (Bool.rec (motive := fun _ => R) (Bool.rec (motive := fun _ => R) (.bad 510014) (g314 ro xr T2 n2) (Nat.beq tr 104)) (g313 ro xr T2 n2) (Nat.beq tr 100)) (g312 ro xr T2 n2) (Nat.beq tr 72)) (g311 ro xr T2 n2) (Nat.beq tr 67)) (g310 ro xr T2 n2) (Nat.beq tr 43)) (g308 ro xr T2 n2) (Nat.beq tr 32)) fun x25_4 T3 n3 =>
  neK Tryz.prog 3 (.tmp 23) (.tmp 25) 510015 x23_3 x25_4 fun x26_5 =>
  condK 510016 x26_5
  (
   .ok (.val (.tup [(.lit (.bool false)), (.iface 347 (.opq 3))])) T3 n3
  )
  (
   asK 510021 a1 123 (.tup [.lit (.bool false), .lit (.bool false)]) fun x29_6 =>
   exK 510022 x29_6 1 fun x30_7 =>
   exK 510023 x29_6 0 fun x31_8 =>
   condK 510024 x30_7
   (
    notK 510027 x31_8 fun x33_9 =>
    condK 510031 x33_9
    (
     as1K 510033 a2 123 fun x36_10 =>
     g51_k1 ih ro x36_10 T3 n3
    )
    (
     g51_k1 ih ro (.lit (.bool false)) T3 n3
    )
   )
   (
    asK 510036 a1 67 (.tup [.lit (.agg #[.bool false, .slice none 0 0]), .lit (.bool false)]) fun x38_11 =>
    exK 510037 x38_11 1 fun x39_12 =>
    exK 510038 x38_11 0 fun x40_13 =>
    condK 510039 x39_12
    (
     newK T3 n3 (.obj [.lit (.bool false), .lit (.slice none 0 0)] 67) fun x12_14 T5 n5 =>
     stAK 510041 T5 x12_14 x40_13 2 fun T6 =>
     faK 510042 x12_14 0 fun x41_15 =>
     ldAK 510043 T6 ro x41_15 2 fun x42_16 =>
     as1K 510045 a2 67 fun x44_17 =>
     fdAK 510046 x44_17 0 2 fun x45_18 =>
     callK (g61 ro x42_16 x45_18 T6 n5) fun x46_19 T7 n7 =>
     ltK Tryz.prog 3 (.tmp 46) (.const (.int .i64 (.ofNat 0))) 510048 x46_19 (.lit (.int .i64 (.ofNat 0))) fun x47_20 =>
     .ok (.val (.tup [x47_20, (.lit (.nilIface))])) T7 n7
    )
    (
     asK 510051 a1 104 (.tup [.lit (.string ⟨#[]⟩), .lit (.bool false)]) fun x48_21 =>
     exK 510052 x48_21 1 fun x49_22 =>
     exK 510053 x48_21 0 fun x50_23 =>
     condK 510054 x49_22
     (
      as1K 510058 a2 104 fun x53_24 =>
      bin0 Tryz.prog .lss 104 (.tmp 51) (.tmp 53) 510059 x50_23 x53_24 fun x54_25 =>
      .ok (.val (.tup [x54_25, (.lit (.nilIface))])) T3 n3
     )
     (
      asK 510062 a1 32 (.tup [.lit (.pointer none), .lit (.bool false)]) fun x55_26 =>
      exK 510063 x55_26 1 fun x56_27 =>
      exK 510064 x55_26 0 fun x57_28 =>
      condK 510065 x56_27
      (
       ncK 510069 x57_28 fun x60_29 =>
       faK 510070 x60_29 0 fun x61_30 =>
       ldK 510071 T3 ro x61_30 fun x62_31 =>
       as1K 510073 a2 32 fun x64_32 =>
       ncK 510074 x64_32 fun x65_33 =>
       faK 510075 x65_33 0 fun x66_34 =>
       ldK 510076 T3 ro x66_34 fun x67_35 =>
       callK (ih 91 ro [a0, x62_31, x67_35, a3] T3 n3) fun x69_36 T8 n8 =>
       exK 510079 x69_36 0 fun x70_37 =>
       exK 510080 x69_36 1 fun x71_38 =>
       .ok (.val (.tup [x70_37, x71_38])) T8 n8
      )
      (
       asK 510083 a1 72 (.tup [.lit (.pointer none), .lit (.bool false)]) fun x72_39 =>
       exK 510084 x72_39 1 fun x73_40 =>
       exK 510085 x72_39 0 fun x74_41 =>
       condK 510086 x73_40
       (
        ncK 510090 x74_41 fun x77_42 =>
        faK 510091 x77_42 0 fun x78_43 =>
        ldK 510092 T3 ro x78_43 fun x79_44 =>
        as1K 510094 a2 72 fun x81_45 =>
        ncK 510095 x81_45 fun x82_46 =>
        faK 510096 x82_46 0 fun x83_47 =>
        ldK 510097 T3 ro x83_47 fun x84_48 =>
        callK (ih 91 ro [a0, x79_44, x84_48, a3] T3 n3) fun x86_49 T9 n9 =>
        exK 510100 x86_49 0 fun x87_50 =>
        exK 510101 x86_49 1 fun x88_51 =>
        .ok (.val (.tup [x87_50, x88_51])) T9 n9
       )
       (
        .ok (.val (.tup [(.lit (.bool false)), (.iface 347 (.opq 3))])) T3 n3
       )
      )
     )
    )
   )
  )
 )
theorem g51_ok (ih : FuncId → List HT → List AV → HT → Nat → R) (hI : ∀ f ro args T nx, GOk Tryz.prog envE f args ro T nx (ih f ro args T nx)) (ro : List HT) (a0 a1 a2 a3 : AV) (T : HT) (nx : Nat) : GOk Tryz.prog envE 51 [a0, a1, a2, a3] ro T nx (g51 ih ro a0 a1 a2 a3 T nx) := by
 refine GOk.of_body Tryz.func51 rfl Tryz.ntmps51 (by kernel_rfl) rfl fun r T' n' h1 w0 base ρ0 its hS hP => ?_
 have X : CtxW envE ρ0 ro r T' n' := trivial
 unfold g51 at h1
 refine sr ?_
 refine as_ ?_
 refine as_ ?_
 refine dn ?_
 refine CV.seq ?_
 refine sr ?_
 refine mv ?_
 refine mv ?_
 refine LV.call hS h1 (g60_ok _ _ _ _ _ ) hP rfl rfl rfl rfl fun x18_1 T1 n1 h2 ρ its hS => ?_
 refine as_ ?_
 refine dn ?_
 refine sr ?_
 refine mv ?_
 refine vy (V.bin0 h2 rfl rfl) fun x20_2 h3 => ?_
 refine dn ?_
 refine CV.cond h3 rfl (fun e h4 => ?_) (fun e h4 => ?_)
 ·
  clear h1 h2 h3
  subst e
  cases h4
 ·
  clear h1 h2 h3
  subst e
  refine CV.skip ?_
  refine PV.thenN ?_
  refine CV.seq ?_
  refine sr ?_
  refine mv ?_
  refine LV.inv hS h4 (GMk.ifc fun tr xr _ => GMk.one Vff.inv32_Kind_308 (g308_ok _ _ _ _ ) (GMk.one Vff.inv43_Kind_310 (g310_ok _ _ _ _ ) (GMk.one Vff.inv67_Kind_311 (g311_ok _ _ _ _ ) (GMk.one Vff.inv72_Kind_312 (g312_ok _ _ _ _ ) (GMk.one Vff.inv100_Kind_313 (g313_ok _ _ _ _ ) (GMk.one Vff.inv104_Kind_314 (g314_ok _ _ _ _ ) (GMk.bad))))))) hP rfl rfl rfl rfl rfl rfl rfl fun x23_3 T2 n2 h5 ρ its hS => ?_
  refine mv ?_
  refine LV.inv hS h5 (GMk.ifc fun tr xr _ => GMk.one Vff.inv32_Kind_308 (g308_ok _ _ _ _ ) (GMk.one Vff.inv43_Kind_310 (g310_ok _ _ _ _ ) (GMk.one Vff.inv67_Kind_311 (g311_ok _ _ _ _ ) (GMk.one Vff.inv72_Kind_312 (g312_ok _ _ _ _ ) (GMk.one Vff.inv100_Kind_313 (g313_ok _ _ _ _ ) (GMk.one Vff.inv104_Kind_314 (g314_ok _ _ _ _ ) (GMk.bad))))))) hP rfl rfl rfl rfl rfl rfl rfl fun x25_4 T3 n3 h6 ρ its hS => ?_
  refine vy (V.ne h6 rfl rfl) fun x26_5 h7 => ?_
  refine dn ?_
  refine CV.cond h7 rfl (fun e h8 => ?_) (fun e h8 => ?_)
  ·
   clear h4 h5 h6 h7
   subst e
   refine CV.seq ?_
   refine CV.regionM [(0, .held), (1, .anywhere), (2, .held)] rfl (fun c a a' w hd hq => PanicOk.root (P := Tryz.prog) (fn := Tryz.f51) (w0 := w0) (base := base) (E := envE) (ro := ro) (r := r) (T' := T') (n' := n') (ρ0 := ρ0) c a a' w hd hq) (by kernel_rfl) ?_
   refine MV.step1 (i := 0) rfl (fun _ z => z) (VAL.ldG hS (by rfl) Vff.one36) rfl rfl rfl [] (by kernel_rfl) ?_
   refine MV.step0 (i := 1) rfl (VAL.assign rfl) rfl rfl rfl ?_
   refine MV.step1 (i := 2) rfl (fun _ z => z) (VAL.assign rfl) rfl rfl rfl [] (by kernel_rfl) ?_
   refine mdn ?_
   refine CV.ret ?_
   refine PV.thenR ?_
   cases h8
   exact PV.ret (by simp) Tryz.results51 hS (RS.tmp rfl (RS.tmp rfl RS.nil)) rfl
  ·
   clear h4 h5 h6 h7
   subst e
   refine CV.skip ?_
   refine PV.thenN ?_
   refine CV.seq ?_
   refine sr ?_
   refine mv ?_
   refine dn ?_
   refine CV.block ?_
   refine sr ?_
   refine vy (V.as h8 rfl Vff.ni123 Vff.za123) fun x29_6 h9 => ?_
   refine vy (V.ex h9 rfl) fun x30_7 h10 => ?_
   refine vy (V.ex h10 rfl) fun x31_8 h11 => ?_
   refine dn ?_
   refine CV.cond h11 rfl (fun e h12 => ?_) (fun e h12 => ?_)
   ·
    clear h8 h9 h10 h11
    subst e
    refine sr ?_
    refine as_ ?_
    refine dn ?_
    refine sr ?_
    refine mv ?_
    refine vy (V.not h12 rfl) fun x33_9 h13 => ?_
    refine mv ?_
    refine ls1 X 37 [(8, (.lit (.bool false))), (9, (.lit (.nilIface)))] (g51_k1 ih ro) 3 ?_ ?_
    ·
     rcases condK_inv h13 with ⟨e, h15⟩ | ⟨e, h15⟩
     ·
      clear h12 h13
      subst e
      refine mv ?_
      refine vy (V.as1 h15 rfl Vff.ni123) fun x36_10 h16 => ?_
      refine pu ?_
      exact la1 hS h16 ⟨rfl, rfl, rfl, trivial⟩
     ·
      clear h12 h13
      subst e
      refine sk ?_
      refine sk ?_
      refine pu ?_
      exact la1 hS h15 ⟨rfl, rfl, rfl, trivial⟩
    ·
     intro y37 T4 n4 ρ its hS h14
     unfold g51_k1 at h14
     clear h12 h13
     refine as_ ?_
     refine as_ ?_
     refine dn ?_
     refine CV.ret ?_
     refine PV.blockR ?_
     refine PV.thenR ?_
     cases h14
     exact PV.ret (by simp) Tryz.results51 hS (RS.tmp rfl (RS.tmp rfl RS.nil)) rfl
   ·
    clear h8 h9 h10 h11
    subst e
    refine sr ?_
    refine vy (V.as h12 rfl Vff.ni67 Vff.za67) fun x38_11 h17 => ?_
    refine vy (V.ex h17 rfl) fun x39_12 h18 => ?_
    refine vy (V.ex h18 rfl) fun x40_13 h19 => ?_
    refine dn ?_
    refine CV.cond h19 rfl (fun e h20 => ?_) (fun e h20 => ?_)
    ·
     clear h12 h17 h18 h19
     subst e
     refine sr ?_
     refine LV.alloc hS h20 rfl Vff.zr67 rfl rfl rfl fun x12_14 T5 n5 h21 ρ its hS hdr => ?_
     refine LV.stA hS h21 rfl rfl rfl Vff.agg67 rfl rfl rfl fun T6 its h22 hS => ?_
     refine dn ?_
     refine CV.seq ?_
     refine CV.regionM [(0, .anywhere), (1, .held), (2, .anywhere), (3, .anywhere), (4, .anywhere), (5, .alone), (6, .alone), (7, .alone), (8, .alone)] rfl (fun c a a' w hd hq => PanicOk.root (P := Tryz.prog) (fn := Tryz.f51) (w0 := w0) (base := base) (E := envE) (ro := ro) (r := r) (T' := T') (n' := n') (ρ0 := ρ0) c a a' w hd hq) (by kernel_rfl) ?_
     refine MV.lift0 (i := 0) rfl (V.fa h22 rfl Vff.fo67_1) rfl rfl rfl fun x41_15 h23 => ?_
     refine MV.lift1 (i := 1) rfl (fun _ z => z) (V.ldA hS h23 rfl Vff.agg29) rfl rfl rfl [] (by kernel_rfl) fun x42_16 h24 => ?_
     refine MV.step0 (i := 2) rfl (VAL.move rfl) rfl rfl rfl ?_
     refine MV.lift0 (i := 3) rfl (V.as1 h24 rfl Vff.ni67) rfl rfl rfl fun x44_17 h25 => ?_
     refine MV.lift0 (i := 4) rfl (V.fdA h25 rfl Vff.fda67_1) rfl rfl rfl fun x45_18 h26 => ?_
     refine MV.force (i := 5) rfl ?_
     refine LV.call hS h26 (g61_ok _ _ _ _ _ ) hP rfl rfl rfl rfl fun x46_19 T7 n7 h27 ρ its hS => ?_
     refine LV.nextM [] (by kernel_rfl) (fun z => absurd rfl z) ?_
     refine MV.force (i := 6) rfl ?_
     refine vy (V.lt h27 rfl rfl) fun x47_20 h28 => ?_
     refine LV.nextM [] (by kernel_rfl) (fun z => absurd rfl z) ?_
     refine MV.force (i := 7) rfl ?_
     refine as_ ?_
     refine LV.nextM [] (by kernel_rfl) (fun z => absurd rfl z) ?_
     refine MV.force (i := 8) rfl ?_
     refine as_ ?_
     refine LV.nextM [] (by kernel_rfl) (fun z => absurd rfl z) ?_
     refine mdn ?_
     refine CV.ret ?_
     refine PV.blockR ?_
     refine PV.thenR ?_
     cases h28
     exact PV.ret (by simp) Tryz.results51 hS (RS.tmp rfl (RS.tmp rfl RS.nil)) rfl
    ·
     clear h12 h17 h18 h19
     subst e
     refine sr ?_
     refine vy (V.as h20 rfl Vff.ni104 Vff.za104) fun x48_21 h29 => ?_
     refine vy (V.ex h29 rfl) fun x49_22 h30 => ?_
     refine vy (V.ex h30 rfl) fun x50_23 h31 => ?_
     refine dn ?_
     refine CV.cond h31 rfl (fun e h32 => ?_) (fun e h32 => ?_)
     ·
      clear h20 h29 h30 h31
      subst e
      refine sr ?_
      refine as_ ?_
      refine dn ?_
      refine sr ?_
      refine mv ?_
      refine mv ?_
      refine vy (V.as1 h32 rfl Vff.ni104) fun x53_24 h33 => ?_
      refine vy (V.bin0 h33 rfl rfl) fun x54_25 h34 => ?_
      refine as_ ?_
      refine as_ ?_
      refine dn ?_
      refine CV.ret ?_
      refine PV.blockR ?_
      refine PV.thenR ?_
      cases h34
      exact PV.ret (by simp) Tryz.results51 hS (RS.tmp rfl (RS.tmp rfl RS.nil)) rfl
     ·
      clear h20 h29 h30 h31
      subst e
      refine sr ?_
      refine vy (V.as h32 rfl Vff.ni32 Vff.za32) fun x55_26 h35 => ?_
      refine vy (V.ex h35 rfl) fun x56_27 h36 => ?_
      refine vy (V.ex h36 rfl) fun x57_28 h37 => ?_
      refine dn ?_
      refine CV.cond h37 rfl (fun e h38 => ?_) (fun e h38 => ?_)
      ·
       clear h32 h35 h36 h37
       subst e
       refine sr ?_
       refine as_ ?_
       refine dn ?_
       refine CV.seq ?_
       refine CV.regionM [(0, .anywhere), (1, .anywhere), (2, .anywhere), (3, .anywhere), (4, .held), (5, .anywhere), (6, .anywhere), (7, .anywhere), (8, .anywhere), (9, .held), (10, .anywhere), (11, .alone), (12, .anywhere), (13, .alone), (14, .alone), (15, .alone)] rfl (fun c a a' w hd hq => PanicOk.root (P := Tryz.prog) (fn := Tryz.f51) (w0 := w0) (base := base) (E := envE) (ro := ro) (r := r) (T' := T') (n' := n') (ρ0 := ρ0) c a a' w hd hq) (by kernel_rfl) ?_
       refine MV.step0 (i := 0) rfl (VAL.move rfl) rfl rfl rfl ?_
       refine MV.step0 (i := 1) rfl (VAL.move rfl) rfl rfl rfl ?_
       refine MV.lift0 (i := 2) rfl (V.nc h38 rfl) rfl rfl rfl fun x60_29 h39 => ?_
       refine MV.lift0 (i := 3) rfl (V.fa h39 rfl Vff.fo77_1) rfl rfl rfl fun x61_30 h40 => ?_
       refine MV.lift1 (i := 4) rfl (fun _ z => z) (V.ld hS h40 rfl Vff.one71) rfl rfl rfl [] (by kernel_rfl) fun x62_31 h41 => ?_
       refine MV.step0 (i := 5) rfl (VAL.move rfl) rfl rfl rfl ?_
       refine MV.lift0 (i := 6) rfl (V.as1 h41 rfl Vff.ni32) rfl rfl rfl fun x64_32 h42 => ?_
       refine MV.lift0 (i := 7) rfl (V.nc h42 rfl) rfl rfl rfl fun x65_33 h43 => ?_
       refine MV.lift0 (i := 8) rfl (V.fa h43 rfl Vff.fo77_1) rfl rfl rfl fun x66_34 h44 => ?_
       refine MV.lift1 (i := 9) rfl (fun _ z => z) (V.ld hS h44 rfl Vff.one71) rfl rfl rfl [4] (by kernel_rfl) fun x67_35 h45 => ?_
       refine MV.step0 (i := 10) rfl (VAL.move rfl) rfl rfl rfl ?_
       refine MV.force (i := 11) rfl ?_
       refine LV.call hS h45 (hI _ _ _ _ _) hP rfl rfl rfl rfl fun x69_36 T8 n8 h46 ρ its hS => ?_
       refine LV.nextM [] (by kernel_rfl) (fun z => absurd rfl z) ?_
       refine MV.lift0 (i := 12) rfl (V.ex h46 rfl) rfl rfl rfl fun x70_37 h47 => ?_
       refine MV.force (i := 13) rfl ?_
       refine vy (V.ex h47 rfl) fun x71_38 h48 => ?_
       refine LV.nextM [] (by kernel_rfl) (fun z => absurd rfl z) ?_
       refine MV.force (i := 14) rfl ?_
       refine as_ ?_
       refine LV.nextM [] (by kernel_rfl) (fun z => absurd rfl z) ?_
       refine MV.force (i := 15) rfl ?_
       refine as_ ?_
       refine LV.nextM [] (by kernel_rfl) (fun z => absurd rfl z) ?_
       refine mdn ?_
       refine CV.ret ?_
       refine PV.blockR ?_
       refine PV.thenR ?_
       cases h48
       exact PV.ret (by simp) Tryz.results51 hS (RS.tmp rfl (RS.tmp rfl RS.nil)) rfl
      ·
       clear h32 h35 h36 h37
       subst e
       refine sr ?_
       refine vy (V.as h38 rfl Vff.ni72 Vff.za72) fun x72_39 h49 => ?_
       refine vy (V.ex h49 rfl) fun x73_40 h50 => ?_
       refine vy (V.ex h50 rfl) fun x74_41 h51 => ?_
       refine dn ?_
       refine CV.cond h51 rfl (fun e h52 => ?_) (fun e h52 => ?_)
       ·
        clear h38 h49 h50 h51
        subst e
        refine sr ?_
        refine as_ ?_
        refine dn ?_
        refine CV.seq ?_
        refine CV.regionM [(0, .anywhere), (1, .anywhere), (2, .anywhere), (3, .anywhere), (4, .held), (5, .anywhere), (6, .anywhere), (7, .anywhere), (8, .anywhere), (9, .held), (10, .anywhere), (11, .alone), (12, .anywhere), (13, .alone), (14, .alone), (15, .alone)] rfl (fun c a a' w hd hq => PanicOk.root (P := Tryz.prog) (fn := Tryz.f51) (w0 := w0) (base := base) (E := envE) (ro := ro) (r := r) (T' := T') (n' := n') (ρ0 := ρ0) c a a' w hd hq) (by kernel_rfl) ?_
        refine MV.step0 (i := 0) rfl (VAL.move rfl) rfl rfl rfl ?_
        refine MV.step0 (i := 1) rfl (VAL.move rfl) rfl rfl rfl ?_
        refine MV.lift0 (i := 2) rfl (V.nc h52 rfl) rfl rfl rfl fun x77_42 h53 => ?_
        refine MV.lift0 (i := 3) rfl (V.fa h53 rfl Vff.fo75_1) rfl rfl rfl fun x78_43 h54 => ?_
        refine MV.lift1 (i := 4) rfl (fun _ z => z) (V.ld hS h54 rfl Vff.one71) rfl rfl rfl [] (by kernel_rfl) fun x79_44 h55 => ?_
        refine MV.step0 (i := 5) rfl (VAL.move rfl) rfl rfl rfl ?_
        refine MV.lift0 (i := 6) rfl (V.as1 h55 rfl Vff.ni72) rfl rfl rfl fun x81_45 h56 => ?_
        refine MV.lift0 (i := 7) rfl (V.nc h56 rfl) rfl rfl rfl fun x82_46 h57 => ?_
        refine MV.lift0 (i := 8) rfl (V.fa h57 rfl Vff.fo75_1) rfl rfl rfl fun x83_47 h58 => ?_
        refine MV.lift1 (i := 9) rfl (fun _ z => z) (V.ld hS h58 rfl Vff.one71) rfl rfl rfl [4] (by kernel_rfl) fun x84_48 h59 => ?_
        refine MV.step0 (i := 10) rfl (VAL.move rfl) rfl rfl rfl ?_
        refine MV.force (i := 11) rfl ?_
        refine LV.call hS h59 (hI _ _ _ _ _) hP rfl rfl rfl rfl fun x86_49 T9 n9 h60 ρ its hS => ?_
        refine LV.nextM [] (by kernel_rfl) (fun z => absurd rfl z) ?_
        refine MV.lift0 (i := 12) rfl (V.ex h60 rfl) rfl rfl rfl fun x87_50 h61 => ?_
        refine MV.force (i := 13) rfl ?_
        refine vy (V.ex h61 rfl) fun x88_51 h62 => ?_
        refine LV.nextM [] (by kernel_rfl) (fun z => absurd rfl z) ?_
        refine MV.force (i := 14) rfl ?_
        refine as_ ?_
        refine LV.nextM [] (by kernel_rfl) (fun z => absurd rfl z) ?_
        refine MV.force (i := 15) rfl ?_
        refine as_ ?_
        refine LV.nextM [] (by kernel_rfl) (fun z => absurd rfl z) ?_
        refine mdn ?_
        refine CV.ret ?_
        refine PV.blockR ?_
        refine PV.thenR ?_
        cases h62
        exact PV.ret (by simp) Tryz.results51 hS (RS.tmp rfl (RS.tmp rfl RS.nil)) rfl
       ·
        clear h38 h49 h50 h51
        subst e
        refine CV.skip ?_
        refine PV.blockN ?_
        refine PV.thenN ?_
        refine CV.seq ?_
        refine CV.regionM [(0, .held), (1, .anywhere), (2, .held)] rfl (fun c a a' w hd hq => PanicOk.root (P := Tryz.prog) (fn := Tryz.f51) (w0 := w0) (base := base) (E := envE) (ro := ro) (r := r) (T' := T') (n' := n') (ρ0 := ρ0) c a a' w hd hq) (by kernel_rfl) ?_
        refine MV.step1 (i := 0) rfl (fun _ z => z) (VAL.ldG hS (by rfl) Vff.one36) rfl rfl rfl [] (by kernel_rfl) ?_
        refine MV.step0 (i := 1) rfl (VAL.assign rfl) rfl rfl rfl ?_
        refine MV.step1 (i := 2) rfl (fun _ z => z) (VAL.assign rfl) rfl rfl rfl [] (by kernel_rfl) ?_
        refine mdn ?_
        refine CV.ret ?_
        cases h52
        exact PV.ret (by simp) Tryz.results51 hS (RS.tmp rfl (RS.tmp rfl RS.nil)) rfl
noncomputable def g91_b1 (ih : FuncId → List HT → List AV → HT → Nat → R) (ro : List HT) (lp1 : AV → AV → AV → AV → AV → AV → AV → AV → HT → Nat → R) (y0 y1 y2 y3 y8 y9 y18 y19 : AV) (T1 : HT) (n1 : Nat) : R :=
 ltK Tryz.prog 3 (.tmp 19) (.tmp 18) 910010 y19 y18 fun x20_4 =>
 condK 910011 x20_4
 (
  iaK 910017 y1 y19 1 fun x26_5 =>
  ldK 910018 T1 ro x26_5 fun x27_6 =>
  iaK 910021 y2 y19 1 fun x30_7 =>
  ldK 910022 T1 ro x30_7 fun x31_8 =>
  addK Tryz.prog 3 (.tmp 32) (.const (.int .i64 (.ofNat 1))) 910024 y3 (.lit (.int .i64 (.ofNat 1))) fun x33_9 =>
  callK (scc6 4000 34 ro [y0, x27_6, x31_8, x33_9] T1 n1) fun x34_10 T2 n2 =>
  exK 910027 x34_10 0 fun x35_11 =>
  exK 910028 x34_10 1 fun x36_12 =>
  bin0 Tryz.prog .neq 36 (.tmp 37) (.const (.nilIface)) 910032 x36_12 (.lit (.nilIface)) fun x38_13 =>
  condK 910033 x38_13
  (
   .bad 910034
  )
  (
   notK 910036 x35_11 fun x41_14 =>
   condK 910037 x41_14
   (
    iaK 910041 y1 y19 1 fun x45_15 =>
    ldK 910042 T2 ro x45_15 fun x46_16 =>
    iaK 910045 y2 y19 1 fun x49_17 =>
    ldK 910046 T2 ro x49_17 fun x50_18 =>
    addK Tryz.prog 3 (.tmp 51) (.const (.int .i64 (.ofNat 1))) 910048 y3 (.lit (.int .i64 (.ofNat 1))) fun x52_19 =>
    callK (ih 51 ro [y0, x46_16, x50_18, x52_19] T2 n2) fun x53_20 T3 n3 =>
    exK 910050 x53_20 0 fun x54_21 =>
    exK 910051 x53_20 1 fun x55_22 =>
    .ok (.val (.tup [x54_21, x55_22])) T3 n3
   )
   (
    addK Tryz.prog 3 (.tmp 19) (.const (.int .i64 (.ofNat 1))) 910054 y19 (.lit (.int .i64 (.ofNat 1))) fun x56_23 =>
    lp1 y0 y1 y2 y3 y8 y9 y18 x56_23 T2 n2
   )
  )
 )
 (
  lenSK 910057 y1 fun x58_24 =>
  lenSK 910059 y2 fun x60_25 =>
  optK 910060 (mmV x58_24 x60_25 false) fun x61_26 =>
  callK (g95 ro x61_26 y3 T1 n1) fun x63_27 T4 n4 =>
  bin0 Tryz.prog .neq 36 (.tmp 64) (.const (.nilIface)) 910065 x63_27 (.lit (.nilIface)) fun x65_28 =>
  condK 910066 x65_28
  (
   .bad 910067
  )
  (
   lenSK 910069 y1 fun x68_29 =>
   lenSK 910071 y2 fun x70_30 =>
   ltK Tryz.prog 3 (.tmp 68) (.tmp 70) 910072 x68_29 x70_30 fun x71_31 =>
   .ok (.val (.tup [x71_31, (.lit (.nilIface))])) T4 n4
  )
 )
noncomputable def g91 (ih : FuncId → List HT → List AV → HT → Nat → R) (ro : List HT) (a0 a1 a2 a3 : AV) (T : HT) (nx : Nat) : R :=
 lenSK 910004 a1 fun x15_1 =>
 lenSK 910006 a2 fun x17_2 =>
 optK 910007 (mmV x15_1 x17_2 false) fun x18_3 =>
 lpf8 910009 (g91_b1 ih ro) 100000 a0 a1 a2 a3 (.lit (.bool false)) (.lit (.nilIface)) x18_3 (.lit (.int .i64 (.ofNat 0))) T nx
theorem g91_ok (ih : FuncId → List HT → List AV → HT → Nat → R) (hI : ∀ f ro args T nx, GOk Tryz.prog envE f args ro T nx (ih f ro args T nx)) (ro : List HT) (a0 a1 a2 a3 : AV) (T : HT) (nx : Nat) : GOk Tryz.prog envE 91 [a0, a1, a2, a3] ro T nx (g91 ih ro a0 a1 a2 a3 T nx) := by
 refine GOk.of_body Tryz.func91 rfl Tryz.ntmps91 (by kernel_rfl) rfl fun r T' n' h1 w0 base ρ0 its hS hP => ?_
 have X : CtxW envE ρ0 ro r T' n' := trivial
 unfold g91 at h1
 refine sr ?_
 refine as_ ?_
 refine as_ ?_
 refine dn ?_
 refine CV.seq ?_
 refine sr ?_
 refine mv ?_
 refine vy (V.lenS h1 rfl Vff.ls71) fun x15_1 h2 => ?_
 refine mv ?_
 refine vy (V.lenS h2 rfl Vff.ls71) fun x17_2 h3 => ?_
 refine vy (V.min h3 rfl rfl) fun x18_3 h4 => ?_
 refine mv ?_
 refine dn ?_
 refine CV.block ?_
 refine cl8 X 0 1 2 3 8 9 18 19 [] hS h4 ⟨rfl, rfl, rfl, rfl, rfl, rfl, rfl, rfl, trivial⟩ ?_
 intro f1 y0 y1 y2 y3 y8 y9 y18 y19 T1 n1 ρ its hS h5
 unfold g91_b1 at h5
 clear h1 h2 h3 h4
 refine sr ?_
 refine vy (V.lt h5 rfl rfl) fun x20_4 h6 => ?_
 refine dn ?_
 refine CV.seq ?_
 refine CV.cond h6 rfl (fun e h7 => ?_) (fun e h7 => ?_)
 ·
  clear h5 h6
  subst e
  refine CV.skip ?_
  refine PV.thenN ?_
  refine CV.seq ?_
  refine CV.block ?_
  refine sr ?_
  refine mv ?_
  refine as_ ?_
  refine dn ?_
  refine CV.seq ?_
  refine CV.regionM [(0, .anywhere), (1, .anywhere), (2, .anywhere), (3, .anywhere), (4, .held), (5, .anywhere), (6, .anywhere), (7, .anywhere), (8, .held), (9, .anywhere), (10, .anywhere), (11, .alone), (12, .alone), (13, .anywhere), (14, .anywhere), (15, .alone), (16, .alone)] rfl (fun c a a' w hd hq => PanicOk.root (P := Tryz.prog) (fn := Tryz.f91) (w0 := w0) (base := base) (E := envE) (ro := ro) (r := r) (T' := T') (n' := n') (ρ0 := ρ0) c a a' w hd hq) (by kernel_rfl) ?_
  refine MV.step0 (i := 0) rfl (VAL.move rfl) rfl rfl rfl ?_
  refine MV.step0 (i := 1) rfl (VAL.move rfl) rfl rfl rfl ?_
  refine MV.step0 (i := 2) rfl (VAL.move rfl) rfl rfl rfl ?_
  refine MV.lift0 (i := 3) rfl (V.ia h7 rfl rfl Vff.el71) rfl rfl rfl fun x26_5 h8 => ?_
  refine MV.lift1 (i := 4) rfl (fun _ z => z) (V.ld hS h8 rfl Vff.one25) rfl rfl rfl [] (by kernel_rfl) fun x27_6 h9 => ?_
  refine MV.step0 (i := 5) rfl (VAL.move rfl) rfl rfl rfl ?_
  refine MV.step0 (i := 6) rfl (VAL.move rfl) rfl rfl rfl ?_
  refine MV.lift0 (i := 7) rfl (V.ia h9 rfl rfl Vff.el71) rfl rfl rfl fun x30_7 h10 => ?_
  refine MV.lift1 (i := 8) rfl (fun _ z => z) (V.ld hS h10 rfl Vff.one25) rfl rfl rfl [4] (by kernel_rfl) fun x31_8 h11 => ?_
  refine MV.step0 (i := 9) rfl (VAL.move rfl) rfl rfl rfl ?_
  refine MV.lift0 (i := 10) rfl (V.add h11 rfl rfl) rfl rfl rfl fun x33_9 h12 => ?_
  refine MV.force (i := 11) rfl ?_
  refine LV.call hS h12 (scc6_ok _ _ _ _ _ _) hP rfl rfl rfl rfl fun x34_10 T2 n2 h13 ρ its hS => ?_
  refine LV.nextM [] (by kernel_rfl) (fun z => absurd rfl z) ?_
  refine MV.force (i := 12) rfl ?_
  refine mv ?_
  refine LV.nextM [] (by kernel_rfl) (fun z => absurd rfl z) ?_
  refine MV.lift0 (i := 13) rfl (V.ex h13 rfl) rfl rfl rfl fun x35_11 h14 => ?_
  refine MV.lift0 (i := 14) rfl (V.ex h14 rfl) rfl rfl rfl fun x36_12 h15 => ?_
  refine MV.force (i := 15) rfl ?_
  refine as_ ?_
  refine LV.nextM [] (by kernel_rfl) (fun z => absurd rfl z) ?_
  refine MV.force (i := 16) rfl ?_
  refine as_ ?_
  refine LV.nextM [] (by kernel_rfl) (fun z => absurd rfl z) ?_
  refine mdn ?_
  refine CV.seq ?_
  refine sr ?_
  refine mv ?_
  refine vy (V.bin0 h15 rfl rfl) fun x38_13 h16 => ?_
  refine dn ?_
  refine CV.cond h16 rfl (fun e h17 => ?_) (fun e h17 => ?_)
  ·
   clear h7 h8 h9 h10 h11 h12 h13 h14 h15 h16
   subst e
   cases h17
  ·
   clear h7 h8 h9 h10 h11 h12 h13 h14 h15 h16
   subst e
   refine CV.skip ?_
   refine PV.thenN ?_
   refine sr ?_
   refine mv ?_
   refine vy (V.not h17 rfl) fun x41_14 h18 => ?_
   refine dn ?_
   refine CV.cond h18 rfl (fun e h19 => ?_) (fun e h19 => ?_)
   ·
    clear h17 h18
    subst e
    refine CV.seq ?_
    refine CV.regionM [(0, .anywhere), (1, .anywhere), (2, .anywhere), (3, .anywhere), (4, .held), (5, .anywhere), (6, .anywhere), (7, .anywhere), (8, .held), (9, .anywhere), (10, .anywhere), (11, .alone), (12, .anywhere), (13, .alone), (14, .alone), (15, .alone)] rfl (fun c a a' w hd hq => PanicOk.root (P := Tryz.prog) (fn := Tryz.f91) (w0 := w0) (base := base) (E := envE) (ro := ro) (r := r) (T' := T') (n' := n') (ρ0 := ρ0) c a a' w hd hq) (by kernel_rfl) ?_
    refine MV.step0 (i := 0) rfl (VAL.move rfl) rfl rfl rfl ?_
    refine MV.step0 (i := 1) rfl (VAL.move rfl) rfl rfl rfl ?_
    refine MV.step0 (i := 2) rfl (VAL.move rfl) rfl rfl rfl ?_
    refine MV.lift0 (i := 3) rfl (V.ia h19 rfl rfl Vff.el71) rfl rfl rfl fun x45_15 h20 => ?_
    refine MV.lift1 (i := 4) rfl (fun _ z => z) (V.ld hS h20 rfl Vff.one25) rfl rfl rfl [] (by kernel_rfl) fun x46_16 h21 => ?_
    refine MV.step0 (i := 5) rfl (VAL.move rfl) rfl rfl rfl ?_
    refine MV.step0 (i := 6) rfl (VAL.move rfl) rfl rfl rfl ?_
    refine MV.lift0 (i := 7) rfl (V.ia h21 rfl rfl Vff.el71) rfl rfl rfl fun x49_17 h22 => ?_
    refine MV.lift1 (i := 8) rfl (fun _ z => z) (V.ld hS h22 rfl Vff.one25) rfl rfl rfl [4] (by kernel_rfl) fun x50_18 h23 => ?_
    refine MV.step0 (i := 9) rfl (VAL.move rfl) rfl rfl rfl ?_
    refine MV.lift0 (i := 10) rfl (V.add h23 rfl rfl) rfl rfl rfl fun x52_19 h24 => ?_
    refine MV.force (i := 11) rfl ?_
    refine LV.call hS h24 (hI _ _ _ _ _) hP rfl rfl rfl rfl fun x53_20 T3 n3 h25 ρ its hS => ?_
    refine LV.nextM [] (by kernel_rfl) (fun z => absurd rfl z) ?_
    refine MV.lift0 (i := 12) rfl (V.ex h25 rfl) rfl rfl rfl fun x54_21 h26 => ?_
    refine MV.force (i := 13) rfl ?_
    refine vy (V.ex h26 rfl) fun x55_22 h27 => ?_
    refine LV.nextM [] (by kernel_rfl) (fun z => absurd rfl z) ?_
    refine MV.force (i := 14) rfl ?_
    refine as_ ?_
    refine LV.nextM [] (by kernel_rfl) (fun z => absurd rfl z) ?_
    refine MV.force (i := 15) rfl ?_
    refine as_ ?_
    refine LV.nextM [] (by kernel_rfl) (fun z => absurd rfl z) ?_
    refine mdn ?_
    refine CV.ret ?_
    refine PV.blockR ?_
    refine PV.thenR ?_
    refine PV.thenR ?_
    refine PV.blockR ?_
    refine PV.thenR ?_
    cases h27
    exact PV.ret (by simp) Tryz.results91 hS (RS.tmp rfl (RS.tmp rfl RS.nil)) rfl
   ·
    clear h17 h18
    subst e
    refine CV.skip ?_
    refine PV.blockN ?_
    refine PV.thenN ?_
    refine CV.region ?_
    refine vy (V.add h19 rfl rfl) fun x56_23 h28 => ?_
    refine mv ?_
    refine LV.done ?_
    exact pb8 hS h28 ⟨rfl, rfl, rfl, rfl, rfl, rfl, rfl, rfl, trivial⟩
 ·
  clear h5 h6
  subst e
  refine CV.exit ?_
  refine PV.thenE ?_
  refine PV.thenE ?_
  refine PV.blockE ?_
  refine PV.thenN ?_
  refine CV.seq ?_
  refine sr ?_
  refine mv ?_
  refine vy (V.lenS h7 rfl Vff.ls71) fun x58_24 h29 => ?_
  refine mv ?_
  refine vy (V.lenS h29 rfl Vff.ls71) fun x60_25 h30 => ?_
  refine vy (V.min h30 rfl rfl) fun x61_26 h31 => ?_
  refine mv ?_
  refine LV.call hS h31 (g95_ok _ _ _ _ _ ) hP rfl rfl rfl rfl fun x63_27 T4 n4 h32 ρ its hS => ?_
  refine as_ ?_
  refine dn ?_
  refine sr ?_
  refine mv ?_
  refine vy (V.bin0 h32 rfl rfl) fun x65_28 h33 => ?_
  refine dn ?_
  refine CV.cond h33 rfl (fun e h34 => ?_) (fun e h34 => ?_)
  ·
   clear h7 h29 h30 h31 h32 h33
   subst e
   cases h34
  ·
   clear h7 h29 h30 h31 h32 h33
   subst e
   refine CV.skip ?_
   refine PV.thenN ?_
   refine sr ?_
   refine mv ?_
   refine vy (V.lenS h34 rfl Vff.ls71) fun x68_29 h35 => ?_
   refine mv ?_
   refine vy (V.lenS h35 rfl Vff.ls71) fun x70_30 h36 => ?_
   refine vy (V.lt h36 rfl rfl) fun x71_31 h37 => ?_
   refine as_ ?_
   refine as_ ?_
   refine dn ?_
   refine CV.ret ?_
   cases h37
   exact PV.ret (by simp) Tryz.results91 hS (RS.tmp rfl (RS.tmp rfl RS.nil)) rfl
noncomputable def ap7 (ih : FuncId → List HT → List AV → HT → Nat → R) (f : FuncId) (ro : List HT) (args : List AV) (T : HT) (nx : Nat) : R :=
  Bool.rec (motive := fun _ => R) (Bool.rec (motive := fun _ => R) (.bad 2) (List.rec (motive := fun _ => R) (.bad 1) (fun a0 l0 _ => List.rec (motive := fun _ => R) (.bad 1) (fun a1 l1 _ => List.rec (motive := fun _ => R) (.bad 1) (fun a2 l2 _ => List.rec (motive := fun _ => R) (.bad 1) (fun a3 l3 _ => List.rec (motive := fun _ => R) (g91 ih ro a0 a1 a2 a3 T nx) (fun _ _ _ => .bad 1) l3) l2) l1) l0) args) (Nat.beq f 91)) (Bool.rec (motive := fun _ => R) (.bad 2) (List.rec (motive := fun _ => R) (.bad 1) (fun a0 l0 _ => List.rec (motive := fun _ => R) (.bad 1) (fun a1 l1 _ => List.rec (motive := fun _ => R) (.bad 1) (fun a2 l2 _ => List.rec (motive := fun _ => R) (.bad 1) (fun a3 l3 _ => List.rec (motive := fun _ => R) (g51 ih ro a0 a1 a2 a3 T nx) (fun _ _ _ => .bad 1) l3) l2) l1) l0) args) (Nat.beq f 51)) (Nat.ble f 51)
noncomputable def scc7 (fuel : Nat) : FuncId → List HT → List AV → HT → Nat → R :=
  Nat.rec (motive := fun _ => FuncId → List HT → List AV → HT → Nat → R) (fun _ _ _ _ _ => .bad 3) (fun _ ih => ap7 ih) fuel
theorem ap7_ok (ih : FuncId → List HT → List AV → HT → Nat → R) (hI : ∀ f ro args T nx, GOk Tryz.prog envE f args ro T nx (ih f ro args T nx)) (f : FuncId) (ro : List HT) (args : List AV) (T : HT) (nx : Nat) : GOk Tryz.prog envE f args ro T nx (ap7 ih f ro args T nx) := by
  unfold ap7
  refine recb_go (fun hb => ?_) (fun _ => ?_)
  · refine recb_go (fun hb => ?_) (fun _ => ?_)
    · obtain rfl := beqT hb
      rcases args with _ | ⟨a0, l0⟩
      · exact GOk.bad
      rcases l0 with _ | ⟨a1, l1⟩
      · exact GOk.bad
      rcases l1 with _ | ⟨a2, l2⟩
      · exact GOk.bad
      rcases l2 with _ | ⟨a3, l3⟩
      · exact GOk.bad
      rcases l3 with _ | ⟨_, _⟩
      · exact g51_ok _ hI _ _ _ _ _ _ _ 
      · exact GOk.bad
    · exact GOk.bad
  · refine recb_go (fun hb => ?_) (fun _ => ?_)
    · obtain rfl := beqT hb
      rcases args with _ | ⟨a0, l0⟩
      · exact GOk.bad
      rcases l0 with _ | ⟨a1, l1⟩
      · exact GOk.bad
      rcases l1 with _ | ⟨a2, l2⟩
      · exact GOk.bad
      rcases l2 with _ | ⟨a3, l3⟩
      · exact GOk.bad
      rcases l3 with _ | ⟨_, _⟩
      · exact g91_ok _ hI _ _ _ _ _ _ _ 
      · exact GOk.bad
    · exact GOk.bad
theorem scc7_ok : ∀ (fuel : Nat) (f : FuncId) (ro : List HT) (args : List AV) (T : HT) (nx : Nat), GOk Tryz.prog envE f args ro T nx (scc7 fuel f ro args T nx)
  | 0, _, _, _, _, _ => GOk.bad
  | fuel + 1, f, ro, args, T, nx => ap7_ok (scc7 fuel) (scc7_ok fuel) f ro args T nx
noncomputable def g30 (ro : List HT) (a0 a1 : AV) (T : HT) (nx : Nat) : R :=
 optK 300003 (bld85 [(0, (.lit (.int .i64 (.ofNat 4096))))]) fun x7_1 =>
 boxK 300004 T nx x7_1 85 fun x8_2 T1 n1 =>
 callK (scc7 4000 51 ro [x8_2, a0, a1, (.lit (.int .i64 (.ofNat 0)))] T1 n1) fun x12_3 T2 n2 =>
 exK 300010 x12_3 0 fun x13_4 =>
 exK 300011 x12_3 1 fun x14_5 =>
 .ok (.val (.tup [x13_4, x14_5])) T2 n2
theorem g30_ok (ro : List HT) (a0 a1 : AV) (T : HT) (nx : Nat) : GOk Tryz.prog envE 30 [a0, a1] ro T nx (g30 ro a0 a1 T nx) := by
 refine GOk.of_body Tryz.func30 rfl Tryz.ntmps30 (by kernel_rfl) rfl fun r T' n' h1 w0 base ρ0 its hS hP => ?_
 have X : CtxW envE ρ0 ro r T' n' := trivial
 unfold g30 at h1
 refine sr ?_
 refine as_ ?_
 refine as_ ?_
 refine dn ?_
 refine sr ?_
 refine vy (V.bld h1 rfl) fun x7_1 h2 => ?_
 refine LV.box hS h2 rfl rfl rfl rfl rfl fun x8_2 T1 n1 h3 ρ its hS hdr => ?_
 refine as_ ?_
 refine dn ?_
 refine sr ?_
 refine mv ?_
 refine mv ?_
 refine mv ?_
 refine LV.call hS h3 (scc7_ok _ _ _ _ _ _) hP rfl rfl rfl rfl fun x12_3 T2 n2 h4 ρ its hS => ?_
 refine vy (V.ex h4 rfl) fun x13_4 h5 => ?_
 refine vy (V.ex h5 rfl) fun x14_5 h6 => ?_
 refine as_ ?_
 refine as_ ?_
 refine dn ?_
 refine CV.ret ?_
 cases h6
 exact PV.ret (by simp) Tryz.results30 hS (RS.tmp rfl (RS.tmp rfl RS.nil)) rfl
noncomputable def g6_k5 (ro : List HT) (y59 : AV) (T14 : HT) (n14 : Nat) : R :=
 .ok (.val y59) T14 n14
noncomputable def g6_k4 (ro : List HT) (y10 y55 : AV) (T13 : HT) (n13 : Nat) : R :=
 condK 60050 y55
 (
  callK (g15 ro y10 (.lit (.int .i64 (.ofNat 104))) T13 n13) fun x58_22 T15 n15 =>
  g6_k5 ro x58_22 T15 n15
 )
 (
  g6_k5 ro (.lit (.bool false)) T13 n13
 )
noncomputable def g6_k3 (ro : List HT) (y8 y10 y51 : AV) (T12 : HT) (n12 : Nat) : R :=
 condK 60055 y51
 (
  bin0 Tryz.prog .eql 36 (.tmp 53) (.const (.nilIface)) 60057 y8 (.lit (.nilIface)) fun x54_23 =>
  g6_k4 ro y10 x54_23 T12 n12
 )
 (
  g6_k4 ro y10 (.lit (.bool false)) T12 n12
 )
noncomputable def g6_k2 (ro : List HT) (y1 y3 y5 y32 : AV) (T5 : HT) (n5 : Nat) : R :=
 condK 60024 y32
 (
  .bad 60025
 )
 (
  callK (g30 ro y3 y5 T5 n5) fun x36_11 T6 n6 =>
  exK 60030 x36_11 0 fun x37_12 =>
  exK 60031 x36_11 1 fun x38_13 =>
  callK (g9 ro (.lit (.int .i64 (.ofNat 1))) T6 n6) fun x40_14 T7 n7 =>
  callK (g8 ro x40_14 T7 n7) fun x41_15 T8 n8 =>
  callK (g19 ro (.lit (.string ⟨⟨[97]⟩⟩)) T8 n8) fun x42_16 T9 n9 =>
  callK (g30 ro x41_15 x42_16 T9 n9) fun x43_17 T10 n10 =>
  exK 60039 x43_17 0 fun x44_18 =>
  exK 60040 x43_17 1 fun x45_19 =>
  callK (g12 ro y1 T10 n10) fun x47_20 T11 n11 =>
  eqSK Tryz.prog 9 (.tmp 47) (.const (.string ⟨⟨[123, 34, 97, 34, 58, 32, 91, 49, 44, 32, 40, 50, 44, 41, 93, 125]⟩⟩)) 60045 x47_20 (.lit (.string ⟨⟨[123, 34, 97, 34, 58, 32, 91, 49, 44, 32, 40, 50, 44, 41, 93, 125]⟩⟩)) fun x48_21 =>
  condK 60060 x48_21
  (
   g6_k3 ro x38_13 x45_19 x37_12 T11 n11
  )
  (
   g6_k3 ro x38_13 x45_19 (.lit (.bool false)) T11 n11
  )
 )
noncomputable def g6_k1 (ro : List HT) (y1 y3 y5 y6 y28 : AV) (T4 : HT) (n4 : Nat) : R :=
 condK 60064 y28
 (
  g6_k2 ro y1 y3 y5 (.lit (.bool true)) T4 n4
 )
 (
  notK 60067 y6 fun x31_24 =>
  g6_k2 ro y1 y3 y5 x31_24 T4 n4
 )
noncomputable def g6 (ro : List HT) (T : HT) (nx : Nat) : R :=
 callK (g29 ro (.lit (.string ⟨⟨[123, 34, 97, 34, 58, 32, 91, 49, 44, 32, 40, 50, 44, 41, 93, 125]⟩⟩)) T nx) fun x12_1 T1 n1 =>
 exK 60004 x12_1 0 fun x13_2 =>
 exK 60005 x12_1 1 fun x14_3 =>
 callK (g29 ro (.lit (.string ⟨⟨[40, 49, 44, 32, 50, 41]⟩⟩)) T1 n1) fun x16_4 T2 n2 =>
 exK 60010 x16_4 0 fun x17_5 =>
 exK 60011 x16_4 1 fun x18_6 =>
 callK (g29 ro (.lit (.string ⟨⟨[40, 49, 44, 32, 51, 41]⟩⟩)) T2 n2) fun x20_7 T3 n3 =>
 exK 60016 x20_7 0 fun x21_8 =>
 exK 60017 x20_7 1 fun x22_9 =>
 notK 60021 x14_3 fun x24_10 =>
 condK 60069 x24_10
 (
  g6_k1 ro x13_2 x17_5 x21_8 x22_9 (.lit (.bool true)) T3 n3
 )
 (
  notK 60072 x18_6 fun x27_25 =>
  g6_k1 ro x13_2 x17_5 x21_8 x22_9 x27_25 T3 n3
 )
theorem g6_ok (ro : List HT) (T : HT) (nx : Nat) : GOk Tryz.prog envE 6 [] ro T nx (g6 ro T nx) := by
 refine GOk.of_body Tryz.func6 rfl Tryz.ntmps6 (by kernel_rfl) rfl fun r T' n' h1 w0 base ρ0 its hS hP => ?_
 have X : CtxW envE ρ0 ro r T' n' := trivial
 unfold g6 at h1
 refine sr ?_
 refine as_ ?_
 refine dn ?_
 refine sr ?_
 refine LV.call hS h1 (g29_ok _ _ _ _ ) hP rfl rfl rfl rfl fun x12_1 T1 n1 h2 ρ its hS => ?_
 refine mv ?_
 refine vy (V.ex h2 rfl) fun x13_2 h3 => ?_
 refine vy (V.ex h3 rfl) fun x14_3 h4 => ?_
 refine as_ ?_
 refine as_ ?_
 refine dn ?_
 refine sr ?_
 refine LV.call hS h4 (g29_ok _ _ _ _ ) hP rfl rfl rfl rfl fun x16_4 T2 n2 h5 ρ its hS => ?_
 refine mv ?_
 refine vy (V.ex h5 rfl) fun x17_5 h6 => ?_
 refine vy (V.ex h6 rfl) fun x18_6 h7 => ?_
 refine as_ ?_
 refine as_ ?_
 refine dn ?_
 refine sr ?_
 refine LV.call hS h7 (g29_ok _ _ _ _ ) hP rfl rfl rfl rfl fun x20_7 T3 n3 h8 ρ its hS => ?_
 refine mv ?_
 refine vy (V.ex h8 rfl) fun x21_8 h9 => ?_
 refine vy (V.ex h9 rfl) fun x22_9 h10 => ?_
 refine as_ ?_
 refine as_ ?_
 refine dn ?_
 refine CV.seq ?_
 refine sr ?_
 refine mv ?_
 refine vy (V.not h10 rfl) fun x24_10 h11 => ?_
 refine mv ?_
 refine ls5 X 1 3 5 6 28 [(0, (.lit (.bool false)))] (g6_k1 ro) 3 ?_ ?_
 ·
  rcases condK_inv h11 with ⟨e, h36⟩ | ⟨e, h36⟩
  ·
   clear h1 h2 h3 h4 h5 h6 h7 h8 h9 h10 h11
   subst e
   refine sk ?_
   refine sk ?_
   refine pu ?_
   exact la5 hS h36 ⟨rfl, rfl, rfl, rfl, rfl, rfl, trivial⟩
  ·
   clear h1 h2 h3 h4 h5 h6 h7 h8 h9 h10 h11
   subst e
   refine mv ?_
   refine vy (V.not h36 rfl) fun x27_25 h37 => ?_
   refine pu ?_
   exact la5 hS h37 ⟨rfl, rfl, rfl, rfl, rfl, rfl, trivial⟩
 ·
  intro y1 y3 y5 y6 y28 T4 n4 ρ its hS h12
  unfold g6_k1 at h12
  clear h1 h2 h3 h4 h5 h6 h7 h8 h9 h10 h11
  refine mv ?_
  refine ls4 X 1 3 5 32 [(0, (.lit (.bool false)))] (g6_k2 ro) 3 ?_ ?_
  ·
   rcases condK_inv h12 with ⟨e, h34⟩ | ⟨e, h34⟩
   ·
    clear h12
    subst e
    refine sk ?_
    refine sk ?_
    refine pu ?_
    exact la4 hS h34 ⟨rfl, rfl, rfl, rfl, rfl, trivial⟩
   ·
    clear h12
    subst e
    refine mv ?_
    refine vy (V.not h34 rfl) fun x31_24 h35 => ?_
    refine pu ?_
    exact la4 hS h35 ⟨rfl, rfl, rfl, rfl, rfl, trivial⟩
  ·
   intro y1 y3 y5 y32 T5 n5 ρ its hS h13
   unfold g6_k2 at h13
   clear h12
   refine dn ?_
   refine CV.cond h13 rfl (fun e h14 => ?_) (fun e h14 => ?_)
   ·
    clear h13
    subst e
    cases h14
   ·
    clear h13
    subst e
    refine CV.skip ?_
    refine PV.thenN ?_
    refine sr ?_
    refine mv ?_
    refine mv ?_
    refine LV.call hS h14 (g30_ok _ _ _ _ _ ) hP rfl rfl rfl rfl fun x36_11 T6 n6 h15 ρ its hS => ?_
    refine mv ?_
    refine vy (V.ex h15 rfl) fun x37_12 h16 => ?_
    refine vy (V.ex h16 rfl) fun x38_13 h17 => ?_
    refine as_ ?_
    refine as_ ?_
    refine dn ?_
    refine sr ?_
    refine LV.call hS h17 (g9_ok _ _ _ _ ) hP rfl rfl rfl rfl fun x40_14 T7 n7 h18 ρ its hS => ?_
    refine LV.call hS h18 (g8_ok _ _ _ _ ) hP rfl rfl rfl rfl fun x41_15 T8 n8 h19 ρ its hS => ?_
    refine LV.call hS h19 (g19_ok _ _ _ _ ) hP rfl rfl rfl rfl fun x42_16 T9 n9 h20 ρ its hS => ?_
    refine LV.call hS h20 (g30_ok _ _ _ _ _ ) hP rfl rfl rfl rfl fun x43_17 T10 n10 h21 ρ its hS => ?_
    refine mv ?_
    refine vy (V.ex h21 rfl) fun x44_18 h22 => ?_
    refine vy (V.ex h22 rfl) fun x45_19 h23 => ?_
    refine as_ ?_
    refine as_ ?_
    refine dn ?_
    refine sr ?_
    refine mv ?_
    refine LV.call hS h23 (g12_ok _ _ _ _ ) hP rfl rfl rfl rfl fun x47_20 T11 n11 h24 ρ its hS => ?_
    refine vy (V.eqS h24 rfl rfl) fun x48_21 h25 => ?_
    refine mv ?_
    refine ls3 X 8 10 51 [(0, (.lit (.bool false)))] (g6_k3 ro) 2 ?_ ?_
    ·
     rcases condK_inv h25 with ⟨e, h33⟩ | ⟨e, h33⟩
     ·
      clear h14 h15 h16 h17 h18 h19 h20 h21 h22 h23 h24 h25
      subst e
      refine mv ?_
      refine pu ?_
      exact la3 hS h33 ⟨rfl, rfl, rfl, rfl, trivial⟩
     ·
      clear h14 h15 h16 h17 h18 h19 h20 h21 h22 h23 h24 h25
      subst e
      refine sk ?_
      refine pu ?_
      exact la3 hS h33 ⟨rfl, rfl, rfl, rfl, trivial⟩
    ·
     intro y8 y10 y51 T12 n12 ρ its hS h26
     unfold g6_k3 at h26
     clear h14 h15 h16 h17 h18 h19 h20 h21 h22 h23 h24 h25
     refine mv ?_
     refine ls2 X 10 55 [(0, (.lit (.bool false)))] (g6_k4 ro) 3 ?_ ?_
     ·
      rcases condK_inv h26 with ⟨e, h31⟩ | ⟨e, h31⟩
      ·
       clear h26
       subst e
       refine mv ?_
       refine vy (V.bin0 h31 rfl rfl) fun x54_23 h32 => ?_
       refine pu ?_
       exact la2 hS h32 ⟨rfl, rfl, rfl, trivial⟩
      ·
       clear h26
       subst e
       refine sk ?_
       refine sk ?_
       refine pu ?_
       exact la2 hS h31 ⟨rfl, rfl, rfl, trivial⟩
     ·
      intro y10 y55 T13 n13 ρ its hS h27
      unfold g6_k4 at h27
      clear h26
      refine mv ?_
      refine ls1 X 59 [(0, (.lit (.bool false)))] (g6_k5 ro) 3 ?_ ?_
      ·
       rcases condK_inv h27 with ⟨e, h29⟩ | ⟨e, h29⟩
       ·
        clear h27
        subst e
        refine mv ?_
        refine LV.call hS h29 (g15_ok _ _ _ _ _ ) hP rfl rfl rfl rfl fun x58_22 T15 n15 h30 ρ its hS => ?_
        refine pu ?_
        exact la1 hS h30 ⟨rfl, rfl, trivial⟩
       ·
        clear h27
        subst e
        refine sk ?_
        refine sk ?_
        refine pu ?_
        exact la1 hS h29 ⟨rfl, rfl, trivial⟩
      ·
       intro y59 T14 n14 ρ its hS h28
       unfold g6_k5 at h28
       clear h27
       refine as_ ?_
       refine dn ?_
       refine CV.ret ?_
       cases h28
       exact PV.ret (by simp) Tryz.results6 hS (RS.tmp rfl RS.nil) rfl
noncomputable def g7 (ro : List HT) (a0 a1 : AV) (T : HT) (nx : Nat) : R :=
 bin0 Tryz.prog .rem 3 (.tmp 5) (.tmp 6) 70004 a0 a1 fun x7_1 =>
 addK Tryz.prog 3 (.tmp 7) (.tmp 8) 70006 x7_1 a1 fun x9_2 =>
 bin0 Tryz.prog .rem 3 (.tmp 9) (.tmp 10) 70008 x9_2 a1 fun x11_3 =>
 .ok (.val x11_3) T nx
theorem g7_ok (ro : List HT) (a0 a1 : AV) (T : HT) (nx : Nat) : GOk Tryz.prog envE 7 [a0, a1] ro T nx (g7 ro a0 a1 T nx) := by
 refine GOk.of_body Tryz.func7 rfl Tryz.ntmps7 (by kernel_rfl) rfl fun r T' n' h1 w0 base ρ0 its hS hP => ?_
 have X : CtxW envE ρ0 ro r T' n' := trivial
 unfold g7 at h1
 refine sr ?_
 refine as_ ?_
 refine dn ?_
 refine sr ?_
 refine mv ?_
 refine mv ?_
 refine vy (V.bin0 h1 rfl rfl) fun x7_1 h2 => ?_
 refine mv ?_
 refine vy (V.add h2 rfl rfl) fun x9_2 h3 => ?_
 refine mv ?_
 refine vy (V.bin0 h3 rfl rfl) fun x11_3 h4 => ?_
 refine as_ ?_
 refine dn ?_
 refine CV.ret ?_
 cases h4
 exact PV.ret (by simp) Tryz.results7 hS (RS.tmp rfl RS.nil) rfl
noncomputable def g39 (ro : List HT) (a0 : AV) (T : HT) (nx : Nat) : R :=
 asK 390003 a0 32 (.tup [.lit (.pointer none), .lit (.bool false)]) fun x6_1 =>
 exK 390004 x6_1 1 fun x7_2 =>
 exK 390005 x6_1 0 fun x8_3 =>
 condK 390006 x7_2
 (
  fldK 390009 T ro x8_3 1 fun x12_4 =>
  .ok (.val x12_4) T nx
 )
 (
  asK 390011 a0 43 (.tup [.lit (.pointer none), .lit (.bool false)]) fun x13_5 =>
  exK 390012 x13_5 1 fun x14_6 =>
  exK 390013 x13_5 0 fun x15_7 =>
  condK 390014 x14_6
  (
   fldK 390017 T ro x15_7 2 fun x19_8 =>
   .ok (.val x19_8) T nx
  )
  (
   .ok (.val (.lit (.bool true))) T nx
  )
 )
theorem g39_ok (ro : List HT) (a0 : AV) (T : HT) (nx : Nat) : GOk Tryz.prog envE 39 [a0] ro T nx (g39 ro a0 T nx) := by
 refine GOk.of_body Tryz.func39 rfl Tryz.ntmps39 (by kernel_rfl) rfl fun r T' n' h1 w0 base ρ0 its hS hP => ?_
 have X : CtxW envE ρ0 ro r T' n' := trivial
 unfold g39 at h1
 refine sr ?_
 refine as_ ?_
 refine dn ?_
 refine CV.seq ?_
 refine sr ?_
 refine mv ?_
 refine dn ?_
 refine CV.block ?_
 refine sr ?_
 refine vy (V.as h1 rfl Vff.ni32 Vff.za32) fun x6_1 h2 => ?_
 refine vy (V.ex h2 rfl) fun x7_2 h3 => ?_
 refine vy (V.ex h3 rfl) fun x8_3 h4 => ?_
 refine dn ?_
 refine CV.cond h4 rfl (fun e h5 => ?_) (fun e h5 => ?_)
 ·
  clear h1 h2 h3 h4
  subst e
  refine sr ?_
  refine as_ ?_
  refine dn ?_
  refine sr ?_
  refine mv ?_
  refine fl hS h5 Vff.fo77_2 Vff.one4 fun x12_4 h6 => ?_
  refine as_ ?_
  refine dn ?_
  refine CV.ret ?_
  refine PV.blockR ?_
  refine PV.thenR ?_
  cases h6
  exact PV.ret (by simp) Tryz.results39 hS (RS.tmp rfl RS.nil) rfl
 ·
  clear h1 h2 h3 h4
  subst e
  refine sr ?_
  refine vy (V.as h5 rfl Vff.ni43 Vff.za43) fun x13_5 h7 => ?_
  refine vy (V.ex h7 rfl) fun x14_6 h8 => ?_
  refine vy (V.ex h8 rfl) fun x15_7 h9 => ?_
  refine dn ?_
  refine CV.cond h9 rfl (fun e h10 => ?_) (fun e h10 => ?_)
  ·
   clear h5 h7 h8 h9
   subst e
   refine sr ?_
   refine as_ ?_
   refine dn ?_
   refine sr ?_
   refine mv ?_
   refine fl hS h10 Vff.fo98_3 Vff.one4 fun x19_8 h11 => ?_
   refine as_ ?_
   refine dn ?_
   refine CV.ret ?_
   refine PV.blockR ?_
   refine PV.thenR ?_
   cases h11
   exact PV.ret (by simp) Tryz.results39 hS (RS.tmp rfl RS.nil) rfl
  ·
   clear h5 h7 h8 h9
   subst e
   refine CV.skip ?_
   refine PV.blockN ?_
   refine PV.thenN ?_
   refine sr ?_
   refine as_ ?_
   refine dn ?_
   refine CV.ret ?_
   cases h10
   exact PV.ret (by simp) Tryz.results39 hS (RS.tmp rfl RS.nil) rfl
noncomputable def g20 (ro : List HT) (a0 : AV) (T : HT) (nx : Nat) : R :=
 callK (g39 ro a0 T nx) fun x4_1 T1 n1 =>
 .ok (.val x4_1) T1 n1
theorem g20_ok (ro : List HT) (a0 : AV) (T : HT) (nx : Nat) : GOk Tryz.prog envE 20 [a0] ro T nx (g20 ro a0 T nx) := by
 refine GOk.of_body Tryz.func20 rfl Tryz.ntmps20 (by kernel_rfl) rfl fun r T' n' h1 w0 base ρ0 its hS hP => ?_
 have X : CtxW envE ρ0 ro r T' n' := trivial
 unfold g20 at h1
 refine sr ?_
 refine as_ ?_
 refine dn ?_
 refine sr ?_
 refine mv ?_
 refine LV.call hS h1 (g39_ok _ _ _ _ ) hP rfl rfl rfl rfl fun x4_1 T1 n1 h2 ρ its hS => ?_
 refine as_ ?_
 refine dn ?_
 refine CV.ret ?_
 cases h2
 exact PV.ret (by simp) Tryz.results20 hS (RS.tmp rfl RS.nil) rfl
noncomputable def g40_b2 (ih : FuncId → List HT → List AV → HT → Nat → R) (ro : List HT) (lp2 : AV → AV → AV → AV → HT → Nat → R) (y1 y77 y78 y79 : AV) (T3 : HT) (n3 : Nat) : R :=
 ltK Tryz.prog 3 (.tmp 79) (.tmp 78) 400013 y79 y78 fun x80_3 =>
 condK 400014 x80_3
 (
  iaK 400015 y77 y79 1 fun x81_4 =>
  ldK 400016 T3 ro x81_4 fun x82_5 =>
  callK (ih 40 ro [x82_5, y1] T3 n3) fun x85_6 T4 n4 =>
  addK Tryz.prog 3 (.tmp 79) (.const (.int .i64 (.ofNat 1))) 400021 y79 (.lit (.int .i64 (.ofNat 1))) fun x86_7 =>
  lp2 y1 y77 y78 x86_7 T4 n4
 )
 (
  .ok (.val (.tup [])) T3 n3
 )
noncomputable def g40_k1 (ih : FuncId → List HT → List AV → HT → Nat → R) (ro : List HT) (y0 y1 y4 : AV) (T1 : HT) (n1 : Nat) : R :=
 lkPK 400004 T1 ro [32, 43, 72] y1 y0 (.lit (.bool false)) false fun x74_1 =>
 condK 400005 x74_1
 (
  .ok (.val (.tup [])) T1 n1
 )
 (
  msPK 400008 T1 [32, 43, 72] y1 y0 (.lit (.bool true)) fun T2 =>
  lenSK 400010 y4 fun x78_2 =>
  lpf4 400012 (g40_b2 ih ro) 100000 y1 y4 x78_2 (.lit (.int .i64 (.ofNat 0))) T2 n1
 )
noncomputable def g40_b3 (ih : FuncId → List HT → List AV → HT → Nat → R) (ro : List HT) (lp3 : AV → AV → AV → AV → AV → AV → HT → Nat → R) (y0 y1 y4 y35 y36 y37 : AV) (T7 : HT) (n7 : Nat) : R :=
 ltK Tryz.prog 3 (.tmp 37) (.tmp 36) 400048 y37 y36 fun x38_19 =>
 condK 400049 x38_19
 (
  iaK 400050 y35 y37 1 fun x39_20 =>
  ldK 400051 T7 ro x39_20 fun x40_21 =>
  ncK 400055 x40_21 fun x43_22 =>
  faK 400056 x43_22 1 fun x44_23 =>
  ldK 400057 T7 ro x44_23 fun x45_24 =>
  ncK 400059 x40_21 fun x47_25 =>
  faK 400060 x47_25 2 fun x48_26 =>
  ldK 400061 T7 ro x48_26 fun x49_27 =>
  bsK 400062 T7 n7 2 25 1 [(0, x45_24), (1, x49_27)] fun x50_28 T8 n8 =>
  shrK 400064 T8 y4 fun T9 =>
  appEK 400063 T9 ro n8 25 1 16 y4 x50_28 fun x51_29 T10 n10 =>
  addK Tryz.prog 3 (.tmp 37) (.const (.int .i64 (.ofNat 1))) 400066 y37 (.lit (.int .i64 (.ofNat 1))) fun x52_30 =>
  lp3 y0 y1 x51_29 y35 y36 x52_30 T10 n10
 )
 (
  g40_k1 ih ro y0 y1 y4 T7 n7
 )
noncomputable def g40 (ih : FuncId → List HT → List AV → HT → Nat → R) (ro : List HT) (a0 a1 : AV) (T : HT) (nx : Nat) : R :=
 asK 400024 a0 32 (.tup [.lit (.pointer none), .lit (.bool false)]) fun x16_8 =>
 exK 400025 x16_8 1 fun x17_9 =>
 exK 400026 x16_8 0 fun x18_10 =>
 condK 400027 x17_9
 (
  faK 400030 x18_10 1 fun x21_11 =>
  stK 400031 T x21_11 (.lit (.bool true)) fun T5 =>
  fldK 400033 T5 ro x18_10 0 fun x25_12 =>
  g40_k1 ih ro a0 a1 x25_12 T5 nx
 )
 (
  asK 400035 a0 43 (.tup [.lit (.pointer none), .lit (.bool false)]) fun x26_13 =>
  exK 400036 x26_13 1 fun x27_14 =>
  exK 400037 x26_13 0 fun x28_15 =>
  condK 400038 x27_14
  (
   faK 400041 x28_15 2 fun x31_16 =>
   stK 400042 T x31_16 (.lit (.bool true)) fun T6 =>
   fldK 400044 T6 ro x28_15 0 fun x35_17 =>
   lenSK 400045 x35_17 fun x36_18 =>
   lpf6 400047 (g40_b3 ih ro) 100000 a0 a1 (.lit (.slice none 0 0)) x35_17 x36_18 (.lit (.int .i64 (.ofNat 0))) T6 nx
  )
  (
   asK 400068 a0 72 (.tup [.lit (.pointer none), .lit (.bool false)]) fun x53_31 =>
   exK 400069 x53_31 1 fun x54_32 =>
   exK 400070 x53_31 0 fun x55_33 =>
   condK 400071 x54_32
   (
    fldK 400074 T ro x55_33 0 fun x59_34 =>
    g40_k1 ih ro a0 a1 x59_34 T nx
   )
   (
    asK 400076 a0 141 (.tup [.lit (.pointer none), .lit (.bool false)]) fun x60_35 =>
    exK 400077 x60_35 1 fun x61_36 =>
    exK 400078 x60_35 0 fun x62_37 =>
    condK 400079 x61_36
    (
     fldK 400082 T ro x62_37 1 fun x66_38 =>
     g40_k1 ih ro a0 a1 x66_38 T nx
    )
    (
     asIK 400084 a0 [] [32, 43, 67, 72, 100, 104, 207] fun x67_39 =>
     exK 400085 x67_39 1 fun x68_40 =>
     exK 400086 x67_39 0 fun x69_41 =>
     condK 400087 x68_40
     (
      callK (ifcK 400090 x69_41 fun tr xr => .bad 400090) fun x71_42 T11 n11 =>
      g40_k1 ih ro a0 a1 x71_42 T11 n11
     )
     (
      .ok (.val (.tup [])) T nx
     )
    )
   )
  )
 )
theorem g40_ok (ih : FuncId → List HT → List AV → HT → Nat → R) (hI : ∀ f ro args T nx, GOk Tryz.prog envE f args ro T nx (ih f ro args T nx)) (ro : List HT) (a0 a1 : AV) (T : HT) (nx : Nat) : GOk Tryz.prog envE 40 [a0, a1] ro T nx (g40 ih ro a0 a1 T nx) := by
 refine GOk.of_body Tryz.func40 rfl Tryz.ntmps40 (by kernel_rfl) rfl fun r T' n' h1 w0 base ρ0 its hS hP => ?_
 have X : CtxW envE ρ0 ro r T' n' := trivial
 unfold g40 at h1
 refine sr ?_
 refine as_ ?_
 refine dn ?_
 refine cs3 X 0 1 4 [] (g40_k1 ih ro) ?_ ?_
 ·
  refine sr ?_
  refine mv ?_
  refine dn ?_
  refine CV.block ?_
  refine sr ?_
  refine vy (V.as h1 rfl Vff.ni32 Vff.za32) fun x16_8 h14 => ?_
  refine vy (V.ex h14 rfl) fun x17_9 h15 => ?_
  refine vy (V.ex h15 rfl) fun x18_10 h16 => ?_
  refine dn ?_
  refine CV.cond h16 rfl (fun e h17 => ?_) (fun e h17 => ?_)
  ·
   clear h1 h14 h15 h16
   subst e
   refine sr ?_
   refine as_ ?_
   refine dn ?_
   refine sr ?_
   refine mv ?_
   refine fa2 h17 Vff.fo77_2 fun x21_11 h18 => ?_
   refine LV.st hS h18 rfl rfl rfl Vff.siz4 rfl rfl fun T5 its h19 hS => ?_
   refine dn ?_
   refine CV.region ?_
   refine mv ?_
   refine fl hS h19 Vff.fo77_1 Vff.one71 fun x25_12 h20 => ?_
   refine as_ ?_
   refine LV.done ?_
   refine PV.blockN ?_
   exact pa3 hS h20 ⟨rfl, rfl, rfl, trivial⟩
  ·
   clear h1 h14 h15 h16
   subst e
   refine sr ?_
   refine vy (V.as h17 rfl Vff.ni43 Vff.za43) fun x26_13 h21 => ?_
   refine vy (V.ex h21 rfl) fun x27_14 h22 => ?_
   refine vy (V.ex h22 rfl) fun x28_15 h23 => ?_
   refine dn ?_
   refine CV.cond h23 rfl (fun e h24 => ?_) (fun e h24 => ?_)
   ·
    clear h17 h21 h22 h23
    subst e
    refine sr ?_
    refine as_ ?_
    refine dn ?_
    refine sr ?_
    refine mv ?_
    refine fa2 h24 Vff.fo98_3 fun x31_16 h25 => ?_
    refine LV.st hS h25 rfl rfl rfl Vff.siz4 rfl rfl fun T6 its h26 hS => ?_
    refine dn ?_
    refine sr ?_
    refine mv ?_
    refine fl hS h26 Vff.fo98_1 Vff.one96 fun x35_17 h27 => ?_
    refine vy (V.lenS h27 rfl Vff.ls96) fun x36_18 h28 => ?_
    refine mv ?_
    refine dn ?_
    refine CV.block ?_
    refine cl6 X 0 1 4 35 36 37 [] hS h28 ⟨rfl, rfl, rfl, rfl, rfl, rfl, trivial⟩ ?_
    intro f3 y0 y1 y4 y35 y36 y37 T7 n7 ρ its hS h29
    unfold g40_b3 at h29
    clear h24 h25 h26 h27 h28
    refine sr ?_
    refine vy (V.lt h29 rfl rfl) fun x38_19 h30 => ?_
    refine dn ?_
    refine CV.seq ?_
    refine CV.cond h30 rfl (fun e h31 => ?_) (fun e h31 => ?_)
    ·
     clear h29 h30
     subst e
     refine CV.skip ?_
     refine PV.thenN ?_
     refine CV.seq ?_
     refine CV.block ?_
     refine sr ?_
     refine vy (V.ia h31 rfl rfl Vff.el96) fun x39_20 h32 => ?_
     refine vy (V.ld hS h32 rfl Vff.one101) fun x40_21 h33 => ?_
     refine as_ ?_
     refine dn ?_
     refine CV.regionM [(0, .anywhere), (1, .anywhere), (2, .anywhere), (3, .anywhere), (4, .held), (5, .anywhere), (6, .anywhere), (7, .anywhere), (8, .held), (9, .alone), (10, .alone), (11, .alone)] rfl (fun c a a' w hd hq => PanicOk.root (P := Tryz.prog) (fn := Tryz.f40) (w0 := w0) (base := base) (E := envE) (ro := ro) (r := r) (T' := T') (n' := n') (ρ0 := ρ0) c a a' w hd hq) (by kernel_rfl) ?_
     refine MV.step0 (i := 0) rfl (VAL.move rfl) rfl rfl rfl ?_
     refine MV.step0 (i := 1) rfl (VAL.move rfl) rfl rfl rfl ?_
     refine MV.lift0 (i := 2) rfl (V.nc h33 rfl) rfl rfl rfl fun x43_22 h34 => ?_
     refine MV.lift0 (i := 3) rfl (V.fa h34 rfl Vff.fo103_1) rfl rfl rfl fun x44_23 h35 => ?_
     refine MV.lift1 (i := 4) rfl (fun _ z => z) (V.ld hS h35 rfl Vff.one25) rfl rfl rfl [] (by kernel_rfl) fun x45_24 h36 => ?_
     refine MV.step0 (i := 5) rfl (VAL.move rfl) rfl rfl rfl ?_
     refine MV.lift0 (i := 6) rfl (V.nc h36 rfl) rfl rfl rfl fun x47_25 h37 => ?_
     refine MV.lift0 (i := 7) rfl (V.fa h37 rfl Vff.fo103_2) rfl rfl rfl fun x48_26 h38 => ?_
     refine MV.lift1 (i := 8) rfl (fun _ z => z) (V.ld hS h38 rfl Vff.one25) rfl rfl rfl [4] (by kernel_rfl) fun x49_27 h39 => ?_
     refine MV.force (i := 9) rfl ?_
     refine LV.bslice hS h39 rfl rfl Vff.el71 rfl rfl rfl rfl fun x50_28 T8 n8 h40 ρ its hS hdr => ?_
     refine LV.nextM [] (by kernel_rfl) (fun z => absurd rfl z) ?_
     refine MV.force (i := 10) rfl ?_
     obtain ⟨T9, its1, h41, hS, hW⟩ := shrK_inv hS h40
     refine LV.world hW ?_
     refine LV.appE hS h41 rfl rfl rfl rfl Vff.el71 rfl rfl rfl fun x51_29 T10 n10 h42 ρ its hS => ?_
     refine LV.nextM [] (by kernel_rfl) (fun z => absurd rfl z) ?_
     refine MV.force (i := 11) rfl ?_
     refine as_ ?_
     refine LV.nextM [] (by kernel_rfl) (fun z => absurd rfl z) ?_
     refine MV.done ?_
     refine PV.blockN ?_
     refine PV.thenN ?_
     refine CV.region ?_
     refine vy (V.add h42 rfl rfl) fun x52_30 h43 => ?_
     refine mv ?_
     refine LV.done ?_
     exact pb6 hS h43 ⟨rfl, rfl, rfl, rfl, rfl, rfl, trivial⟩
    ·
     clear h29 h30
     subst e
     refine CV.exit ?_
     refine PV.thenE ?_
     refine PV.thenE ?_
     refine PV.blockE ?_
     refine PV.blockN ?_
     exact pa3 hS h31 ⟨rfl, rfl, rfl, trivial⟩
   ·
    clear h17 h21 h22 h23
    subst e
    refine sr ?_
    refine vy (V.as h24 rfl Vff.ni72 Vff.za72) fun x53_31 h44 => ?_
    refine vy (V.ex h44 rfl) fun x54_32 h45 => ?_
    refine vy (V.ex h45 rfl) fun x55_33 h46 => ?_
    refine dn ?_
    refine CV.cond h46 rfl (fun e h47 => ?_) (fun e h47 => ?_)
    ·
     clear h24 h44 h45 h46
     subst e
     refine sr ?_
     refine as_ ?_
     refine dn ?_
     refine CV.region ?_
     refine mv ?_
     refine fl hS h47 Vff.fo75_1 Vff.one71 fun x59_34 h48 => ?_
     refine as_ ?_
     refine LV.done ?_
     refine PV.blockN ?_
     exact pa3 hS h48 ⟨rfl, rfl, rfl, trivial⟩
    ·
     clear h24 h44 h45 h46
     subst e
     refine sr ?_
     refine vy (V.as h47 rfl Vff.ni141 Vff.za141) fun x60_35 h49 => ?_
     refine vy (V.ex h49 rfl) fun x61_36 h50 => ?_
     refine vy (V.ex h50 rfl) fun x62_37 h51 => ?_
     refine dn ?_
     refine CV.cond h51 rfl (fun e h52 => ?_) (fun e h52 => ?_)
     ·
      clear h47 h49 h50 h51
      subst e
      refine sr ?_
      refine as_ ?_
      refine dn ?_
      refine CV.region ?_
      refine mv ?_
      refine fl hS h52 Vff.fo143_2 Vff.one71 fun x66_38 h53 => ?_
      refine as_ ?_
      refine LV.done ?_
      refine PV.blockN ?_
      exact pa3 hS h53 ⟨rfl, rfl, rfl, trivial⟩
     ·
      clear h47 h49 h50 h51
      subst e
      refine sr ?_
      refine vy (V.asI h52 rfl Vff.ii128 Vff.zw128 Vff.hi128_y_ Vff.hi128_n_32_43_67_72_100_104_207) fun x67_39 h54 => ?_
      refine vy (V.ex h54 rfl) fun x68_40 h55 => ?_
      refine vy (V.ex h55 rfl) fun x69_41 h56 => ?_
      refine dn ?_
      refine CV.cond h56 rfl (fun e h57 => ?_) (fun e h57 => ?_)
      ·
       clear h52 h54 h55 h56
       subst e
       refine sr ?_
       refine as_ ?_
       refine dn ?_
       refine CV.region ?_
       refine mv ?_
       refine LV.inv hS h57 (GMk.ifc fun tr xr _ => GMk.bad) hP rfl rfl rfl rfl rfl rfl rfl fun x71_42 T11 n11 h58 ρ its hS => ?_
       refine as_ ?_
       refine LV.done ?_
       refine PV.blockN ?_
       exact pa3 hS h58 ⟨rfl, rfl, rfl, trivial⟩
      ·
       clear h52 h54 h55 h56
       subst e
       refine sr ?_
       refine as_ ?_
       refine dn ?_
       refine CV.ret ?_
       refine PV.blockR ?_
       refine PV.thenR ?_
       cases h57
       exact PV.ret (by simp) Tryz.results40 hS RS.nil rfl
 ·
  intro y0 y1 y4 T1 n1 ρ its hS h2
  unfold g40_k1 at h2
  clear h1
  refine CV.seq ?_
  refine sr ?_
  refine mv ?_
  refine mv ?_
  refine vy (V.lkP hS h2 rfl rfl Vff.map106 Vff.ud25 Vff.ptl_32_43_72 Vff.zw4) fun x74_1 h3 => ?_
  refine dn ?_
  refine CV.cond h3 rfl (fun e h4 => ?_) (fun e h4 => ?_)
  ·
   clear h2 h3
   subst e
   refine CV.ret ?_
   refine PV.thenR ?_
   cases h4
   exact PV.ret (by simp) Tryz.results40 hS RS.nil rfl
  ·
   clear h2 h3
   subst e
   refine CV.skip ?_
   refine PV.thenN ?_
   refine sr ?_
   refine mv ?_
   refine mv ?_
   refine LV.msP hS h4 rfl rfl rfl (.inl rfl) Vff.map106 Vff.ud25 Vff.ptl_32_43_72 rfl rfl fun T2 its h5 hS => ?_
   refine dn ?_
   refine sr ?_
   refine mv ?_
   refine vy (V.lenS h5 rfl Vff.ls71) fun x78_2 h6 => ?_
   refine mv ?_
   refine dn ?_
   refine CV.block ?_
   refine cl4 X 1 77 78 79 [] hS h6 ⟨rfl, rfl, rfl, rfl, trivial⟩ ?_
   intro f2 y1 y77 y78 y79 T3 n3 ρ its hS h7
   unfold g40_b2 at h7
   clear h4 h5 h6
   refine sr ?_
   refine vy (V.lt h7 rfl rfl) fun x80_3 h8 => ?_
   refine dn ?_
   refine CV.seq ?_
   refine CV.cond h8 rfl (fun e h9 => ?_) (fun e h9 => ?_)
   ·
    clear h7 h8
    subst e
    refine CV.skip ?_
    refine PV.thenN ?_
    refine CV.seq ?_
    refine CV.block ?_
    refine sr ?_
    refine vy (V.ia h9 rfl rfl Vff.el71) fun x81_4 h10 => ?_
    refine vy (V.ld hS h10 rfl Vff.one25) fun x82_5 h11 => ?_
    refine as_ ?_
    refine dn ?_
    refine CV.region ?_
    refine mv ?_
    refine mv ?_
    refine LV.call hS h11 (hI _ _ _ _ _) hP rfl rfl rfl rfl fun x85_6 T4 n4 h12 ρ its hS => ?_
    refine LV.done ?_
    refine PV.blockN ?_
    refine PV.thenN ?_
    refine CV.region ?_
    refine vy (V.add h12 rfl rfl) fun x86_7 h13 => ?_
    refine mv ?_
    refine LV.done ?_
    exact pb4 hS h13 ⟨rfl, rfl, rfl, rfl, trivial⟩
   ·
    clear h7 h8
    subst e
    refine CV.exit ?_
    refine PV.thenE ?_
    refine PV.thenE ?_
    refine PV.blockE ?_
    cases h9
    exact PV.ret (by simp) Tryz.results40 hS RS.nil rfl
noncomputable def ap8 (ih : FuncId → List HT → List AV → HT → Nat → R) (f : FuncId) (ro : List HT) (args : List AV) (T : HT) (nx : Nat) : R :=
  Bool.rec (motive := fun _ => R) (.bad 2) (List.rec (motive := fun _ => R) (.bad 1) (fun a0 l0 _ => List.rec (motive := fun _ => R) (.bad 1) (fun a1 l1 _ => List.rec (motive := fun _ => R) (g40 ih ro a0 a1 T nx) (fun _ _ _ => .bad 1) l1) l0) args) (Nat.beq f 40)
noncomputable def scc8 (fuel : Nat) : FuncId → List HT → List AV → HT → Nat → R :=
  Nat.rec (motive := fun _ => FuncId → List HT → List AV → HT → Nat → R) (fun _ _ _ _ _ => .bad 3) (fun _ ih => ap8 ih) fuel
theorem ap8_ok (ih : FuncId → List HT → List AV → HT → Nat → R) (hI : ∀ f ro args T nx, GOk Tryz.prog envE f args ro T nx (ih f ro args T nx)) (f : FuncId) (ro : List HT) (args : List AV) (T : HT) (nx : Nat) : GOk Tryz.prog envE f args ro T nx (ap8 ih f ro args T nx) := by
  unfold ap8
  refine recb_go (fun hb => ?_) (fun _ => ?_)
  · obtain rfl := beqT hb
    rcases args with _ | ⟨a0, l0⟩
    · exact GOk.bad
    rcases l0 with _ | ⟨a1, l1⟩
    · exact GOk.bad
    rcases l1 with _ | ⟨_, _⟩
    · exact g40_ok _ hI _ _ _ _ _ 
    · exact GOk.bad
  · exact GOk.bad
theorem scc8_ok : ∀ (fuel : Nat) (f : FuncId) (ro : List HT) (args : List AV) (T : HT) (nx : Nat), GOk Tryz.prog envE f args ro T nx (scc8 fuel f ro args T nx)
  | 0, _, _, _, _, _ => GOk.bad
  | fuel + 1, f, ro, args, T, nx => ap8_ok (scc8 fuel) (scc8_ok fuel) f ro args T nx
noncomputable def g21 (ro : List HT) (a0 : AV) (T : HT) (nx : Nat) : R :=
 mkmK T nx fun x3_1 T1 n1 =>
 callK (scc8 4000 40 ro [a0, x3_1] T1 n1) fun x4_2 T2 n2 =>
 .ok (.val (.tup [])) T2 n2
theorem g21_ok (ro : List HT) (a0 : AV) (T : HT) (nx : Nat) : GOk Tryz.prog envE 21 [a0] ro T nx (g21 ro a0 T nx) := by
 refine GOk.of_body Tryz.func21 rfl Tryz.ntmps21 (by kernel_rfl) rfl fun r T' n' h1 w0 base ρ0 its hS hP => ?_
 have X : CtxW envE ρ0 ro r T' n' := trivial
 unfold g21 at h1
 refine CV.region ?_
 refine mv ?_
 refine LV.mkm hS h1 rfl rfl rfl rfl fun x3_1 T1 n1 h2 ρ its hS hdr => ?_
 refine LV.call hS h2 (scc8_ok _ _ _ _ _ _) hP rfl rfl rfl rfl fun x4_2 T2 n2 h3 ρ its hS => ?_
 refine LV.done ?_
 cases h3
 exact PV.ret (by simp) Tryz.results21 hS RS.nil rfl
noncomputable def g41_b1 (ro : List HT) (lp1 : AV → AV → AV → AV → AV → HT → Nat → R) (y0 y1 y4 y7 y8 : AV) (T1 : HT) (n1 : Nat) : R :=
 ltK Tryz.prog 3 (.tmp 8) (.tmp 7) 410006 y8 y7 fun x9_2 =>
 condK 410007 x9_2
 (
  iaK 410013 y0 y8 1 fun x14_3 =>
  ldK 410014 T1 ro x14_3 fun x15_4 =>
  bin0 Tryz.prog .eql 101 (.tmp 11) (.tmp 15) 410015 y1 x15_4 fun x16_5 =>
  condK 410016 x16_5
  (
   .ok (.val y8) T1 n1
  )
  (
   addK Tryz.prog 3 (.tmp 8) (.const (.int .i64 (.ofNat 1))) 410019 y8 (.lit (.int .i64 (.ofNat 1))) fun x18_6 =>
   lp1 y0 y1 y4 y7 x18_6 T1 n1
  )
 )
 (
  .ok (.val (.lit (.int .i64 (.negSucc 0)))) T1 n1
 )
noncomputable def g41 (ro : List HT) (a0 a1 : AV) (T : HT) (nx : Nat) : R :=
 lenSK 410003 a0 fun x7_1 =>
 lpf5 410005 (g41_b1 ro) 100000 a0 a1 (.lit (.int .i64 (.ofNat 0))) x7_1 (.lit (.int .i64 (.ofNat 0))) T nx
theorem g41_ok (ro : List HT) (a0 a1 : AV) (T : HT) (nx : Nat) : GOk Tryz.prog envE 41 [a0, a1] ro T nx (g41 ro a0 a1 T nx) := by
 refine GOk.of_body Tryz.func41 rfl Tryz.ntmps41 (by kernel_rfl) rfl fun r T' n' h1 w0 base ρ0 its hS hP => ?_
 have X : CtxW envE ρ0 ro r T' n' := trivial
 unfold g41 at h1
 refine sr ?_
 refine as_ ?_
 refine dn ?_
 refine CV.seq ?_
 refine sr ?_
 refine mv ?_
 refine vy (V.lenS h1 rfl Vff.ls96) fun x7_1 h2 => ?_
 refine mv ?_
 refine dn ?_
 refine CV.block ?_
 refine cl5 X 0 1 4 7 8 [] hS h2 ⟨rfl, rfl, rfl, rfl, rfl, trivial⟩ ?_
 intro f1 y0 y1 y4 y7 y8 T1 n1 ρ its hS h3
 unfold g41_b1 at h3
 clear h1 h2
 refine sr ?_
 refine vy (V.lt h3 rfl rfl) fun x9_2 h4 => ?_
 refine dn ?_
 refine CV.seq ?_
 refine CV.cond h4 rfl (fun e h5 => ?_) (fun e h5 => ?_)
 ·
  clear h3 h4
  subst e
  refine CV.skip ?_
  refine PV.thenN ?_
  refine CV.seq ?_
  refine CV.block ?_
  refine sr ?_
  refine mv ?_
  refine as_ ?_
  refine dn ?_
  refine sr ?_
  refine mv ?_
  refine mv ?_
  refine mv ?_
  refine vy (V.ia h5 rfl rfl Vff.el96) fun x14_3 h6 => ?_
  refine vy (V.ld hS h6 rfl Vff.one101) fun x15_4 h7 => ?_
  refine vy (V.bin0 h7 rfl rfl) fun x16_5 h8 => ?_
  refine dn ?_
  refine CV.cond h8 rfl (fun e h9 => ?_) (fun e h9 => ?_)
  ·
   clear h5 h6 h7 h8
   subst e
   refine sr ?_
   refine mv ?_
   refine as_ ?_
   refine dn ?_
   refine CV.ret ?_
   refine PV.blockR ?_
   refine PV.thenR ?_
   refine PV.thenR ?_
   refine PV.blockR ?_
   refine PV.thenR ?_
   cases h9
   exact PV.ret (by simp) Tryz.results41 hS (RS.tmp rfl RS.nil) rfl
  ·
   clear h5 h6 h7 h8
   subst e
   refine CV.skip ?_
   refine PV.blockN ?_
   refine PV.thenN ?_
   refine CV.region ?_
   refine vy (V.add h9 rfl rfl) fun x18_6 h10 => ?_
   refine mv ?_
   refine LV.done ?_
   exact pb5 hS h10 ⟨rfl, rfl, rfl, rfl, rfl, trivial⟩
 ·
  clear h3 h4
  subst e
  refine CV.exit ?_
  refine PV.thenE ?_
  refine PV.thenE ?_
  refine PV.blockE ?_
  refine PV.thenN ?_
  refine sr ?_
  refine as_ ?_
  refine dn ?_
  refine CV.ret ?_
  cases h5
  exact PV.ret (by simp) Tryz.results41 hS (RS.tmp rfl RS.nil) rfl
noncomputable def g70 (ro : List HT) (a0 a1 : AV) (T : HT) (nx : Nat) : R :=
 ltK Tryz.prog 3 (.tmp 5) (.const (.int .i64 (.ofNat 0))) 700003 a1 (.lit (.int .i64 (.ofNat 0))) fun x6_1 =>
 condK 700004 x6_1
 (
  .bad 700005
 )
 (
  .bad 700009
 )
theorem g70_ok (ro : List HT) (a0 a1 : AV) (T : HT) (nx : Nat) : GOk Tryz.prog envE 70 [a0, a1] ro T nx (g70 ro a0 a1 T nx) := by
 refine GOk.of_body Tryz.func70 rfl Tryz.ntmps70 (by kernel_rfl) rfl fun r T' n' h1 w0 base ρ0 its hS hP => ?_
 have X : CtxW envE ρ0 ro r T' n' := trivial
 unfold g70 at h1
 refine sr ?_
 refine as_ ?_
 refine dn ?_
 refine CV.seq ?_
 refine sr ?_
 refine mv ?_
 refine vy (V.lt h1 rfl rfl) fun x6_1 h2 => ?_
 refine dn ?_
 refine CV.cond h2 rfl (fun e h3 => ?_) (fun e h3 => ?_)
 ·
  clear h1 h2
  subst e
  cases h3
 ·
  clear h1 h2
  subst e
  refine CV.skip ?_
  refine PV.thenN ?_
  refine CV.seq ?_
  refine sr ?_
  refine mv ?_
  refine mv ?_
  cases h3
noncomputable def g42_b2 (ro : List HT) (lp2 : AV → AV → AV → AV → AV → HT → Nat → R) (y2 y6 y25 y26 y27 : AV) (T3 : HT) (n3 : Nat) : R :=
 ltK Tryz.prog 3 (.tmp 27) (.tmp 26) 420030 y27 y26 fun x28_11 =>
 condK 420031 x28_11
 (
  iaK 420032 y25 y27 1 fun x29_12 =>
  ldK 420033 T3 ro x29_12 fun x30_13 =>
  shrK 420038 T3 y6 fun T4 =>
  appEK 420037 T4 ro n3 101 1 8 y6 x30_13 fun x33_14 T5 n5 =>
  addK Tryz.prog 3 (.tmp 27) (.const (.int .i64 (.ofNat 1))) 420040 y27 (.lit (.int .i64 (.ofNat 1))) fun x34_15 =>
  lp2 y2 x33_14 y25 y26 x34_15 T5 n5
 )
 (
  .ok (.val y6) T3 n3
 )
noncomputable def g42_b1 (ro : List HT) (lp1 : AV → AV → AV → AV → AV → AV → HT → Nat → R) (y0 y2 y3 y9 y10 y11 : AV) (T1 : HT) (n1 : Nat) : R :=
 ltK Tryz.prog 3 (.tmp 11) (.tmp 10) 420007 y11 y10 fun x12_2 =>
 condK 420008 x12_2
 (
  iaK 420009 y9 y11 1 fun x13_3 =>
  ldK 420010 T1 ro x13_3 fun x14_4 =>
  lenSK 420014 x14_4 fun x17_5 =>
  addK Tryz.prog 3 (.tmp 15) (.tmp 17) 420015 y3 x17_5 fun x18_6 =>
  ltK Tryz.prog 3 (.tmp 19) (.const (.int .i64 (.ofNat 0))) 420018 x18_6 (.lit (.int .i64 (.ofNat 0))) fun x20_7 =>
  condK 420019 x20_7
  (
   .bad 420020
  )
  (
   addK Tryz.prog 3 (.tmp 11) (.const (.int .i64 (.ofNat 1))) 420021 y11 (.lit (.int .i64 (.ofNat 1))) fun x22_8 =>
   lp1 y0 y2 x18_6 y9 y10 x22_8 T1 n1
  )
 )
 (
  callK (g70 ro (.lit (.slice none 0 0)) y3 T1 n1) fun x24_9 T2 n2 =>
  lenSK 420027 y0 fun x26_10 =>
  lpf5 420029 (g42_b2 ro) 100000 y2 x24_9 y0 x26_10 (.lit (.int .i64 (.ofNat 0))) T2 n2
 )
noncomputable def g42 (ro : List HT) (a0 : AV) (T : HT) (nx : Nat) : R :=
 lenSK 420004 a0 fun x10_1 =>
 lpf6 420006 (g42_b1 ro) 100000 a0 (.lit (.slice none 0 0)) (.lit (.int .i64 (.ofNat 0))) a0 x10_1 (.lit (.int .i64 (.ofNat 0))) T nx
theorem g42_ok (ro : List HT) (a0 : AV) (T : HT) (nx : Nat) : GOk Tryz.prog envE 42 [a0] ro T nx (g42 ro a0 T nx) := by
 refine GOk.of_body Tryz.func42 rfl Tryz.ntmps42 (by kernel_rfl) rfl fun r T' n' h1 w0 base ρ0 its hS hP => ?_
 have X : CtxW envE ρ0 ro r T' n' := trivial
 unfold g42 at h1
 refine sr ?_
 refine as_ ?_
 refine dn ?_
 refine sr ?_
 refine as_ ?_
 refine dn ?_
 refine CV.seq ?_
 refine sr ?_
 refine mv ?_
 refine vy (V.lenS h1 rfl Vff.ls150) fun x10_1 h2 => ?_
 refine mv ?_
 refine dn ?_
 refine CV.block ?_
 refine cl6 X 0 2 3 9 10 11 [] hS h2 ⟨rfl, rfl, rfl, rfl, rfl, rfl, trivial⟩ ?_
 intro f1 y0 y2 y3 y9 y10 y11 T1 n1 ρ its hS h3
 unfold g42_b1 at h3
 clear h1 h2
 refine sr ?_
 refine vy (V.lt h3 rfl rfl) fun x12_2 h4 => ?_
 refine dn ?_
 refine CV.seq ?_
 refine CV.cond h4 rfl (fun e h5 => ?_) (fun e h5 => ?_)
 ·
  clear h3 h4
  subst e
  refine CV.skip ?_
  refine PV.thenN ?_
  refine CV.seq ?_
  refine CV.block ?_
  refine sr ?_
  refine vy (V.ia h5 rfl rfl Vff.el150) fun x13_3 h6 => ?_
  refine vy (V.ld hS h6 rfl Vff.one96) fun x14_4 h7 => ?_
  refine as_ ?_
  refine dn ?_
  refine sr ?_
  refine mv ?_
  refine mv ?_
  refine vy (V.lenS h7 rfl Vff.ls96) fun x17_5 h8 => ?_
  refine vy (V.add h8 rfl rfl) fun x18_6 h9 => ?_
  refine as_ ?_
  refine dn ?_
  refine sr ?_
  refine mv ?_
  refine vy (V.lt h9 rfl rfl) fun x20_7 h10 => ?_
  refine dn ?_
  refine CV.cond h10 rfl (fun e h11 => ?_) (fun e h11 => ?_)
  ·
   clear h5 h6 h7 h8 h9 h10
   subst e
   cases h11
  ·
   clear h5 h6 h7 h8 h9 h10
   subst e
   refine CV.skip ?_
   refine PV.blockN ?_
   refine PV.thenN ?_
   refine CV.region ?_
   refine vy (V.add h11 rfl rfl) fun x22_8 h12 => ?_
   refine mv ?_
   refine LV.done ?_
   exact pb6 hS h12 ⟨rfl, rfl, rfl, rfl, rfl, rfl, trivial⟩
 ·
  clear h3 h4
  subst e
  refine CV.exit ?_
  refine PV.thenE ?_
  refine PV.thenE ?_
  refine PV.blockE ?_
  refine PV.thenN ?_
  refine sr ?_
  refine mv ?_
  refine LV.call hS h5 (g70_ok _ _ _ _ _ ) hP rfl rfl rfl rfl fun x24_9 T2 n2 h13 ρ its hS => ?_
  refine as_ ?_
  refine dn ?_
  refine CV.seq ?_
  refine sr ?_
  refine mv ?_
  refine vy (V.lenS h13 rfl Vff.ls150) fun x26_10 h14 => ?_
  refine mv ?_
  refine dn ?_
  refine CV.block ?_
  refine cl5 X 2 6 25 26 27 [] hS h14 ⟨rfl, rfl, rfl, rfl, rfl, trivial⟩ ?_
  intro f2 y2 y6 y25 y26 y27 T3 n3 ρ its hS h15
  unfold g42_b2 at h15
  clear h5 h13 h14
  refine sr ?_
  refine vy (V.lt h15 rfl rfl) fun x28_11 h16 => ?_
  refine dn ?_
  refine CV.seq ?_
  refine CV.cond h16 rfl (fun e h17 => ?_) (fun e h17 => ?_)
  ·
   clear h15 h16
   subst e
   refine CV.skip ?_
   refine PV.thenN ?_
   refine CV.seq ?_
   refine CV.block ?_
   refine sr ?_
   refine vy (V.ia h17 rfl rfl Vff.el150) fun x29_12 h18 => ?_
   refine vy (V.ld hS h18 rfl Vff.one96) fun x30_13 h19 => ?_
   refine as_ ?_
   refine dn ?_
   refine CV.region ?_
   refine mv ?_
   refine mv ?_
   obtain ⟨T4, its1, h20, hS, hW⟩ := shrK_inv hS h19
   refine LV.world hW ?_
   refine LV.appE hS h20 rfl rfl rfl rfl Vff.el96 rfl rfl rfl fun x33_14 T5 n5 h21 ρ its hS => ?_
   refine as_ ?_
   refine LV.done ?_
   refine PV.blockN ?_
   refine PV.thenN ?_
   refine CV.region ?_
   refine vy (V.add h21 rfl rfl) fun x34_15 h22 => ?_
   refine mv ?_
   refine LV.done ?_
   exact pb5 hS h22 ⟨rfl, rfl, rfl, rfl, rfl, trivial⟩
  ·
   clear h15 h16
   subst e
   refine CV.exit ?_
   refine PV.thenE ?_
   refine PV.thenE ?_
   refine PV.blockE ?_
   refine PV.thenN ?_
   refine sr ?_
   refine mv ?_
   refine as_ ?_
   refine dn ?_
   refine CV.ret ?_
   cases h17
   exact PV.ret (by simp) Tryz.results42 hS (RS.tmp rfl RS.nil) rfl
noncomputable def g22 (ro : List HT) (a0 a1 : AV) (T : HT) (nx : Nat) : R :=
 callK (g14 ro a1 T nx) fun x13_1 T1 n1 =>
 exK 220007 x13_1 0 fun x14_2 =>
 exK 220008 x13_1 1 fun x15_3 =>
 bin0 Tryz.prog .neq 36 (.tmp 16) (.const (.nilIface)) 220012 x15_3 (.lit (.nilIface)) fun x17_4 =>
 condK 220013 x17_4
 (
  .bad 220014
 )
 (
  callK (g38 ro a0 T1 n1) fun x20_5 T2 n2 =>
  notK 220017 x20_5 fun x21_6 =>
  condK 220018 x21_6
  (
   .ok (.val (.tup [(.lit (.nilIface)), (.lit (.bool false)), (.iface 347 (.opq 3))])) T2 n2
  )
  (
   fldK 220024 T2 ro a0 1 fun x26_7 =>
   lkSK 220026 T2 ro x26_7 x14_2 (.lit (.pointer none)) false fun x28_8 =>
   bin0 Tryz.prog .eql 101 (.tmp 29) (.const (.pointer none)) 220029 x28_8 (.lit (.pointer none)) fun x30_9 =>
   condK 220030 x30_9
   (
    .bad 220031
   )
   (
    fldK 220033 T2 ro a0 1 fun x34_10 =>
    .bad 220036
   )
  )
 )
theorem g22_ok (ro : List HT) (a0 a1 : AV) (T : HT) (nx : Nat) : GOk Tryz.prog envE 22 [a0, a1] ro T nx (g22 ro a0 a1 T nx) := by
 refine GOk.of_body Tryz.func22 rfl Tryz.ntmps22 (by kernel_rfl) rfl fun r T' n' h1 w0 base ρ0 its hS hP => ?_
 have X : CtxW envE ρ0 ro r T' n' := trivial
 unfold g22 at h1
 refine sr ?_
 refine as_ ?_
 refine as_ ?_
 refine as_ ?_
 refine dn ?_
 refine sr ?_
 refine mv ?_
 refine LV.call hS h1 (g14_ok _ _ _ _ ) hP rfl rfl rfl rfl fun x13_1 T1 n1 h2 ρ its hS => ?_
 refine mv ?_
 refine vy (V.ex h2 rfl) fun x14_2 h3 => ?_
 refine vy (V.ex h3 rfl) fun x15_3 h4 => ?_
 refine as_ ?_
 refine as_ ?_
 refine dn ?_
 refine CV.seq ?_
 refine sr ?_
 refine mv ?_
 refine vy (V.bin0 h4 rfl rfl) fun x17_4 h5 => ?_
 refine dn ?_
 refine CV.cond h5 rfl (fun e h6 => ?_) (fun e h6 => ?_)
 ·
  clear h1 h2 h3 h4 h5
  subst e
  cases h6
 ·
  clear h1 h2 h3 h4 h5
  subst e
  refine CV.skip ?_
  refine PV.thenN ?_
  refine CV.seq ?_
  refine sr ?_
  refine mv ?_
  refine LV.call hS h6 (g38_ok _ _ _ _ ) hP rfl rfl rfl rfl fun x20_5 T2 n2 h7 ρ its hS => ?_
  refine vy (V.not h7 rfl) fun x21_6 h8 => ?_
  refine dn ?_
  refine CV.cond h8 rfl (fun e h9 => ?_) (fun e h9 => ?_)
  ·
   clear h6 h7 h8
   subst e
   refine CV.seq ?_
   refine CV.regionM [(0, .held), (1, .anywhere), (2, .anywhere), (3, .held)] rfl (fun c a a' w hd hq => PanicOk.root (P := Tryz.prog) (fn := Tryz.f22) (w0 := w0) (base := base) (E := envE) (ro := ro) (r := r) (T' := T') (n' := n') (ρ0 := ρ0) c a a' w hd hq) (by kernel_rfl) ?_
   refine MV.step1 (i := 0) rfl (fun _ z => z) (VAL.ldG hS (by rfl) Vff.one36) rfl rfl rfl [] (by kernel_rfl) ?_
   refine MV.step0 (i := 1) rfl (VAL.assign rfl) rfl rfl rfl ?_
   refine MV.step0 (i := 2) rfl (VAL.assign rfl) rfl rfl rfl ?_
   refine MV.step1 (i := 3) rfl (fun _ z => z) (VAL.assign rfl) rfl rfl rfl [] (by kernel_rfl) ?_
   refine mdn ?_
   refine CV.ret ?_
   refine PV.thenR ?_
   cases h9
   exact PV.ret (by simp) Tryz.results22 hS (RS.tmp rfl (RS.tmp rfl (RS.tmp rfl RS.nil))) rfl
  ·
   clear h6 h7 h8
   subst e
   refine CV.skip ?_
   refine PV.thenN ?_
   refine sr ?_
   refine mv ?_
   refine fl hS h9 Vff.fo98_2 Vff.one95 fun x26_7 h10 => ?_
   refine mv ?_
   refine vy (V.lkS hS h10 rfl rfl Vff.map95 Vff.ud9 Vff.zw101) fun x28_8 h11 => ?_
   refine as_ ?_
   refine dn ?_
   refine CV.seq ?_
   refine sr ?_
   refine mv ?_
   refine vy (V.bin0 h11 rfl rfl) fun x30_9 h12 => ?_
   refine dn ?_
   refine CV.cond h12 rfl (fun e h13 => ?_) (fun e h13 => ?_)
   ·
    clear h9 h10 h11 h12
    subst e
    cases h13
   ·
    clear h9 h10 h11 h12
    subst e
    refine CV.skip ?_
    refine PV.thenN ?_
    refine sr ?_
    refine mv ?_
    refine fl hS h13 Vff.fo98_2 Vff.one95 fun x34_10 h14 => ?_
    refine mv ?_
    cases h14
noncomputable def g24 (ro : List HT) (a0 : AV) (T : HT) (nx : Nat) : R :=
 fldK 240003 T ro a0 0 fun x6_1 =>
 lenSK 240004 x6_1 fun x7_2 =>
 .ok (.val x7_2) T nx
theorem g24_ok (ro : List HT) (a0 : AV) (T : HT) (nx : Nat) : GOk Tryz.prog envE 24 [a0] ro T nx (g24 ro a0 T nx) := by
 refine GOk.of_body Tryz.func24 rfl Tryz.ntmps24 (by kernel_rfl) rfl fun r T' n' h1 w0 base ρ0 its hS hP => ?_
 have X : CtxW envE ρ0 ro r T' n' := trivial
 unfold g24 at h1
 refine sr ?_
 refine as_ ?_
 refine dn ?_
 refine sr ?_
 refine mv ?_
 refine fl hS h1 Vff.fo98_1 Vff.one96 fun x6_1 h2 => ?_
 refine vy (V.lenS h2 rfl Vff.ls96) fun x7_2 h3 => ?_
 refine as_ ?_
 refine dn ?_
 refine CV.ret ?_
 cases h3
 exact PV.ret (by simp) Tryz.results24 hS (RS.tmp rfl RS.nil) rfl
noncomputable def g4_k2 (c0 : AV) (m0 : Nat) (ro : List HT) (lp1 : AV → AV → AV → AV → AV → AV → HT → Nat → R) (y0 y2 y3 y4 y5 y6 : AV) (T5 : HT) (n5 : Nat) : R :=
 addK Tryz.prog 3 (.tmp 28) (.const (.int .i64 (.ofNat 1))) 40027 y6 (.lit (.int .i64 (.ofNat 1))) fun x29_7 =>
 lp1 y0 y2 y3 y4 y5 x29_7 T5 n5
noncomputable def g4_k10 (c0 : AV) (m0 : Nat) (ro : List HT) (y2 y101 : AV) (T29 : HT) (n29 : Nat) : R :=
 .ok (.val y101) T29 n29
noncomputable def g4_k9 (c0 : AV) (m0 : Nat) (ro : List HT) (y2 y97 : AV) (T28 : HT) (n28 : Nat) : R :=
 condK 40089 y97
 (
  callK (g17 ro T28 n28) fun x99_33 T30 n30 =>
  callK (g20 ro x99_33 T30 n30) fun x100_34 T31 n31 =>
  g4_k10 c0 m0 ro y2 x100_34 T31 n31
 )
 (
  g4_k10 c0 m0 ro y2 (.lit (.bool false)) T28 n28
 )
noncomputable def g4_k8 (c0 : AV) (m0 : Nat) (ro : List HT) (y2 y4 y92 : AV) (T27 : HT) (n27 : Nat) : R :=
 condK 40094 y92
 (
  callK (g24 ro y4 T27 n27) fun x95_35 T32 n32 =>
  eqK Tryz.prog 3 (.tmp 95) (.const (.int .i64 (.ofNat 1))) 40097 x95_35 (.lit (.int .i64 (.ofNat 1))) fun x96_36 =>
  g4_k9 c0 m0 ro y2 x96_36 T32 n32
 )
 (
  g4_k9 c0 m0 ro y2 (.lit (.bool false)) T27 n27
 )
noncomputable def g4_k7 (c0 : AV) (m0 : Nat) (ro : List HT) (y2 y4 y14 y88 : AV) (T26 : HT) (n26 : Nat) : R :=
 condK 40100 y88
 (
  bin0 Tryz.prog .eql 36 (.tmp 90) (.const (.nilIface)) 40102 y14 (.lit (.nilIface)) fun x91_37 =>
  g4_k8 c0 m0 ro y2 y4 x91_37 T26 n26
 )
 (
  g4_k8 c0 m0 ro y2 y4 (.lit (.bool false)) T26 n26
 )
noncomputable def g4_k6 (c0 : AV) (m0 : Nat) (ro : List HT) (y2 y4 y13 y14 y85 : AV) (T25 : HT) (n25 : Nat) : R :=
 condK 40105 y85
 (
  g4_k7 c0 m0 ro y2 y4 y14 y13 T25 n25
 )
 (
  g4_k7 c0 m0 ro y2 y4 y14 (.lit (.bool false)) T25 n25
 )
noncomputable def g4_k5 (c0 : AV) (m0 : Nat) (ro : List HT) (y2 y4 y11 y13 y14 y81 : AV) (T24 : HT) (n24 : Nat) : R :=
 condK 40109 y81
 (
  callK (g15 ro y11 (.lit (.int .i64 (.ofNat 104))) T24 n24) fun x84_38 T33 n33 =>
  g4_k6 c0 m0 ro y2 y4 y13 y14 x84_38 T33 n33
 )
 (
  g4_k6 c0 m0 ro y2 y4 y13 y14 (.lit (.bool false)) T24 n24
 )
noncomputable def g4_k4 (c0 : AV) (m0 : Nat) (ro : List HT) (y2 y4 y8 y11 y13 y14 y77 : AV) (T23 : HT) (n23 : Nat) : R :=
 condK 40114 y77
 (
  callK (g15 ro y8 (.lit (.int .i64 (.ofNat 104))) T23 n23) fun x80_39 T34 n34 =>
  g4_k5 c0 m0 ro y2 y4 y11 y13 y14 x80_39 T34 n34
 )
 (
  g4_k5 c0 m0 ro y2 y4 y11 y13 y14 (.lit (.bool false)) T23 n23
 )
noncomputable def g4_k3 (c0 : AV) (m0 : Nat) (ro : List HT) (y2 y3 y4 y5 y51 : AV) (T14 : HT) (n14 : Nat) : R :=
 condK 40051 y51
 (
  .bad 40052
 )
 (
  callK (g21 ro y5 T14 n14) fun x53_19 T15 n15 =>
  callK (g19 ro (.lit (.string ⟨⟨[98]⟩⟩)) T15 n15) fun x55_20 T16 n16 =>
  callK (g17 ro T16 n16) fun x56_21 T17 n17 =>
  callK (g18 ro y4 x55_20 x56_21 T17 n17) fun x57_22 T18 n18 =>
  callK (g19 ro (.lit (.string ⟨⟨[97]⟩⟩)) T18 n18) fun x60_23 T19 n19 =>
  callK (g22 ro y4 x60_23 T19 n19) fun x61_24 T20 n20 =>
  exK 40064 x61_24 0 fun x62_25 =>
  exK 40065 x61_24 1 fun x63_26 =>
  exK 40066 x61_24 2 fun x64_27 =>
  callK (g19 ro (.lit (.string ⟨⟨[97]⟩⟩)) T20 n20) fun x67_28 T21 n21 =>
  callK (g23 ro y4 x67_28 T21 n21) fun x68_29 T22 n22 =>
  exK 40074 x68_29 0 fun x69_30 =>
  exK 40075 x68_29 1 fun x70_31 =>
  exK 40076 x68_29 2 fun x71_32 =>
  condK 40119 y3
  (
   callK (g20 ro (.iface 43 y4) T22 n22) fun x76_40 T35 n35 =>
   g4_k4 c0 m0 ro y2 y4 x57_22 x64_27 x70_31 x71_32 x76_40 T35 n35
  )
  (
   g4_k4 c0 m0 ro y2 y4 x57_22 x64_27 x70_31 x71_32 (.lit (.bool false)) T22 n22
  )
 )
noncomputable def g4_b1 (c0 : AV) (m0 : Nat) (ro : List HT) (lp1 : AV → AV → AV → AV → AV → AV → HT → Nat → R) (y0 y2 y3 y4 y5 y6 : AV) (T4 : HT) (n4 : Nat) : R :=
 ltK Tryz.prog 3 (.tmp 25) (.tmp 26) 40024 y6 y0 fun x27_6 =>
 condK 40025 x27_6
 (
  bin0 Tryz.prog .rem 3 (.tmp 30) (.const (.int .i64 (.ofNat 2))) 40030 y6 (.lit (.int .i64 (.ofNat 2))) fun x31_8 =>
  eqK Tryz.prog 3 (.tmp 31) (.const (.int .i64 (.ofNat 0))) 40031 x31_8 (.lit (.int .i64 (.ofNat 0))) fun x32_9 =>
  condK 40032 x32_9
  (
   callK (g17 ro T4 n4) fun x34_10 T6 n6 =>
   bsK 40035 T6 n6 2 25 1 [(0, y5), (1, x34_10)] fun x35_11 T7 n7 =>
   callK (g10 ro x35_11 T7 n7) fun x36_12 T8 n8 =>
   g4_k2 c0 m0 ro lp1 y0 y2 y3 y4 x36_12 y6 T8 n8
  )
  (
   bsK 40039 T4 n4 1 25 1 [(0, y5)] fun x38_13 T9 n9 =>
   callK (g11 ro x38_13 T9 n9) fun x39_14 T10 n10 =>
   g4_k2 c0 m0 ro lp1 y0 y2 y3 y4 (.iface 32 x39_14) y6 T10 n10
  )
 )
 (
  callK (g19 ro (.lit (.string ⟨⟨[97]⟩⟩)) T4 n4) fun x42_15 T11 n11 =>
  callK (g17 ro T11 n11) fun x43_16 T12 n12 =>
  callK (g18 ro y4 x42_15 x43_16 T12 n12) fun x44_17 T13 n13 =>
  bin0 Tryz.prog .neq 36 (.tmp 45) (.const (.nilIface)) 40049 x44_17 (.lit (.nilIface)) fun x46_18 =>
  condK 40125 x46_18
  (
   g4_k3 c0 m0 ro y2 y3 y4 y5 (.lit (.bool true)) T13 n13
  )
  (
   callK (g20 ro (.iface 43 y4) T13 n13) fun x50_41 T36 n36 =>
   g4_k3 c0 m0 ro y2 y3 y4 y5 x50_41 T36 n36
  )
 )
noncomputable def g4 (c0 : AV) (m0 : Nat) (ro : List HT) (q0 : AV) (T : HT) (nx : Nat) : R :=
 callK (.ok (.val (.lit (.bool true))) T nx) fun x15_1 T1 n1 =>
 notK 40005 x15_1 fun x17_2 =>
 condK 40006 x17_2
 (
  .bad 40007
 )
 (
  callK (isK (.lit (.int .i64 (.ofNat 20))) m0 c0 T1 n1) fun x19_3 T2 n2 =>
  callK (g16 ro T2 n2) fun x20_4 T3 n3 =>
  bin0 Tryz.prog .eql 43 (.tmp 21) (.const (.pointer none)) 40014 x20_4 (.lit (.pointer none)) fun x22_5 =>
  condK 40015 x22_5
  (
   .bad 40016
  )
  (
   lpf6 40021 (g4_b1 c0 m0 ro) 100000 x19_3 (.lit (.bool false)) x15_1 x20_4 (.iface 43 x20_4) (.lit (.int .i64 (.ofNat 0))) T3 n3
  )
 )
theorem g4_ok (c0 : AV) (m0 : Nat) (q0 : AV) (hC0 : ∀ z ro T nx, GOk Tryz.prog envE 7 [q0, z] ro T nx (isK z m0 c0 T nx)) (ro : List HT) (T : HT) (nx : Nat) (hF : GOk Tryz.prog envE 6 [] ro T nx (.ok (.val (.lit (.bool true))) T nx)) : GOk Tryz.prog envE 4 [q0] ro T nx (g4 c0 m0 ro q0 T nx) := by
 refine GOk.of_body Tryz.func4 rfl Tryz.ntmps4 (by kernel_rfl) rfl fun r T' n' h1 w0 base ρ0 its hS hP => ?_
 have X : CtxW envE ρ0 ro r T' n' := trivial
 unfold g4 at h1
 refine sr ?_
 refine as_ ?_
 refine dn ?_
 refine sr ?_
 refine LV.call hS h1 (hF) hP rfl rfl rfl rfl fun x15_1 T1 n1 h2 ρ its hS => ?_
 refine as_ ?_
 refine dn ?_
 refine CV.seq ?_
 refine sr ?_
 refine mv ?_
 refine vy (V.not h2 rfl) fun x17_2 h3 => ?_
 refine dn ?_
 refine CV.cond h3 rfl (fun e h4 => ?_) (fun e h4 => ?_)
 ·
  clear h1 h2 h3
  subst e
  cases h4
 ·
  clear h1 h2 h3
  subst e
  refine CV.skip ?_
  refine PV.thenN ?_
  refine sr ?_
  refine mv ?_
  refine LV.call hS h4 (hC0 _ _ _ _) hP rfl rfl rfl rfl fun x19_3 T2 n2 h5 ρ its hS => ?_
  refine as_ ?_
  refine dn ?_
  refine sr ?_
  refine LV.call hS h5 (g16_ok _ _ _ ) hP rfl rfl rfl rfl fun x20_4 T3 n3 h6 ρ its hS => ?_
  refine as_ ?_
  refine dn ?_
  refine CV.seq ?_
  refine sr ?_
  refine mv ?_
  refine vy (V.bin0 h6 rfl rfl) fun x22_5 h7 => ?_
  refine dn ?_
  refine CV.cond h7 rfl (fun e h8 => ?_) (fun e h8 => ?_)
  ·
   clear h4 h5 h6 h7
   subst e
   cases h8
  ·
   clear h4 h5 h6 h7
   subst e
   refine CV.skip ?_
   refine PV.thenN ?_
   refine sr ?_
   refine mv ?_
   refine sv (VAL.mkI rfl Vff.ni43) ?_
   refine as_ ?_
   refine dn ?_
   refine CV.seq ?_
   refine sr ?_
   refine as_ ?_
   refine dn ?_
   refine CV.block ?_
   refine cl6 X 0 2 3 4 5 6 [] hS h8 ⟨rfl, rfl, rfl, rfl, rfl, rfl, trivial⟩ ?_
   intro f1 y0 y2 y3 y4 y5 y6 T4 n4 ρ its hS h9
   unfold g4_b1 at h9
   clear h8
   refine CV.seq ?_
   refine sr ?_
   refine mv ?_
   refine mv ?_
   refine vy (V.lt h9 rfl rfl) fun x27_6 h10 => ?_
   refine dn ?_
   refine CV.cond h10 rfl (fun e h11 => ?_) (fun e h11 => ?_)
   ·
    clear h9 h10
    subst e
    refine CV.skip ?_
    refine PV.thenN ?_
    refine cs6 X 0 2 3 4 5 6 [] (g4_k2 c0 m0 ro (lpf6 40021 (g4_b1 c0 m0 ro) f1)) ?_ ?_
    ·
     refine CV.block ?_
     refine sr ?_
     refine mv ?_
     refine vy (V.bin0 h11 rfl rfl) fun x31_8 h14 => ?_
     refine vy (V.eq h14 rfl rfl) fun x32_9 h15 => ?_
     refine dn ?_
     refine CV.cond h15 rfl (fun e h16 => ?_) (fun e h16 => ?_)
     ·
      clear h11 h14 h15
      subst e
      refine CV.region ?_
      refine mv ?_
      refine LV.call hS h16 (g17_ok _ _ _ ) hP rfl rfl rfl rfl fun x34_10 T6 n6 h17 ρ its hS => ?_
      refine LV.bslice hS h17 rfl rfl Vff.el71 rfl rfl rfl rfl fun x35_11 T7 n7 h18 ρ its hS hdr => ?_
      refine LV.call hS h18 (g10_ok _ _ _ _ ) hP rfl rfl rfl rfl fun x36_12 T8 n8 h19 ρ its hS => ?_
      refine as_ ?_
      refine LV.done ?_
      refine PV.blockN ?_
      exact pa6 hS h19 ⟨rfl, rfl, rfl, rfl, rfl, rfl, trivial⟩
     ·
      clear h11 h14 h15
      subst e
      refine CV.region ?_
      refine mv ?_
      refine LV.bslice hS h16 rfl rfl Vff.el71 rfl rfl rfl rfl fun x38_13 T9 n9 h20 ρ its hS hdr => ?_
      refine LV.call hS h20 (g11_ok _ _ _ _ ) hP rfl rfl rfl rfl fun x39_14 T10 n10 h21 ρ its hS => ?_
      refine sv (VAL.mkI rfl Vff.ni32) ?_
      refine as_ ?_
      refine LV.done ?_
      refine PV.blockN ?_
      exact pa6 hS h21 ⟨rfl, rfl, rfl, rfl, rfl, rfl, trivial⟩
    ·
     intro y0 y2 y3 y4 y5 y6 T5 n5 ρ its hS h12
     unfold g4_k2 at h12
     clear h11
     refine CV.region ?_
     refine mv ?_
     refine vy (V.add h12 rfl rfl) fun x29_7 h13 => ?_
     refine as_ ?_
     refine LV.done ?_
     exact pb6 hS h13 ⟨rfl, rfl, rfl, rfl, rfl, rfl, trivial⟩
   ·
    clear h9 h10
    subst e
    refine CV.exit ?_
    refine PV.thenE ?_
    refine PV.thenE ?_
    refine PV.blockE ?_
    refine PV.thenN ?_
    refine sr ?_
    refine mv ?_
    refine LV.call hS h11 (g19_ok _ _ _ _ ) hP rfl rfl rfl rfl fun x42_15 T11 n11 h22 ρ its hS => ?_
    refine LV.call hS h22 (g17_ok _ _ _ ) hP rfl rfl rfl rfl fun x43_16 T12 n12 h23 ρ its hS => ?_
    refine LV.call hS h23 (g18_ok _ _ _ _ _ _ ) hP rfl rfl rfl rfl fun x44_17 T13 n13 h24 ρ its hS => ?_
    refine as_ ?_
    refine dn ?_
    refine CV.seq ?_
    refine sr ?_
    refine mv ?_
    refine vy (V.bin0 h24 rfl rfl) fun x46_18 h25 => ?_
    refine mv ?_
    refine ls5 X 2 3 4 5 51 [] (g4_k3 c0 m0 ro) 4 ?_ ?_
    ·
     rcases condK_inv h25 with ⟨e, h64⟩ | ⟨e, h64⟩
     ·
      clear h11 h22 h23 h24 h25
      subst e
      refine sk ?_
      refine sk ?_
      refine sk ?_
      refine pu ?_
      exact la5 hS h64 ⟨rfl, rfl, rfl, rfl, rfl, trivial⟩
     ·
      clear h11 h22 h23 h24 h25
      subst e
      refine mv ?_
      refine sv (VAL.mkI rfl Vff.ni43) ?_
      refine LV.call hS h64 (g20_ok _ _ _ _ ) hP rfl rfl rfl rfl fun x50_41 T36 n36 h65 ρ its hS => ?_
      refine pu ?_
      exact la5 hS h65 ⟨rfl, rfl, rfl, rfl, rfl, trivial⟩
    ·
     intro y2 y3 y4 y5 y51 T14 n14 ρ its hS h26
     unfold g4_k3 at h26
     clear h11 h22 h23 h24 h25
     refine dn ?_
     refine CV.cond h26 rfl (fun e h27 => ?_) (fun e h27 => ?_)
     ·
      clear h26
      subst e
      cases h27
     ·
      clear h26
      subst e
      refine CV.skip ?_
      refine PV.thenN ?_
      refine sr ?_
      refine mv ?_
      refine LV.call hS h27 (g21_ok _ _ _ _ ) hP rfl rfl rfl rfl fun x53_19 T15 n15 h28 ρ its hS => ?_
      refine dn ?_
      refine sr ?_
      refine mv ?_
      refine LV.call hS h28 (g19_ok _ _ _ _ ) hP rfl rfl rfl rfl fun x55_20 T16 n16 h29 ρ its hS => ?_
      refine LV.call hS h29 (g17_ok _ _ _ ) hP rfl rfl rfl rfl fun x56_21 T17 n17 h30 ρ its hS => ?_
      refine LV.call hS h30 (g18_ok _ _ _ _ _ _ ) hP rfl rfl rfl rfl fun x57_22 T18 n18 h31 ρ its hS => ?_
      refine as_ ?_
      refine dn ?_
      refine sr ?_
      refine mv ?_
      refine LV.call hS h31 (g19_ok _ _ _ _ ) hP rfl rfl rfl rfl fun x60_23 T19 n19 h32 ρ its hS => ?_
      refine LV.call hS h32 (g22_ok _ _ _ _ _ ) hP rfl rfl rfl rfl fun x61_24 T20 n20 h33 ρ its hS => ?_
      refine mv ?_
      refine vy (V.ex h33 rfl) fun x62_25 h34 => ?_
      refine vy (V.ex h34 rfl) fun x63_26 h35 => ?_
      refine vy (V.ex h35 rfl) fun x64_27 h36 => ?_
      refine as_ ?_
      refine as_ ?_
      refine as_ ?_
      refine dn ?_
      refine sr ?_
      refine mv ?_
      refine LV.call hS h36 (g19_ok _ _ _ _ ) hP rfl rfl rfl rfl fun x67_28 T21 n21 h37 ρ its hS => ?_
      refine LV.call hS h37 (g23_ok _ _ _ _ _ ) hP rfl rfl rfl rfl fun x68_29 T22 n22 h38 ρ its hS => ?_
      refine mv ?_
      refine vy (V.ex h38 rfl) fun x69_30 h39 => ?_
      refine vy (V.ex h39 rfl) fun x70_31 h40 => ?_
      refine vy (V.ex h40 rfl) fun x71_32 h41 => ?_
      refine as_ ?_
      refine as_ ?_
      refine as_ ?_
      refine dn ?_
      refine sr ?_
      refine mv ?_
      refine mv ?_
      refine ls7 X 2 4 8 11 13 14 77 [] (g4_k4 c0 m0 ro) 4 ?_ ?_
      ·
       rcases condK_inv h41 with ⟨e, h62⟩ | ⟨e, h62⟩
       ·
        clear h27 h28 h29 h30 h31 h32 h33 h34 h35 h36 h37 h38 h39 h40 h41
        subst e
        refine mv ?_
        refine sv (VAL.mkI rfl Vff.ni43) ?_
        refine LV.call hS h62 (g20_ok _ _ _ _ ) hP rfl rfl rfl rfl fun x76_40 T35 n35 h63 ρ its hS => ?_
        refine pu ?_
        exact la7 hS h63 ⟨rfl, rfl, rfl, rfl, rfl, rfl, rfl, trivial⟩
       ·
        clear h27 h28 h29 h30 h31 h32 h33 h34 h35 h36 h37 h38 h39 h40 h41
        subst e
        refine sk ?_
        refine sk ?_
        refine sk ?_
        refine pu ?_
        exact la7 hS h62 ⟨rfl, rfl, rfl, rfl, rfl, rfl, rfl, trivial⟩
      ·
       intro y2 y4 y8 y11 y13 y14 y77 T23 n23 ρ its hS h42
       unfold g4_k4 at h42
       clear h27 h28 h29 h30 h31 h32 h33 h34 h35 h36 h37 h38 h39 h40 h41
       refine mv ?_
       refine ls6 X 2 4 11 13 14 81 [] (g4_k5 c0 m0 ro) 3 ?_ ?_
       ·
        rcases condK_inv h42 with ⟨e, h60⟩ | ⟨e, h60⟩
        ·
         clear h42
         subst e
         refine mv ?_
         refine LV.call hS h60 (g15_ok _ _ _ _ _ ) hP rfl rfl rfl rfl fun x80_39 T34 n34 h61 ρ its hS => ?_
         refine pu ?_
         exact la6 hS h61 ⟨rfl, rfl, rfl, rfl, rfl, rfl, trivial⟩
        ·
         clear h42
         subst e
         refine sk ?_
         refine sk ?_
         refine pu ?_
         exact la6 hS h60 ⟨rfl, rfl, rfl, rfl, rfl, rfl, trivial⟩
       ·
        intro y2 y4 y11 y13 y14 y81 T24 n24 ρ its hS h43
        unfold g4_k5 at h43
        clear h42
        refine mv ?_
        refine ls5 X 2 4 13 14 85 [] (g4_k6 c0 m0 ro) 3 ?_ ?_
        ·
         rcases condK_inv h43 with ⟨e, h58⟩ | ⟨e, h58⟩
         ·
          clear h43
          subst e
          refine mv ?_
          refine LV.call hS h58 (g15_ok _ _ _ _ _ ) hP rfl rfl rfl rfl fun x84_38 T33 n33 h59 ρ its hS => ?_
          refine pu ?_
          exact la5 hS h59 ⟨rfl, rfl, rfl, rfl, rfl, trivial⟩
         ·
          clear h43
          subst e
          refine sk ?_
          refine sk ?_
          refine pu ?_
          exact la5 hS h58 ⟨rfl, rfl, rfl, rfl, rfl, trivial⟩
        ·
         intro y2 y4 y13 y14 y85 T25 n25 ρ its hS h44
         unfold g4_k6 at h44
         clear h43
         refine mv ?_
         refine ls4 X 2 4 14 88 [] (g4_k7 c0 m0 ro) 2 ?_ ?_
         ·
          rcases condK_inv h44 with ⟨e, h57⟩ | ⟨e, h57⟩
          ·
           clear h44
           subst e
           refine mv ?_
           refine pu ?_
           exact la4 hS h57 ⟨rfl, rfl, rfl, rfl, trivial⟩
          ·
           clear h44
           subst e
           refine sk ?_
           refine pu ?_
           exact la4 hS h57 ⟨rfl, rfl, rfl, rfl, trivial⟩
         ·
          intro y2 y4 y14 y88 T26 n26 ρ its hS h45
          unfold g4_k7 at h45
          clear h44
          refine mv ?_
          refine ls3 X 2 4 92 [] (g4_k8 c0 m0 ro) 3 ?_ ?_
          ·
           rcases condK_inv h45 with ⟨e, h55⟩ | ⟨e, h55⟩
           ·
            clear h45
            subst e
            refine mv ?_
            refine vy (V.bin0 h55 rfl rfl) fun x91_37 h56 => ?_
            refine pu ?_
            exact la3 hS h56 ⟨rfl, rfl, rfl, trivial⟩
           ·
            clear h45
            subst e
            refine sk ?_
            refine sk ?_
            refine pu ?_
            exact la3 hS h55 ⟨rfl, rfl, rfl, trivial⟩
          ·
           intro y2 y4 y92 T27 n27 ρ its hS h46
           unfold g4_k8 at h46
           clear h45
           refine mv ?_
           refine ls2 X 2 97 [] (g4_k9 c0 m0 ro) 4 ?_ ?_
           ·
            rcases condK_inv h46 with ⟨e, h52⟩ | ⟨e, h52⟩
            ·
             clear h46
             subst e
             refine mv ?_
             refine LV.call hS h52 (g24_ok _ _ _ _ ) hP rfl rfl rfl rfl fun x95_35 T32 n32 h53 ρ its hS => ?_
             refine vy (V.eq h53 rfl rfl) fun x96_36 h54 => ?_
             refine pu ?_
             exact la2 hS h54 ⟨rfl, rfl, trivial⟩
            ·
             clear h46
             subst e
             refine sk ?_
             refine sk ?_
             refine sk ?_
             refine pu ?_
             exact la2 hS h52 ⟨rfl, rfl, trivial⟩
           ·
            intro y2 y97 T28 n28 ρ its hS h47
            unfold g4_k9 at h47
            clear h46
            refine mv ?_
            refine ls2 X 2 101 [] (g4_k10 c0 m0 ro) 3 ?_ ?_
            ·
             rcases condK_inv h47 with ⟨e, h49⟩ | ⟨e, h49⟩
             ·
              clear h47
              subst e
              refine LV.call hS h49 (g17_ok _ _ _ ) hP rfl rfl rfl rfl fun x99_33 T30 n30 h50 ρ its hS => ?_
              refine LV.call hS h50 (g20_ok _ _ _ _ ) hP rfl rfl rfl rfl fun x100_34 T31 n31 h51 ρ its hS => ?_
              refine pu ?_
              exact la2 hS h51 ⟨rfl, rfl, trivial⟩
             ·
              clear h47
              subst e
              refine sk ?_
              refine sk ?_
              refine pu ?_
              exact la2 hS h49 ⟨rfl, rfl, trivial⟩
            ·
             intro y2 y101 T29 n29 ρ its hS h48
             unfold g4_k10 at h48
             clear h47
             refine as_ ?_
             refine dn ?_
             refine CV.ret ?_
             cases h48
             exact PV.ret (by simp) Tryz.results4 hS (RS.tmp rfl RS.nil) rfl

end Go.Proofs.YtlljgagoboapaaaGreatDoor.Vf
