/-
  Proved here: plain functions that do what the program's functions do, each with its proof.
-/
import Derived.Test.YtlljgagoboapaaaGreatDoorVdh
namespace Go.Proofs.YtlljgagoboapaaaGreatDoor.Vd
open Go.EY Go.EX Go.SX Go.RowKit
noncomputable def g51_k1 (ih : FuncId → List HT → List AV → HT → Nat → R) (ro : List HT) (y37 : AV) (T4 : HT) (n4 : Nat) : R :=
 .ok (.val (.tup [y37, (.lit (.nilIface))])) T4 n4
noncomputable def g51 (ih : FuncId → List HT → List AV → HT → Nat → R) (ro : List HT) (a0 a1 a2 a3 : AV) (T : HT) (nx : Nat) : R :=
 callK (g60 ro a0 a3 T nx) fun x18_1 T1 n1 =>
 bin0 Tryz.prog .neq 36 (.tmp 19) (.const (.nilIface)) 510008 x18_1 (.lit (.nilIface)) fun x20_2 =>
 condK 510009 x20_2
 (
  .bad 510010
 )
 (
  callK (ifcK 510012 a1 fun tr xr => Bool.rec (motive := fun _ => R) (Bool.rec (motive := fun _ => R) (Bool.rec (motive := fun _ => R) (Bool.rec (motive := fun _ => R) (Bool.rec (motive := fun _ => R) (Bool.rec (motive := fun _ => R) (.bad 510012) (g314 ro xr T1 n1) (Nat.beq tr 104)) (g313 ro xr T1 n1) (Nat.beq tr 100)) (g312 ro xr T1 n1) (Nat.beq tr 72)) (g311 ro xr T1 n1) (Nat.beq tr 67)) (g310 ro xr T1 n1) (Nat.beq tr 43)) (g308 ro xr T1 n1) (Nat.beq tr 32)) fun x23_3 T2 n2 =>
  callK (ifcK 510014 a2 fun tr xr => Bool.rec (motive := fun _ => R) (Bool.rec (motive := fun _ => R) (Bool.rec (motive := fun _ => R) (Bool.rec (motive := fun _ => R) (Bool.rec (motive := fun _ => R) (Bool.rec (motive := fun _ => R) (.bad 510014) (g314 ro xr T2 n2) (Nat.beq tr 104)) (g313 ro xr T2 n2) (Nat.beq tr 100)) (g312 ro xr T2 n2) (Nat.beq tr 72)) (g311 ro xr T2 n2) (Nat.beq tr 67)) (g310 ro xr T2 n2) (Nat.beq tr 43)) (g308 ro xr T2 n2) (Nat.beq tr 32)) fun x25_4 T3 n3 =>
  neK Tryz.prog 3 (.tmp 23) (.tmp 25) 510015 x23_3 x25_4 fun x26_5 =>
  condK 510016 x26_5
  (
   .ok (.val (.tup [(.lit (.bool false)), (.iface 347 (.opq 3))])) T3 n3
  )
  (
   asK 510021 a1 123 (.tup [.lit (.bool false), .lit (.bool false)]) fun x29_6 =>
   exK 510022 x29_6 1 fun x30_7 =>
   exK 510023 x29_6 0 fun x31_8 =>
   condK 510024 x30_7
   (
    notK 510027 x31_8 fun x33_9 =>
    condK 510031 x33_9
    (
     as1K 510033 a2 123 fun x36_10 =>
     g51_k1 ih ro x36_10 T3 n3
    )
    (
     g51_k1 ih ro (.lit (.bool false)) T3 n3
    )
   )
   (
    asK 510036 a1 67 (.tup [.lit (.agg #[.bool false, .slice none 0 0]), .lit (.bool false)]) fun x38_11 =>
    exK 510037 x38_11 1 fun x39_12 =>
    exK 510038 x38_11 0 fun x40_13 =>
    condK 510039 x39_12
    (
     newK T3 n3 (.obj [.lit (.bool false), .lit (.slice none 0 0)] 67) fun x12_14 T5 n5 =>
     stAK 510041 T5 x12_14 x40_13 2 fun T6 =>
     faK 510042 x12_14 0 fun x41_15 =>
     ldAK 510043 T6 ro x41_15 2 fun x42_16 =>
     as1K 510045 a2 67 fun x44_17 =>
     fdAK 510046 x44_17 0 2 fun x45_18 =>
     callK (g61 ro x42_16 x45_18 T6 n5) fun x46_19 T7 n7 =>
     ltK Tryz.prog 3 (.tmp 46) (.const (.int .i64 (.ofNat 0))) 510048 x46_19 (.lit (.int .i64 (.ofNat 0))) fun x47_20 =>
     .ok (.val (.tup [x47_20, (.lit (.nilIface))])) T7 n7
    )
    (
     asK 510051 a1 104 (.tup [.lit (.string ⟨#[]⟩), .lit (.bool false)]) fun x48_21 =>
     exK 510052 x48_21 1 fun x49_22 =>
     exK 510053 x48_21 0 fun x50_23 =>
     condK 510054 x49_22
     (
      as1K 510058 a2 104 fun x53_24 =>
      bin0 Tryz.prog .lss 104 (.tmp 51) (.tmp 53) 510059 x50_23 x53_24 fun x54_25 =>
      .ok (.val (.tup [x54_25, (.lit (.nilIface))])) T3 n3
     )
     (
      asK 510062 a1 32 (.tup [.lit (.pointer none), .lit (.bool false)]) fun x55_26 =>
      exK 510063 x55_26 1 fun x56_27 =>
      exK 510064 x55_26 0 fun x57_28 =>
      condK 510065 x56_27
      (
       ncK 510069 x57_28 fun x60_29 =>
       faK 510070 x60_29 0 fun x61_30 =>
       ldK 510071 T3 ro x61_30 fun x62_31 =>
       as1K 510073 a2 32 fun x64_32 =>
       ncK 510074 x64_32 fun x65_33 =>
       faK 510075 x65_33 0 fun x66_34 =>
       ldK 510076 T3 ro x66_34 fun x67_35 =>
       callK (ih 91 ro [a0, x62_31, x67_35, a3] T3 n3) fun x69_36 T8 n8 =>
       exK 510079 x69_36 0 fun x70_37 =>
       exK 510080 x69_36 1 fun x71_38 =>
       .ok (.val (.tup [x70_37, x71_38])) T8 n8
      )
      (
       asK 510083 a1 72 (.tup [.lit (.pointer none), .lit (.bool false)]) fun x72_39 =>
       exK 510084 x72_39 1 fun x73_40 =>
       exK 510085 x72_39 0 fun x74_41 =>
       condK 510086 x73_40
       (
        ncK 510090 x74_41 fun x77_42 =>
        faK 510091 x77_42 0 fun x78_43 =>
        ldK 510092 T3 ro x78_43 fun x79_44 =>
        as1K 510094 a2 72 fun x81_45 =>
        ncK 510095 x81_45 fun x82_46 =>
        faK 510096 x82_46 0 fun x83_47 =>
        ldK 510097 T3 ro x83_47 fun x84_48 =>
        callK (ih 91 ro [a0, x79_44, x84_48, a3] T3 n3) fun x86_49 T9 n9 =>
        exK 510100 x86_49 0 fun x87_50 =>
        exK 510101 x86_49 1 fun x88_51 =>
        .ok (.val (.tup [x87_50, x88_51])) T9 n9
       )
       (
        .ok (.val (.tup [(.lit (.bool false)), (.iface 347 (.opq 3))])) T3 n3
       )
      )
     )
    )
   )
  )
 )
theorem g51_ok (ih : FuncId → List HT → List AV → HT → Nat → R) (hI : ∀ f ro args T nx, GOk Tryz.prog envE f args ro T nx (ih f ro args T nx)) (ro : List HT) (a0 a1 a2 a3 : AV) (T : HT) (nx : Nat) : GOk Tryz.prog envE 51 [a0, a1, a2, a3] ro T nx (g51 ih ro a0 a1 a2 a3 T nx) := by
 refine GOk.of_body Tryz.func51 rfl Tryz.ntmps51 (by kernel_rfl) rfl fun r T' n' h1 w0 base ρ0 its hS hP => ?_
 have X : CtxW envE ρ0 ro r T' n' := trivial
 unfold g51 at h1
 refine sr ?_
 refine as_ ?_
 refine as_ ?_
 refine dn ?_
 refine CV.seq ?_
 refine sr ?_
 refine mv ?_
 refine mv ?_
 refine LV.call hS h1 (g60_ok _ _ _ _ _ ) hP rfl rfl rfl rfl fun x18_1 T1 n1 h2 ρ its hS => ?_
 refine as_ ?_
 refine dn ?_
 refine sr ?_
 refine mv ?_
 refine vy (V.bin0 h2 rfl rfl) fun x20_2 h3 => ?_
 refine dn ?_
 refine CV.cond h3 rfl (fun e h4 => ?_) (fun e h4 => ?_)
 ·
  clear h1 h2 h3
  subst e
  cases h4
 ·
  clear h1 h2 h3
  subst e
  refine CV.skip ?_
  refine PV.thenN ?_
  refine CV.seq ?_
  refine sr ?_
  refine mv ?_
  refine LV.inv hS h4 (GMk.ifc fun tr xr _ => GMk.one Vdf.inv32_Kind_308 (g308_ok _ _ _ _ ) (GMk.one Vdf.inv43_Kind_310 (g310_ok _ _ _ _ ) (GMk.one Vdf.inv67_Kind_311 (g311_ok _ _ _ _ ) (GMk.one Vdf.inv72_Kind_312 (g312_ok _ _ _ _ ) (GMk.one Vdf.inv100_Kind_313 (g313_ok _ _ _ _ ) (GMk.one Vdf.inv104_Kind_314 (g314_ok _ _ _ _ ) (GMk.bad))))))) hP rfl rfl rfl rfl rfl rfl rfl fun x23_3 T2 n2 h5 ρ its hS => ?_
  refine mv ?_
  refine LV.inv hS h5 (GMk.ifc fun tr xr _ => GMk.one Vdf.inv32_Kind_308 (g308_ok _ _ _ _ ) (GMk.one Vdf.inv43_Kind_310 (g310_ok _ _ _ _ ) (GMk.one Vdf.inv67_Kind_311 (g311_ok _ _ _ _ ) (GMk.one Vdf.inv72_Kind_312 (g312_ok _ _ _ _ ) (GMk.one Vdf.inv100_Kind_313 (g313_ok _ _ _ _ ) (GMk.one Vdf.inv104_Kind_314 (g314_ok _ _ _ _ ) (GMk.bad))))))) hP rfl rfl rfl rfl rfl rfl rfl fun x25_4 T3 n3 h6 ρ its hS => ?_
  refine vy (V.ne h6 rfl rfl) fun x26_5 h7 => ?_
  refine dn ?_
  refine CV.cond h7 rfl (fun e h8 => ?_) (fun e h8 => ?_)
  ·
   clear h4 h5 h6 h7
   subst e
   refine CV.seq ?_
   refine CV.regionM [(0, .held), (1, .anywhere), (2, .held)] rfl (fun c a a' w hd hq => PanicOk.root (P := Tryz.prog) (fn := Tryz.f51) (w0 := w0) (base := base) (E := envE) (ro := ro) (r := r) (T' := T') (n' := n') (ρ0 := ρ0) c a a' w hd hq) (by kernel_rfl) ?_
   refine MV.step1 (i := 0) rfl (fun _ z => z) (VAL.ldG hS (by rfl) Vdf.one36) rfl rfl rfl [] (by kernel_rfl) ?_
   refine MV.step0 (i := 1) rfl (VAL.assign rfl) rfl rfl rfl ?_
   refine MV.step1 (i := 2) rfl (fun _ z => z) (VAL.assign rfl) rfl rfl rfl [] (by kernel_rfl) ?_
   refine mdn ?_
   refine CV.ret ?_
   refine PV.thenR ?_
   cases h8
   exact PV.ret (by simp) Tryz.results51 hS (RS.tmp rfl (RS.tmp rfl RS.nil)) rfl
  ·
   clear h4 h5 h6 h7
   subst e
   refine CV.skip ?_
   refine PV.thenN ?_
   refine CV.seq ?_
   refine sr ?_
   refine mv ?_
   refine dn ?_
   refine CV.block ?_
   refine sr ?_
   refine vy (V.as h8 rfl Vdf.ni123 Vdf.za123) fun x29_6 h9 => ?_
   refine vy (V.ex h9 rfl) fun x30_7 h10 => ?_
   refine vy (V.ex h10 rfl) fun x31_8 h11 => ?_
   refine dn ?_
   refine CV.cond h11 rfl (fun e h12 => ?_) (fun e h12 => ?_)
   ·
    clear h8 h9 h10 h11
    subst e
    refine sr ?_
    refine as_ ?_
    refine dn ?_
    refine sr ?_
    refine mv ?_
    refine vy (V.not h12 rfl) fun x33_9 h13 => ?_
    refine mv ?_
    refine ls1 X 37 [(8, (.lit (.bool false))), (9, (.lit (.nilIface)))] (g51_k1 ih ro) 3 ?_ ?_
    ·
     rcases condK_inv h13 with ⟨e, h15⟩ | ⟨e, h15⟩
     ·
      clear h12 h13
      subst e
      refine mv ?_
      refine vy (V.as1 h15 rfl Vdf.ni123) fun x36_10 h16 => ?_
      refine pu ?_
      exact la1 hS h16 ⟨rfl, rfl, rfl, trivial⟩
     ·
      clear h12 h13
      subst e
      refine sk ?_
      refine sk ?_
      refine pu ?_
      exact la1 hS h15 ⟨rfl, rfl, rfl, trivial⟩
    ·
     intro y37 T4 n4 ρ its hS h14
     unfold g51_k1 at h14
     clear h12 h13
     refine as_ ?_
     refine as_ ?_
     refine dn ?_
     refine CV.ret ?_
     refine PV.blockR ?_
     refine PV.thenR ?_
     cases h14
     exact PV.ret (by simp) Tryz.results51 hS (RS.tmp rfl (RS.tmp rfl RS.nil)) rfl
   ·
    clear h8 h9 h10 h11
    subst e
    refine sr ?_
    refine vy (V.as h12 rfl Vdf.ni67 Vdf.za67) fun x38_11 h17 => ?_
    refine vy (V.ex h17 rfl) fun x39_12 h18 => ?_
    refine vy (V.ex h18 rfl) fun x40_13 h19 => ?_
    refine dn ?_
    refine CV.cond h19 rfl (fun e h20 => ?_) (fun e h20 => ?_)
    ·
     clear h12 h17 h18 h19
     subst e
     refine sr ?_
     refine LV.alloc hS h20 rfl Vdf.zr67 rfl rfl rfl fun x12_14 T5 n5 h21 ρ its hS hdr => ?_
     refine LV.stA hS h21 rfl rfl rfl Vdf.agg67 rfl rfl rfl fun T6 its h22 hS => ?_
     refine dn ?_
     refine CV.seq ?_
     refine CV.regionM [(0, .anywhere), (1, .held), (2, .anywhere), (3, .anywhere), (4, .anywhere), (5, .alone), (6, .alone), (7, .alone), (8, .alone)] rfl (fun c a a' w hd hq => PanicOk.root (P := Tryz.prog) (fn := Tryz.f51) (w0 := w0) (base := base) (E := envE) (ro := ro) (r := r) (T' := T') (n' := n') (ρ0 := ρ0) c a a' w hd hq) (by kernel_rfl) ?_
     refine MV.lift0 (i := 0) rfl (V.fa h22 rfl Vdf.fo67_1) rfl rfl rfl fun x41_15 h23 => ?_
     refine MV.lift1 (i := 1) rfl (fun _ z => z) (V.ldA hS h23 rfl Vdf.agg29) rfl rfl rfl [] (by kernel_rfl) fun x42_16 h24 => ?_
     refine MV.step0 (i := 2) rfl (VAL.move rfl) rfl rfl rfl ?_
     refine MV.lift0 (i := 3) rfl (V.as1 h24 rfl Vdf.ni67) rfl rfl rfl fun x44_17 h25 => ?_
     refine MV.lift0 (i := 4) rfl (V.fdA h25 rfl Vdf.fda67_1) rfl rfl rfl fun x45_18 h26 => ?_
     refine MV.force (i := 5) rfl ?_
     refine LV.call hS h26 (g61_ok _ _ _ _ _ ) hP rfl rfl rfl rfl fun x46_19 T7 n7 h27 ρ its hS => ?_
     refine LV.nextM [] (by kernel_rfl) (fun z => absurd rfl z) ?_
     refine MV.force (i := 6) rfl ?_
     refine vy (V.lt h27 rfl rfl) fun x47_20 h28 => ?_
     refine LV.nextM [] (by kernel_rfl) (fun z => absurd rfl z) ?_
     refine MV.force (i := 7) rfl ?_
     refine as_ ?_
     refine LV.nextM [] (by kernel_rfl) (fun z => absurd rfl z) ?_
     refine MV.force (i := 8) rfl ?_
     refine as_ ?_
     refine LV.nextM [] (by kernel_rfl) (fun z => absurd rfl z) ?_
     refine mdn ?_
     refine CV.ret ?_
     refine PV.blockR ?_
     refine PV.thenR ?_
     cases h28
     exact PV.ret (by simp) Tryz.results51 hS (RS.tmp rfl (RS.tmp rfl RS.nil)) rfl
    ·
     clear h12 h17 h18 h19
     subst e
     refine sr ?_
     refine vy (V.as h20 rfl Vdf.ni104 Vdf.za104) fun x48_21 h29 => ?_
     refine vy (V.ex h29 rfl) fun x49_22 h30 => ?_
     refine vy (V.ex h30 rfl) fun x50_23 h31 => ?_
     refine dn ?_
     refine CV.cond h31 rfl (fun e h32 => ?_) (fun e h32 => ?_)
     ·
      clear h20 h29 h30 h31
      subst e
      refine sr ?_
      refine as_ ?_
      refine dn ?_
      refine sr ?_
      refine mv ?_
      refine mv ?_
      refine vy (V.as1 h32 rfl Vdf.ni104) fun x53_24 h33 => ?_
      refine vy (V.bin0 h33 rfl rfl) fun x54_25 h34 => ?_
      refine as_ ?_
      refine as_ ?_
      refine dn ?_
      refine CV.ret ?_
      refine PV.blockR ?_
      refine PV.thenR ?_
      cases h34
      exact PV.ret (by simp) Tryz.results51 hS (RS.tmp rfl (RS.tmp rfl RS.nil)) rfl
     ·
      clear h20 h29 h30 h31
      subst e
      refine sr ?_
      refine vy (V.as h32 rfl Vdf.ni32 Vdf.za32) fun x55_26 h35 => ?_
      refine vy (V.ex h35 rfl) fun x56_27 h36 => ?_
      refine vy (V.ex h36 rfl) fun x57_28 h37 => ?_
      refine dn ?_
      refine CV.cond h37 rfl (fun e h38 => ?_) (fun e h38 => ?_)
      ·
       clear h32 h35 h36 h37
       subst e
       refine sr ?_
       refine as_ ?_
       refine dn ?_
       refine CV.seq ?_
       refine CV.regionM [(0, .anywhere), (1, .anywhere), (2, .anywhere), (3, .anywhere), (4, .held), (5, .anywhere), (6, .anywhere), (7, .anywhere), (8, .anywhere), (9, .held), (10, .anywhere), (11, .alone), (12, .anywhere), (13, .alone), (14, .alone), (15, .alone)] rfl (fun c a a' w hd hq => PanicOk.root (P := Tryz.prog) (fn := Tryz.f51) (w0 := w0) (base := base) (E := envE) (ro := ro) (r := r) (T' := T') (n' := n') (ρ0 := ρ0) c a a' w hd hq) (by kernel_rfl) ?_
       refine MV.step0 (i := 0) rfl (VAL.move rfl) rfl rfl rfl ?_
       refine MV.step0 (i := 1) rfl (VAL.move rfl) rfl rfl rfl ?_
       refine MV.lift0 (i := 2) rfl (V.nc h38 rfl) rfl rfl rfl fun x60_29 h39 => ?_
       refine MV.lift0 (i := 3) rfl (V.fa h39 rfl Vdf.fo77_1) rfl rfl rfl fun x61_30 h40 => ?_
       refine MV.lift1 (i := 4) rfl (fun _ z => z) (V.ld hS h40 rfl Vdf.one71) rfl rfl rfl [] (by kernel_rfl) fun x62_31 h41 => ?_
       refine MV.step0 (i := 5) rfl (VAL.move rfl) rfl rfl rfl ?_
       refine MV.lift0 (i := 6) rfl (V.as1 h41 rfl Vdf.ni32) rfl rfl rfl fun x64_32 h42 => ?_
       refine MV.lift0 (i := 7) rfl (V.nc h42 rfl) rfl rfl rfl fun x65_33 h43 => ?_
       refine MV.lift0 (i := 8) rfl (V.fa h43 rfl Vdf.fo77_1) rfl rfl rfl fun x66_34 h44 => ?_
       refine MV.lift1 (i := 9) rfl (fun _ z => z) (V.ld hS h44 rfl Vdf.one71) rfl rfl rfl [4] (by kernel_rfl) fun x67_35 h45 => ?_
       refine MV.step0 (i := 10) rfl (VAL.move rfl) rfl rfl rfl ?_
       refine MV.force (i := 11) rfl ?_
       refine LV.call hS h45 (hI _ _ _ _ _) hP rfl rfl rfl rfl fun x69_36 T8 n8 h46 ρ its hS => ?_
       refine LV.nextM [] (by kernel_rfl) (fun z => absurd rfl z) ?_
       refine MV.lift0 (i := 12) rfl (V.ex h46 rfl) rfl rfl rfl fun x70_37 h47 => ?_
       refine MV.force (i := 13) rfl ?_
       refine vy (V.ex h47 rfl) fun x71_38 h48 => ?_
       refine LV.nextM [] (by kernel_rfl) (fun z => absurd rfl z) ?_
       refine MV.force (i := 14) rfl ?_
       refine as_ ?_
       refine LV.nextM [] (by kernel_rfl) (fun z => absurd rfl z) ?_
       refine MV.force (i := 15) rfl ?_
       refine as_ ?_
       refine LV.nextM [] (by kernel_rfl) (fun z => absurd rfl z) ?_
       refine mdn ?_
       refine CV.ret ?_
       refine PV.blockR ?_
       refine PV.thenR ?_
       cases h48
       exact PV.ret (by simp) Tryz.results51 hS (RS.tmp rfl (RS.tmp rfl RS.nil)) rfl
      ·
       clear h32 h35 h36 h37
       subst e
       refine sr ?_
       refine vy (V.as h38 rfl Vdf.ni72 Vdf.za72) fun x72_39 h49 => ?_
       refine vy (V.ex h49 rfl) fun x73_40 h50 => ?_
       refine vy (V.ex h50 rfl) fun x74_41 h51 => ?_
       refine dn ?_
       refine CV.cond h51 rfl (fun e h52 => ?_) (fun e h52 => ?_)
       ·
        clear h38 h49 h50 h51
        subst e
        refine sr ?_
        refine as_ ?_
        refine dn ?_
        refine CV.seq ?_
        refine CV.regionM [(0, .anywhere), (1, .anywhere), (2, .anywhere), (3, .anywhere), (4, .held), (5, .anywhere), (6, .anywhere), (7, .anywhere), (8, .anywhere), (9, .held), (10, .anywhere), (11, .alone), (12, .anywhere), (13, .alone), (14, .alone), (15, .alone)] rfl (fun c a a' w hd hq => PanicOk.root (P := Tryz.prog) (fn := Tryz.f51) (w0 := w0) (base := base) (E := envE) (ro := ro) (r := r) (T' := T') (n' := n') (ρ0 := ρ0) c a a' w hd hq) (by kernel_rfl) ?_
        refine MV.step0 (i := 0) rfl (VAL.move rfl) rfl rfl rfl ?_
        refine MV.step0 (i := 1) rfl (VAL.move rfl) rfl rfl rfl ?_
        refine MV.lift0 (i := 2) rfl (V.nc h52 rfl) rfl rfl rfl fun x77_42 h53 => ?_
        refine MV.lift0 (i := 3) rfl (V.fa h53 rfl Vdf.fo75_1) rfl rfl rfl fun x78_43 h54 => ?_
        refine MV.lift1 (i := 4) rfl (fun _ z => z) (V.ld hS h54 rfl Vdf.one71) rfl rfl rfl [] (by kernel_rfl) fun x79_44 h55 => ?_
        refine MV.step0 (i := 5) rfl (VAL.move rfl) rfl rfl rfl ?_
        refine MV.lift0 (i := 6) rfl (V.as1 h55 rfl Vdf.ni72) rfl rfl rfl fun x81_45 h56 => ?_
        refine MV.lift0 (i := 7) rfl (V.nc h56 rfl) rfl rfl rfl fun x82_46 h57 => ?_
        refine MV.lift0 (i := 8) rfl (V.fa h57 rfl Vdf.fo75_1) rfl rfl rfl fun x83_47 h58 => ?_
        refine MV.lift1 (i := 9) rfl (fun _ z => z) (V.ld hS h58 rfl Vdf.one71) rfl rfl rfl [4] (by kernel_rfl) fun x84_48 h59 => ?_
        refine MV.step0 (i := 10) rfl (VAL.move rfl) rfl rfl rfl ?_
        refine MV.force (i := 11) rfl ?_
        refine LV.call hS h59 (hI _ _ _ _ _) hP rfl rfl rfl rfl fun x86_49 T9 n9 h60 ρ its hS => ?_
        refine LV.nextM [] (by kernel_rfl) (fun z => absurd rfl z) ?_
        refine MV.lift0 (i := 12) rfl (V.ex h60 rfl) rfl rfl rfl fun x87_50 h61 => ?_
        refine MV.force (i := 13) rfl ?_
        refine vy (V.ex h61 rfl) fun x88_51 h62 => ?_
        refine LV.nextM [] (by kernel_rfl) (fun z => absurd rfl z) ?_
        refine MV.force (i := 14) rfl ?_
        refine as_ ?_
        refine LV.nextM [] (by kernel_rfl) (fun z => absurd rfl z) ?_
        refine MV.force (i := 15) rfl ?_
        refine as_ ?_
        refine LV.nextM [] (by kernel_rfl) (fun z => absurd rfl z) ?_
        refine mdn ?_
        refine CV.ret ?_
        refine PV.blockR ?_
        refine PV.thenR ?_
        cases h62
        exact PV.ret (by simp) Tryz.results51 hS (RS.tmp rfl (RS.tmp rfl RS.nil)) rfl
       ·
        clear h38 h49 h50 h51
        subst e
        refine CV.skip ?_
        refine PV.blockN ?_
        refine PV.thenN ?_
        refine CV.seq ?_
        refine CV.regionM [(0, .held), (1, .anywhere), (2, .held)] rfl (fun c a a' w hd hq => PanicOk.root (P := Tryz.prog) (fn := Tryz.f51) (w0 := w0) (base := base) (E := envE) (ro := ro) (r := r) (T' := T') (n' := n') (ρ0 := ρ0) c a a' w hd hq) (by kernel_rfl) ?_
        refine MV.step1 (i := 0) rfl (fun _ z => z) (VAL.ldG hS (by rfl) Vdf.one36) rfl rfl rfl [] (by kernel_rfl) ?_
        refine MV.step0 (i := 1) rfl (VAL.assign rfl) rfl rfl rfl ?_
        refine MV.step1 (i := 2) rfl (fun _ z => z) (VAL.assign rfl) rfl rfl rfl [] (by kernel_rfl) ?_
        refine mdn ?_
        refine CV.ret ?_
        cases h52
        exact PV.ret (by simp) Tryz.results51 hS (RS.tmp rfl (RS.tmp rfl RS.nil)) rfl
noncomputable def g91_b1 (ih : FuncId → List HT → List AV → HT → Nat → R) (ro : List HT) (lp1 : AV → AV → AV → AV → AV → AV → AV → AV → HT → Nat → R) (y0 y1 y2 y3 y8 y9 y18 y19 : AV) (T1 : HT) (n1 : Nat) : R :=
 ltK Tryz.prog 3 (.tmp 19) (.tmp 18) 910010 y19 y18 fun x20_4 =>
 condK 910011 x20_4
 (
  iaK 910017 y1 y19 1 fun x26_5 =>
  ldK 910018 T1 ro x26_5 fun x27_6 =>
  iaK 910021 y2 y19 1 fun x30_7 =>
  ldK 910022 T1 ro x30_7 fun x31_8 =>
  addK Tryz.prog 3 (.tmp 32) (.const (.int .i64 (.ofNat 1))) 910024 y3 (.lit (.int .i64 (.ofNat 1))) fun x33_9 =>
  callK (scc6 4000 34 ro [y0, x27_6, x31_8, x33_9] T1 n1) fun x34_10 T2 n2 =>
  exK 910027 x34_10 0 fun x35_11 =>
  exK 910028 x34_10 1 fun x36_12 =>
  bin0 Tryz.prog .neq 36 (.tmp 37) (.const (.nilIface)) 910032 x36_12 (.lit (.nilIface)) fun x38_13 =>
  condK 910033 x38_13
  (
   .bad 910034
  )
  (
   notK 910036 x35_11 fun x41_14 =>
   condK 910037 x41_14
   (
    iaK 910041 y1 y19 1 fun x45_15 =>
    ldK 910042 T2 ro x45_15 fun x46_16 =>
    iaK 910045 y2 y19 1 fun x49_17 =>
    ldK 910046 T2 ro x49_17 fun x50_18 =>
    addK Tryz.prog 3 (.tmp 51) (.const (.int .i64 (.ofNat 1))) 910048 y3 (.lit (.int .i64 (.ofNat 1))) fun x52_19 =>
    callK (ih 51 ro [y0, x46_16, x50_18, x52_19] T2 n2) fun x53_20 T3 n3 =>
    exK 910050 x53_20 0 fun x54_21 =>
    exK 910051 x53_20 1 fun x55_22 =>
    .ok (.val (.tup [x54_21, x55_22])) T3 n3
   )
   (
    addK Tryz.prog 3 (.tmp 19) (.const (.int .i64 (.ofNat 1))) 910054 y19 (.lit (.int .i64 (.ofNat 1))) fun x56_23 =>
    lp1 y0 y1 y2 y3 y8 y9 y18 x56_23 T2 n2
   )
  )
 )
 (
  lenSK 910057 y1 fun x58_24 =>
  lenSK 910059 y2 fun x60_25 =>
  optK 910060 (mmV x58_24 x60_25 false) fun x61_26 =>
  callK (g95 ro x61_26 y3 T1 n1) fun x63_27 T4 n4 =>
  bin0 Tryz.prog .neq 36 (.tmp 64) (.const (.nilIface)) 910065 x63_27 (.lit (.nilIface)) fun x65_28 =>
  condK 910066 x65_28
  (
   .bad 910067
  )
  (
   lenSK 910069 y1 fun x68_29 =>
   lenSK 910071 y2 fun x70_30 =>
   ltK Tryz.prog 3 (.tmp 68) (.tmp 70) 910072 x68_29 x70_30 fun x71_31 =>
   .ok (.val (.tup [x71_31, (.lit (.nilIface))])) T4 n4
  )
 )
noncomputable def g91 (ih : FuncId → List HT → List AV → HT → Nat → R) (ro : List HT) (a0 a1 a2 a3 : AV) (T : HT) (nx : Nat) : R :=
 lenSK 910004 a1 fun x15_1 =>
 lenSK 910006 a2 fun x17_2 =>
 optK 910007 (mmV x15_1 x17_2 false) fun x18_3 =>
 lpf8 910009 (g91_b1 ih ro) 100000 a0 a1 a2 a3 (.lit (.bool false)) (.lit (.nilIface)) x18_3 (.lit (.int .i64 (.ofNat 0))) T nx
theorem g91_ok (ih : FuncId → List HT → List AV → HT → Nat → R) (hI : ∀ f ro args T nx, GOk Tryz.prog envE f args ro T nx (ih f ro args T nx)) (ro : List HT) (a0 a1 a2 a3 : AV) (T : HT) (nx : Nat) : GOk Tryz.prog envE 91 [a0, a1, a2, a3] ro T nx (g91 ih ro a0 a1 a2 a3 T nx) := by
 refine GOk.of_body Tryz.func91 rfl Tryz.ntmps91 (by kernel_rfl) rfl fun r T' n' h1 w0 base ρ0 its hS hP => ?_
 have X : CtxW envE ρ0 ro r T' n' := trivial
 unfold g91 at h1
 refine sr ?_
 refine as_ ?_
 refine as_ ?_
 refine dn ?_
 refine CV.seq ?_
 refine sr ?_
 refine mv ?_
 refine vy (V.lenS h1 rfl Vdf.ls71) fun x15_1 h2 => ?_
 refine mv ?_
 refine vy (V.lenS h2 rfl Vdf.ls71) fun x17_2 h3 => ?_
 refine vy (V.min h3 rfl rfl) fun x18_3 h4 => ?_
 refine mv ?_
 refine dn ?_
 refine CV.block ?_
 refine cl8 X 0 1 2 3 8 9 18 19 [] hS h4 ⟨rfl, rfl, rfl, rfl, rfl, rfl, rfl, rfl, trivial⟩ ?_
 intro f1 y0 y1 y2 y3 y8 y9 y18 y19 T1 n1 ρ its hS h5
 unfold g91_b1 at h5
 clear h1 h2 h3 h4
 refine sr ?_
 refine vy (V.lt h5 rfl rfl) fun x20_4 h6 => ?_
 refine dn ?_
 refine CV.seq ?_
 refine CV.cond h6 rfl (fun e h7 => ?_) (fun e h7 => ?_)
 ·
  clear h5 h6
  subst e
  refine CV.skip ?_
  refine PV.thenN ?_
  refine CV.seq ?_
  refine CV.block ?_
  refine sr ?_
  refine mv ?_
  refine as_ ?_
  refine dn ?_
  refine CV.seq ?_
  refine CV.regionM [(0, .anywhere), (1, .anywhere), (2, .anywhere), (3, .anywhere), (4, .held), (5, .anywhere), (6, .anywhere), (7, .anywhere), (8, .held), (9, .anywhere), (10, .anywhere), (11, .alone), (12, .alone), (13, .anywhere), (14, .anywhere), (15, .alone), (16, .alone)] rfl (fun c a a' w hd hq => PanicOk.root (P := Tryz.prog) (fn := Tryz.f91) (w0 := w0) (base := base) (E := envE) (ro := ro) (r := r) (T' := T') (n' := n') (ρ0 := ρ0) c a a' w hd hq) (by kernel_rfl) ?_
  refine MV.step0 (i := 0) rfl (VAL.move rfl) rfl rfl rfl ?_
  refine MV.step0 (i := 1) rfl (VAL.move rfl) rfl rfl rfl ?_
  refine MV.step0 (i := 2) rfl (VAL.move rfl) rfl rfl rfl ?_
  refine MV.lift0 (i := 3) rfl (V.ia h7 rfl rfl Vdf.el71) rfl rfl rfl fun x26_5 h8 => ?_
  refine MV.lift1 (i := 4) rfl (fun _ z => z) (V.ld hS h8 rfl Vdf.one25) rfl rfl rfl [] (by kernel_rfl) fun x27_6 h9 => ?_
  refine MV.step0 (i := 5) rfl (VAL.move rfl) rfl rfl rfl ?_
  refine MV.step0 (i := 6) rfl (VAL.move rfl) rfl rfl rfl ?_
  refine MV.lift0 (i := 7) rfl (V.ia h9 rfl rfl Vdf.el71) rfl rfl rfl fun x30_7 h10 => ?_
  refine MV.lift1 (i := 8) rfl (fun _ z => z) (V.ld hS h10 rfl Vdf.one25) rfl rfl rfl [4] (by kernel_rfl) fun x31_8 h11 => ?_
  refine MV.step0 (i := 9) rfl (VAL.move rfl) rfl rfl rfl ?_
  refine MV.lift0 (i := 10) rfl (V.add h11 rfl rfl) rfl rfl rfl fun x33_9 h12 => ?_
  refine MV.force (i := 11) rfl ?_
  refine LV.call hS h12 (scc6_ok _ _ _ _ _ _) hP rfl rfl rfl rfl fun x34_10 T2 n2 h13 ρ its hS => ?_
  refine LV.nextM [] (by kernel_rfl) (fun z => absurd rfl z) ?_
  refine MV.force (i := 12) rfl ?_
  refine mv ?_
  refine LV.nextM [] (by kernel_rfl) (fun z => absurd rfl z) ?_
  refine MV.lift0 (i := 13) rfl (V.ex h13 rfl) rfl rfl rfl fun x35_11 h14 => ?_
  refine MV.lift0 (i := 14) rfl (V.ex h14 rfl) rfl rfl rfl fun x36_12 h15 => ?_
  refine MV.force (i := 15) rfl ?_
  refine as_ ?_
  refine LV.nextM [] (by kernel_rfl) (fun z => absurd rfl z) ?_
  refine MV.force (i := 16) rfl ?_
  refine as_ ?_
  refine LV.nextM [] (by kernel_rfl) (fun z => absurd rfl z) ?_
  refine mdn ?_
  refine CV.seq ?_
  refine sr ?_
  refine mv ?_
  refine vy (V.bin0 h15 rfl rfl) fun x38_13 h16 => ?_
  refine dn ?_
  refine CV.cond h16 rfl (fun e h17 => ?_) (fun e h17 => ?_)
  ·
   clear h7 h8 h9 h10 h11 h12 h13 h14 h15 h16
   subst e
   cases h17
  ·
   clear h7 h8 h9 h10 h11 h12 h13 h14 h15 h16
   subst e
   refine CV.skip ?_
   refine PV.thenN ?_
   refine sr ?_
   refine mv ?_
   refine vy (V.not h17 rfl) fun x41_14 h18 => ?_
   refine dn ?_
   refine CV.cond h18 rfl (fun e h19 => ?_) (fun e h19 => ?_)
   ·
    clear h17 h18
    subst e
    refine CV.seq ?_
    refine CV.regionM [(0, .anywhere), (1, .anywhere), (2, .anywhere), (3, .anywhere), (4, .held), (5, .anywhere), (6, .anywhere), (7, .anywhere), (8, .held), (9, .anywhere), (10, .anywhere), (11, .alone), (12, .anywhere), (13, .alone), (14, .alone), (15, .alone)] rfl (fun c a a' w hd hq => PanicOk.root (P := Tryz.prog) (fn := Tryz.f91) (w0 := w0) (base := base) (E := envE) (ro := ro) (r := r) (T' := T') (n' := n') (ρ0 := ρ0) c a a' w hd hq) (by kernel_rfl) ?_
    refine MV.step0 (i := 0) rfl (VAL.move rfl) rfl rfl rfl ?_
    refine MV.step0 (i := 1) rfl (VAL.move rfl) rfl rfl rfl ?_
    refine MV.step0 (i := 2) rfl (VAL.move rfl) rfl rfl rfl ?_
    refine MV.lift0 (i := 3) rfl (V.ia h19 rfl rfl Vdf.el71) rfl rfl rfl fun x45_15 h20 => ?_
    refine MV.lift1 (i := 4) rfl (fun _ z => z) (V.ld hS h20 rfl Vdf.one25) rfl rfl rfl [] (by kernel_rfl) fun x46_16 h21 => ?_
    refine MV.step0 (i := 5) rfl (VAL.move rfl) rfl rfl rfl ?_
    refine MV.step0 (i := 6) rfl (VAL.move rfl) rfl rfl rfl ?_
    refine MV.lift0 (i := 7) rfl (V.ia h21 rfl rfl Vdf.el71) rfl rfl rfl fun x49_17 h22 => ?_
    refine MV.lift1 (i := 8) rfl (fun _ z => z) (V.ld hS h22 rfl Vdf.one25) rfl rfl rfl [4] (by kernel_rfl) fun x50_18 h23 => ?_
    refine MV.step0 (i := 9) rfl (VAL.move rfl) rfl rfl rfl ?_
    refine MV.lift0 (i := 10) rfl (V.add h23 rfl rfl) rfl rfl rfl fun x52_19 h24 => ?_
    refine MV.force (i := 11) rfl ?_
    refine LV.call hS h24 (hI _ _ _ _ _) hP rfl rfl rfl rfl fun x53_20 T3 n3 h25 ρ its hS => ?_
    refine LV.nextM [] (by kernel_rfl) (fun z => absurd rfl z) ?_
    refine MV.lift0 (i := 12) rfl (V.ex h25 rfl) rfl rfl rfl fun x54_21 h26 => ?_
    refine MV.force (i := 13) rfl ?_
    refine vy (V.ex h26 rfl) fun x55_22 h27 => ?_
    refine LV.nextM [] (by kernel_rfl) (fun z => absurd rfl z) ?_
    refine MV.force (i := 14) rfl ?_
    refine as_ ?_
    refine LV.nextM [] (by kernel_rfl) (fun z => absurd rfl z) ?_
    refine MV.force (i := 15) rfl ?_
    refine as_ ?_
    refine LV.nextM [] (by kernel_rfl) (fun z => absurd rfl z) ?_
    refine mdn ?_
    refine CV.ret ?_
    refine PV.blockR ?_
    refine PV.thenR ?_
    refine PV.thenR ?_
    refine PV.blockR ?_
    refine PV.thenR ?_
    cases h27
    exact PV.ret (by simp) Tryz.results91 hS (RS.tmp rfl (RS.tmp rfl RS.nil)) rfl
   ·
    clear h17 h18
    subst e
    refine CV.skip ?_
    refine PV.blockN ?_
    refine PV.thenN ?_
    refine CV.region ?_
    refine vy (V.add h19 rfl rfl) fun x56_23 h28 => ?_
    refine mv ?_
    refine LV.done ?_
    exact pb8 hS h28 ⟨rfl, rfl, rfl, rfl, rfl, rfl, rfl, rfl, trivial⟩
 ·
  clear h5 h6
  subst e
  refine CV.exit ?_
  refine PV.thenE ?_
  refine PV.thenE ?_
  refine PV.blockE ?_
  refine PV.thenN ?_
  refine CV.seq ?_
  refine sr ?_
  refine mv ?_
  refine vy (V.lenS h7 rfl Vdf.ls71) fun x58_24 h29 => ?_
  refine mv ?_
  refine vy (V.lenS h29 rfl Vdf.ls71) fun x60_25 h30 => ?_
  refine vy (V.min h30 rfl rfl) fun x61_26 h31 => ?_
  refine mv ?_
  refine LV.call hS h31 (g95_ok _ _ _ _ _ ) hP rfl rfl rfl rfl fun x63_27 T4 n4 h32 ρ its hS => ?_
  refine as_ ?_
  refine dn ?_
  refine sr ?_
  refine mv ?_
  refine vy (V.bin0 h32 rfl rfl) fun x65_28 h33 => ?_
  refine dn ?_
  refine CV.cond h33 rfl (fun e h34 => ?_) (fun e h34 => ?_)
  ·
   clear h7 h29 h30 h31 h32 h33
   subst e
   cases h34
  ·
   clear h7 h29 h30 h31 h32 h33
   subst e
   refine CV.skip ?_
   refine PV.thenN ?_
   refine sr ?_
   refine mv ?_
   refine vy (V.lenS h34 rfl Vdf.ls71) fun x68_29 h35 => ?_
   refine mv ?_
   refine vy (V.lenS h35 rfl Vdf.ls71) fun x70_30 h36 => ?_
   refine vy (V.lt h36 rfl rfl) fun x71_31 h37 => ?_
   refine as_ ?_
   refine as_ ?_
   refine dn ?_
   refine CV.ret ?_
   cases h37
   exact PV.ret (by simp) Tryz.results91 hS (RS.tmp rfl (RS.tmp rfl RS.nil)) rfl
noncomputable def ap7 (ih : FuncId → List HT → List AV → HT → Nat → R) (f : FuncId) (ro : List HT) (args : List AV) (T : HT) (nx : Nat) : R :=
  Bool.rec (motive := fun _ => R) (Bool.rec (motive := fun _ => R) (.bad 2) (List.rec (motive := fun _ => R) (.bad 1) (fun a0 l0 _ => List.rec (motive := fun _ => R) (.bad 1) (fun a1 l1 _ => List.rec (motive := fun _ => R) (.bad 1) (fun a2 l2 _ => List.rec (motive := fun _ => R) (.bad 1) (fun a3 l3 _ => List.rec (motive := fun _ => R) (g91 ih ro a0 a1 a2 a3 T nx) (fun _ _ _ => .bad 1) l3) l2) l1) l0) args) (Nat.beq f 91)) (Bool.rec (motive := fun _ => R) (.bad 2) (List.rec (motive := fun _ => R) (.bad 1) (fun a0 l0 _ => List.rec (motive := fun _ => R) (.bad 1) (fun a1 l1 _ => List.rec (motive := fun _ => R) (.bad 1) (fun a2 l2 _ => List.rec (motive := fun _ => R) (.bad 1) (fun a3 l3 _ => List.rec (motive := fun _ => R) (g51 ih ro a0 a1 a2 a3 T nx) (fun _ _ _ => .bad 1) l3) l2) l1) l0) args) (Nat.beq f 51)) (Nat.ble f 51)
noncomputable def scc7 (fuel : Nat) : FuncId → List HT → List AV → HT → Nat → R :=
  Nat.rec (motive := fun _ => FuncId → List HT → List AV → HT → Nat → R) (fun _ _ _ _ _ => .bad 3) (fun _ ih => ap7 ih) fuel
theorem ap7_ok (ih : FuncId → List HT → List AV → HT → Nat → R) (hI : ∀ f ro args T nx, GOk Tryz.prog envE f args ro T nx (ih f ro args T nx)) (f : FuncId) (ro : List HT) (args : List AV) (T : HT) (nx : Nat) : GOk Tryz.prog envE f args ro T nx (ap7 ih f ro args T nx) := by
  unfold ap7
  refine recb_go (fun hb => ?_) (fun _ => ?_)
  · refine recb_go (fun hb => ?_) (fun _ => ?_)
    · obtain rfl := beqT hb
      rcases args with _ | ⟨a0, l0⟩
      · exact GOk.bad
      rcases l0 with _ | ⟨a1, l1⟩
      · exact GOk.bad
      rcases l1 with _ | ⟨a2, l2⟩
      · exact GOk.bad
      rcases l2 with _ | ⟨a3, l3⟩
      · exact GOk.bad
      rcases l3 with _ | ⟨_, _⟩
      · exact g51_ok _ hI _ _ _ _ _ _ _ 
      · exact GOk.bad
    · exact GOk.bad
  · refine recb_go (fun hb => ?_) (fun _ => ?_)
    · obtain rfl := beqT hb
      rcases args with _ | ⟨a0, l0⟩
      · exact GOk.bad
      rcases l0 with _ | ⟨a1, l1⟩
      · exact GOk.bad
      rcases l1 with _ | ⟨a2, l2⟩
      · exact GOk.bad
      rcases l2 with _ | ⟨a3, l3⟩
      · exact GOk.bad
      rcases l3 with _ | ⟨_, _⟩
      · exact g91_ok _ hI _ _ _ _ _ _ _ 
      · exact GOk.bad
    · exact GOk.bad
theorem scc7_ok : ∀ (fuel : Nat) (f : FuncId) (ro : List HT) (args : List AV) (T : HT) (nx : Nat), GOk Tryz.prog envE f args ro T nx (scc7 fuel f ro args T nx)
  | 0, _, _, _, _, _ => GOk.bad
  | fuel + 1, f, ro, args, T, nx => ap7_ok (scc7 fuel) (scc7_ok fuel) f ro args T nx
noncomputable def g30 (ro : List HT) (a0 a1 : AV) (T : HT) (nx : Nat) : R :=
 optK 300003 (bld85 [(0, (.lit (.int .i64 (.ofNat 4096))))]) fun x7_1 =>
 boxK 300004 T nx x7_1 85 fun x8_2 T1 n1 =>
 callK (scc7 4000 51 ro [x8_2, a0, a1, (.lit (.int .i64 (.ofNat 0)))] T1 n1) fun x12_3 T2 n2 =>
 exK 300010 x12_3 0 fun x13_4 =>
 exK 300011 x12_3 1 fun x14_5 =>
 .ok (.val (.tup [x13_4, x14_5])) T2 n2
theorem g30_ok (ro : List HT) (a0 a1 : AV) (T : HT) (nx : Nat) : GOk Tryz.prog envE 30 [a0, a1] ro T nx (g30 ro a0 a1 T nx) := by
 refine GOk.of_body Tryz.func30 rfl Tryz.ntmps30 (by kernel_rfl) rfl fun r T' n' h1 w0 base ρ0 its hS hP => ?_
 have X : CtxW envE ρ0 ro r T' n' := trivial
 unfold g30 at h1
 refine sr ?_
 refine as_ ?_
 refine as_ ?_
 refine dn ?_
 refine sr ?_
 refine vy (V.bld h1 rfl) fun x7_1 h2 => ?_
 refine LV.box hS h2 rfl rfl rfl rfl rfl fun x8_2 T1 n1 h3 ρ its hS hdr => ?_
 refine as_ ?_
 refine dn ?_
 refine sr ?_
 refine mv ?_
 refine mv ?_
 refine mv ?_
 refine LV.call hS h3 (scc7_ok _ _ _ _ _ _) hP rfl rfl rfl rfl fun x12_3 T2 n2 h4 ρ its hS => ?_
 refine vy (V.ex h4 rfl) fun x13_4 h5 => ?_
 refine vy (V.ex h5 rfl) fun x14_5 h6 => ?_
 refine as_ ?_
 refine as_ ?_
 refine dn ?_
 refine CV.ret ?_
 cases h6
 exact PV.ret (by simp) Tryz.results30 hS (RS.tmp rfl (RS.tmp rfl RS.nil)) rfl
noncomputable def g6_k5 (ro : List HT) (y59 : AV) (T14 : HT) (n14 : Nat) : R :=
 .ok (.val y59) T14 n14
noncomputable def g6_k4 (ro : List HT) (y10 y55 : AV) (T13 : HT) (n13 : Nat) : R :=
 condK 60050 y55
 (
  callK (g15 ro y10 (.lit (.int .i64 (.ofNat 104))) T13 n13) fun x58_22 T15 n15 =>
  g6_k5 ro x58_22 T15 n15
 )
 (
  g6_k5 ro (.lit (.bool false)) T13 n13
 )
noncomputable def g6_k3 (ro : List HT) (y8 y10 y51 : AV) (T12 : HT) (n12 : Nat) : R :=
 condK 60055 y51
 (
  bin0 Tryz.prog .eql 36 (.tmp 53) (.const (.nilIface)) 60057 y8 (.lit (.nilIface)) fun x54_23 =>
  g6_k4 ro y10 x54_23 T12 n12
 )
 (
  g6_k4 ro y10 (.lit (.bool false)) T12 n12
 )
noncomputable def g6_k2 (ro : List HT) (y1 y3 y5 y32 : AV) (T5 : HT) (n5 : Nat) : R :=
 condK 60024 y32
 (
  .bad 60025
 )
 (
  callK (g30 ro y3 y5 T5 n5) fun x36_11 T6 n6 =>
  exK 60030 x36_11 0 fun x37_12 =>
  exK 60031 x36_11 1 fun x38_13 =>
  callK (g9 ro (.lit (.int .i64 (.ofNat 1))) T6 n6) fun x40_14 T7 n7 =>
  callK (g8 ro x40_14 T7 n7) fun x41_15 T8 n8 =>
  callK (g19 ro (.lit (.string ⟨⟨[97]⟩⟩)) T8 n8) fun x42_16 T9 n9 =>
  callK (g30 ro x41_15 x42_16 T9 n9) fun x43_17 T10 n10 =>
  exK 60039 x43_17 0 fun x44_18 =>
  exK 60040 x43_17 1 fun x45_19 =>
  callK (g12 ro y1 T10 n10) fun x47_20 T11 n11 =>
  eqSK Tryz.prog 9 (.tmp 47) (.const (.string ⟨⟨[123, 34, 97, 34, 58, 32, 91, 49, 44, 32, 40, 50, 44, 41, 93, 125]⟩⟩)) 60045 x47_20 (.lit (.string ⟨⟨[123, 34, 97, 34, 58, 32, 91, 49, 44, 32, 40, 50, 44, 41, 93, 125]⟩⟩)) fun x48_21 =>
  condK 60060 x48_21
  (
   g6_k3 ro x38_13 x45_19 x37_12 T11 n11
  )
  (
   g6_k3 ro x38_13 x45_19 (.lit (.bool false)) T11 n11
  )
 )
noncomputable def g6_k1 (ro : List HT) (y1 y3 y5 y6 y28 : AV) (T4 : HT) (n4 : Nat) : R :=
 condK 60064 y28
 (
  g6_k2 ro y1 y3 y5 (.lit (.bool true)) T4 n4
 )
 (
  notK 60067 y6 fun x31_24 =>
  g6_k2 ro y1 y3 y5 x31_24 T4 n4
 )
noncomputable def g6 (ro : List HT) (T : HT) (nx : Nat) : R :=
 callK (g29 ro (.lit (.string ⟨⟨[123, 34, 97, 34, 58, 32, 91, 49, 44, 32, 40, 50, 44, 41, 93, 125]⟩⟩)) T nx) fun x12_1 T1 n1 =>
 exK 60004 x12_1 0 fun x13_2 =>
 exK 60005 x12_1 1 fun x14_3 =>
 callK (g29 ro (.lit (.string ⟨⟨[40, 49, 44, 32, 50, 41]⟩⟩)) T1 n1) fun x16_4 T2 n2 =>
 exK 60010 x16_4 0 fun x17_5 =>
 exK 60011 x16_4 1 fun x18_6 =>
 callK (g29 ro (.lit (.string ⟨⟨[40, 49, 44, 32, 51, 41]⟩⟩)) T2 n2) fun x20_7 T3 n3 =>
 exK 60016 x20_7 0 fun x21_8 =>
 exK 60017 x20_7 1 fun x22_9 =>
 notK 60021 x14_3 fun x24_10 =>
 condK 60069 x24_10
 (
  g6_k1 ro x13_2 x17_5 x21_8 x22_9 (.lit (.bool true)) T3 n3
 )
 (
  notK 60072 x18_6 fun x27_25 =>
  g6_k1 ro x13_2 x17_5 x21_8 x22_9 x27_25 T3 n3
 )
theorem g6_ok (ro : List HT) (T : HT) (nx : Nat) : GOk Tryz.prog envE 6 [] ro T nx (g6 ro T nx) := by
 refine GOk.of_body Tryz.func6 rfl Tryz.ntmps6 (by kernel_rfl) rfl fun r T' n' h1 w0 base ρ0 its hS hP => ?_
 have X : CtxW envE ρ0 ro r T' n' := trivial
 unfold g6 at h1
 refine sr ?_
 refine as_ ?_
 refine dn ?_
 refine sr ?_
 refine LV.call hS h1 (g29_ok _ _ _ _ ) hP rfl rfl rfl rfl fun x12_1 T1 n1 h2 ρ its hS => ?_
 refine mv ?_
 refine vy (V.ex h2 rfl) fun x13_2 h3 => ?_
 refine vy (V.ex h3 rfl) fun x14_3 h4 => ?_
 refine as_ ?_
 refine as_ ?_
 refine dn ?_
 refine sr ?_
 refine LV.call hS h4 (g29_ok _ _ _ _ ) hP rfl rfl rfl rfl fun x16_4 T2 n2 h5 ρ its hS => ?_
 refine mv ?_
 refine vy (V.ex h5 rfl) fun x17_5 h6 => ?_
 refine vy (V.ex h6 rfl) fun x18_6 h7 => ?_
 refine as_ ?_
 refine as_ ?_
 refine dn ?_
 refine sr ?_
 refine LV.call hS h7 (g29_ok _ _ _ _ ) hP rfl rfl rfl rfl fun x20_7 T3 n3 h8 ρ its hS => ?_
 refine mv ?_
 refine vy (V.ex h8 rfl) fun x21_8 h9 => ?_
 refine vy (V.ex h9 rfl) fun x22_9 h10 => ?_
 refine as_ ?_
 refine as_ ?_
 refine dn ?_
 refine CV.seq ?_
 refine sr ?_
 refine mv ?_
 refine vy (V.not h10 rfl) fun x24_10 h11 => ?_
 refine mv ?_
 refine ls5 X 1 3 5 6 28 [(0, (.lit (.bool false)))] (g6_k1 ro) 3 ?_ ?_
 ·
  rcases condK_inv h11 with ⟨e, h36⟩ | ⟨e, h36⟩
  ·
   clear h1 h2 h3 h4 h5 h6 h7 h8 h9 h10 h11
   subst e
   refine sk ?_
   refine sk ?_
   refine pu ?_
   exact la5 hS h36 ⟨rfl, rfl, rfl, rfl, rfl, rfl, trivial⟩
  ·
   clear h1 h2 h3 h4 h5 h6 h7 h8 h9 h10 h11
   subst e
   refine mv ?_
   refine vy (V.not h36 rfl) fun x27_25 h37 => ?_
   refine pu ?_
   exact la5 hS h37 ⟨rfl, rfl, rfl, rfl, rfl, rfl, trivial⟩
 ·
  intro y1 y3 y5 y6 y28 T4 n4 ρ its hS h12
  unfold g6_k1 at h12
  clear h1 h2 h3 h4 h5 h6 h7 h8 h9 h10 h11
  refine mv ?_
  refine ls4 X 1 3 5 32 [(0, (.lit (.bool false)))] (g6_k2 ro) 3 ?_ ?_
  ·
   rcases condK_inv h12 with ⟨e, h34⟩ | ⟨e, h34⟩
   ·
    clear h12
    subst e
    refine sk ?_
    refine sk ?_
    refine pu ?_
    exact la4 hS h34 ⟨rfl, rfl, rfl, rfl, rfl, trivial⟩
   ·
    clear h12
    subst e
    refine mv ?_
    refine vy (V.not h34 rfl) fun x31_24 h35 => ?_
    refine pu ?_
    exact la4 hS h35 ⟨rfl, rfl, rfl, rfl, rfl, trivial⟩
  ·
   intro y1 y3 y5 y32 T5 n5 ρ its hS h13
   unfold g6_k2 at h13
   clear h12
   refine dn ?_
   refine CV.cond h13 rfl (fun e h14 => ?_) (fun e h14 => ?_)
   ·
    clear h13
    subst e
    cases h14
   ·
    clear h13
    subst e
    refine CV.skip ?_
    refine PV.thenN ?_
    refine sr ?_
    refine mv ?_
    refine mv ?_
    refine LV.call hS h14 (g30_ok _ _ _ _ _ ) hP rfl rfl rfl rfl fun x36_11 T6 n6 h15 ρ its hS => ?_
    refine mv ?_
    refine vy (V.ex h15 rfl) fun x37_12 h16 => ?_
    refine vy (V.ex h16 rfl) fun x38_13 h17 => ?_
    refine as_ ?_
    refine as_ ?_
    refine dn ?_
    refine sr ?_
    refine LV.call hS h17 (g9_ok _ _ _ _ ) hP rfl rfl rfl rfl fun x40_14 T7 n7 h18 ρ its hS => ?_
    refine LV.call hS h18 (g8_ok _ _ _ _ ) hP rfl rfl rfl rfl fun x41_15 T8 n8 h19 ρ its hS => ?_
    refine LV.call hS h19 (g19_ok _ _ _ _ ) hP rfl rfl rfl rfl fun x42_16 T9 n9 h20 ρ its hS => ?_
    refine LV.call hS h20 (g30_ok _ _ _ _ _ ) hP rfl rfl rfl rfl fun x43_17 T10 n10 h21 ρ its hS => ?_
    refine mv ?_
    refine vy (V.ex h21 rfl) fun x44_18 h22 => ?_
    refine vy (V.ex h22 rfl) fun x45_19 h23 => ?_
    refine as_ ?_
    refine as_ ?_
    refine dn ?_
    refine sr ?_
    refine mv ?_
    refine LV.call hS h23 (g12_ok _ _ _ _ ) hP rfl rfl rfl rfl fun x47_20 T11 n11 h24 ρ its hS => ?_
    refine vy (V.eqS h24 rfl rfl) fun x48_21 h25 => ?_
    refine mv ?_
    refine ls3 X 8 10 51 [(0, (.lit (.bool false)))] (g6_k3 ro) 2 ?_ ?_
    ·
     rcases condK_inv h25 with ⟨e, h33⟩ | ⟨e, h33⟩
     ·
      clear h14 h15 h16 h17 h18 h19 h20 h21 h22 h23 h24 h25
      subst e
      refine mv ?_
      refine pu ?_
      exact la3 hS h33 ⟨rfl, rfl, rfl, rfl, trivial⟩
     ·
      clear h14 h15 h16 h17 h18 h19 h20 h21 h22 h23 h24 h25
      subst e
      refine sk ?_
      refine pu ?_
      exact la3 hS h33 ⟨rfl, rfl, rfl, rfl, trivial⟩
    ·
     intro y8 y10 y51 T12 n12 ρ its hS h26
     unfold g6_k3 at h26
     clear h14 h15 h16 h17 h18 h19 h20 h21 h22 h23 h24 h25
     refine mv ?_
     refine ls2 X 10 55 [(0, (.lit (.bool false)))] (g6_k4 ro) 3 ?_ ?_
     ·
      rcases condK_inv h26 with ⟨e, h31⟩ | ⟨e, h31⟩
      ·
       clear h26
       subst e
       refine mv ?_
       refine vy (V.bin0 h31 rfl rfl) fun x54_23 h32 => ?_
       refine pu ?_
       exact la2 hS h32 ⟨rfl, rfl, rfl, trivial⟩
      ·
       clear h26
       subst e
       refine sk ?_
       refine sk ?_
       refine pu ?_
       exact la2 hS h31 ⟨rfl, rfl, rfl, trivial⟩
     ·
      intro y10 y55 T13 n13 ρ its hS h27
      unfold g6_k4 at h27
      clear h26
      refine mv ?_
      refine ls1 X 59 [(0, (.lit (.bool false)))] (g6_k5 ro) 3 ?_ ?_
      ·
       rcases condK_inv h27 with ⟨e, h29⟩ | ⟨e, h29⟩
       ·
        clear h27
        subst e
        refine mv ?_
        refine LV.call hS h29 (g15_ok _ _ _ _ _ ) hP rfl rfl rfl rfl fun x58_22 T15 n15 h30 ρ its hS => ?_
        refine pu ?_
        exact la1 hS h30 ⟨rfl, rfl, trivial⟩
       ·
        clear h27
        subst e
        refine sk ?_
        refine sk ?_
        refine pu ?_
        exact la1 hS h29 ⟨rfl, rfl, trivial⟩
      ·
       intro y59 T14 n14 ρ its hS h28
       unfold g6_k5 at h28
       clear h27
       refine as_ ?_
       refine dn ?_
       refine CV.ret ?_
       cases h28
       exact PV.ret (by simp) Tryz.results6 hS (RS.tmp rfl RS.nil) rfl
noncomputable def g7 (ro : List HT) (a0 a1 : AV) (T : HT) (nx : Nat) : R :=
 bin0 Tryz.prog .rem 3 (.tmp 5) (.tmp 6) 70004 a0 a1 fun x7_1 =>
 addK Tryz.prog 3 (.tmp 7) (.tmp 8) 70006 x7_1 a1 fun x9_2 =>
 bin0 Tryz.prog .rem 3 (.tmp 9) (.tmp 10) 70008 x9_2 a1 fun x11_3 =>
 .ok (.val x11_3) T nx
theorem g7_ok (ro : List HT) (a0 a1 : AV) (T : HT) (nx : Nat) : GOk Tryz.prog envE 7 [a0, a1] ro T nx (g7 ro a0 a1 T nx) := by
 refine GOk.of_body Tryz.func7 rfl Tryz.ntmps7 (by kernel_rfl) rfl fun r T' n' h1 w0 base ρ0 its hS hP => ?_
 have X : CtxW envE ρ0 ro r T' n' := trivial
 unfold g7 at h1
 refine sr ?_
 refine as_ ?_
 refine dn ?_
 refine sr ?_
 refine mv ?_
 refine mv ?_
 refine vy (V.bin0 h1 rfl rfl) fun x7_1 h2 => ?_
 refine mv ?_
 refine vy (V.add h2 rfl rfl) fun x9_2 h3 => ?_
 refine mv ?_
 refine vy (V.bin0 h3 rfl rfl) fun x11_3 h4 => ?_
 refine as_ ?_
 refine dn ?_
 refine CV.ret ?_
 cases h4
 exact PV.ret (by simp) Tryz.results7 hS (RS.tmp rfl RS.nil) rfl
noncomputable def g13 (ro : List HT) (a0 a1 : AV) (T : HT) (nx : Nat) : R :=
 optK 130003 (bld85 [(0, (.lit (.int .i64 (.ofNat 4096))))]) fun x7_1 =>
 boxK 130004 T nx x7_1 85 fun x8_2 T1 n1 =>
 callK (scc6 4000 34 ro [x8_2, a0, a1, (.lit (.int .i64 (.ofNat 0)))] T1 n1) fun x12_3 T2 n2 =>
 exK 130010 x12_3 0 fun x13_4 =>
 exK 130011 x12_3 1 fun x14_5 =>
 .ok (.val (.tup [x13_4, x14_5])) T2 n2
theorem g13_ok (ro : List HT) (a0 a1 : AV) (T : HT) (nx : Nat) : GOk Tryz.prog envE 13 [a0, a1] ro T nx (g13 ro a0 a1 T nx) := by
 refine GOk.of_body Tryz.func13 rfl Tryz.ntmps13 (by kernel_rfl) rfl fun r T' n' h1 w0 base ρ0 its hS hP => ?_
 have X : CtxW envE ρ0 ro r T' n' := trivial
 unfold g13 at h1
 refine sr ?_
 refine as_ ?_
 refine as_ ?_
 refine dn ?_
 refine sr ?_
 refine vy (V.bld h1 rfl) fun x7_1 h2 => ?_
 refine LV.box hS h2 rfl rfl rfl rfl rfl fun x8_2 T1 n1 h3 ρ its hS hdr => ?_
 refine as_ ?_
 refine dn ?_
 refine sr ?_
 refine mv ?_
 refine mv ?_
 refine mv ?_
 refine LV.call hS h3 (scc6_ok _ _ _ _ _ _) hP rfl rfl rfl rfl fun x12_3 T2 n2 h4 ρ its hS => ?_
 refine vy (V.ex h4 rfl) fun x13_4 h5 => ?_
 refine vy (V.ex h5 rfl) fun x14_5 h6 => ?_
 refine as_ ?_
 refine as_ ?_
 refine dn ?_
 refine CV.ret ?_
 cases h6
 exact PV.ret (by simp) Tryz.results13 hS (RS.tmp rfl (RS.tmp rfl RS.nil)) rfl
noncomputable def g3_k2 (c0 : AV) (m0 : Nat) (ro : List HT) (lp1 : AV → AV → AV → AV → AV → AV → AV → HT → Nat → R) (y0 y1 y4 y5 y6 y7 y8 : AV) (T8 : HT) (n8 : Nat) : R :=
 addK Tryz.prog 3 (.tmp 29) (.const (.int .i64 (.ofNat 1))) 30025 y8 (.lit (.int .i64 (.ofNat 1))) fun x30_10 =>
 lp1 y0 y1 y4 y5 y6 y7 x30_10 T8 n8
noncomputable def g3_k4 (c0 : AV) (m0 : Nat) (ro : List HT) (lp3 : AV → AV → AV → AV → AV → AV → AV → AV → AV → HT → Nat → R) (y0 y1 y4 y5 y6 y7 y9 y10 y11 : AV) (T19 : HT) (n19 : Nat) : R :=
 addK Tryz.prog 3 (.tmp 52) (.const (.int .i64 (.ofNat 1))) 30059 y11 (.lit (.int .i64 (.ofNat 1))) fun x53_22 =>
 lp3 y0 y1 y4 y5 y6 y7 y9 y10 x53_22 T19 n19
noncomputable def g3_k5 (c0 : AV) (m0 : Nat) (ro : List HT) (lp3 : AV → AV → AV → AV → AV → AV → AV → AV → AV → HT → Nat → R) (y0 y1 y4 y5 y6 y7 y9 y10 y11 y63 : AV) (T20 : HT) (n20 : Nat) : R :=
 condK 30066 y63
 (
  addK Tryz.prog 3 (.tmp 64) (.const (.int .i64 (.ofNat 1))) 30068 y10 (.lit (.int .i64 (.ofNat 1))) fun x65_25 =>
  g3_k4 c0 m0 ro lp3 y0 y1 y4 y5 y6 y7 y9 x65_25 y11 T20 n20
 )
 (
  g3_k4 c0 m0 ro lp3 y0 y1 y4 y5 y6 y7 y9 y10 y11 T20 n20
 )
noncomputable def g3_k8 (c0 : AV) (m0 : Nat) (ro : List HT) (y4 y5 y12 y13 y15 y96 : AV) (T25 : HT) (n25 : Nat) : R :=
 .ok (.val y96) T25 n25
noncomputable def g3_k7 (c0 : AV) (m0 : Nat) (ro : List HT) (y1 y4 y5 y12 y13 y15 y90 : AV) (T24 : HT) (n24 : Nat) : R :=
 condK 30106 y90
 (
  bin0 Tryz.prog .eql 36 (.tmp 92) (.const (.nilIface)) 30108 y15 (.lit (.nilIface)) fun x93_37 =>
  bin0 Tryz.prog .eql 4 (.tmp 93) (.tmp 94) 30110 x93_37 y1 fun x95_38 =>
  g3_k8 c0 m0 ro y4 y5 y12 y13 y15 x95_38 T24 n24
 )
 (
  g3_k8 c0 m0 ro y4 y5 y12 y13 y15 (.lit (.bool false)) T24 n24
 )
noncomputable def g3_k6 (c0 : AV) (m0 : Nat) (ro : List HT) (y1 y4 y5 y12 y13 y15 y86 : AV) (T23 : HT) (n23 : Nat) : R :=
 condK 30113 y86
 (
  bin0 Tryz.prog .eql 36 (.tmp 88) (.const (.nilIface)) 30115 y13 (.lit (.nilIface)) fun x89_39 =>
  g3_k7 c0 m0 ro y1 y4 y5 y12 y13 y15 x89_39 T23 n23
 )
 (
  g3_k7 c0 m0 ro y1 y4 y5 y12 y13 y15 (.lit (.bool false)) T23 n23
 )
noncomputable def g3_k11 (c0 : AV) (m0 : Nat) (ro : List HT) (y4 y109 : AV) (T28 : HT) (n28 : Nat) : R :=
 .ok (.val y109) T28 n28
noncomputable def g3_k10 (c0 : AV) (m0 : Nat) (ro : List HT) (y4 y15 y105 : AV) (T27 : HT) (n27 : Nat) : R :=
 condK 30127 y105
 (
  bin0 Tryz.prog .neq 36 (.tmp 107) (.const (.nilIface)) 30129 y15 (.lit (.nilIface)) fun x108_40 =>
  g3_k11 c0 m0 ro y4 x108_40 T27 n27
 )
 (
  g3_k11 c0 m0 ro y4 (.lit (.bool false)) T27 n27
 )
noncomputable def g3_k9 (c0 : AV) (m0 : Nat) (ro : List HT) (y4 y13 y15 y101 : AV) (T26 : HT) (n26 : Nat) : R :=
 condK 30132 y101
 (
  callK (g15 ro y13 (.lit (.int .i64 (.ofNat 108))) T26 n26) fun x104_41 T29 n29 =>
  g3_k10 c0 m0 ro y4 y15 x104_41 T29 n29
 )
 (
  g3_k10 c0 m0 ro y4 y15 (.lit (.bool false)) T26 n26
 )
noncomputable def g3_b3 (c0 : AV) (m0 : Nat) (ro : List HT) (lp3 : AV → AV → AV → AV → AV → AV → AV → AV → AV → HT → Nat → R) (y0 y1 y4 y5 y6 y7 y9 y10 y11 : AV) (T18 : HT) (n18 : Nat) : R :=
 lenTK 30055 y9 fun x50_20 =>
 ltK Tryz.prog 3 (.tmp 48) (.tmp 50) 30056 y11 x50_20 fun x51_21 =>
 condK 30057 x51_21
 (
  ixK 30063 y9 y11 fun x56_23 =>
  eqK Tryz.prog 5 (.tmp 56) (.const (.int .u8 (.ofNat 91))) 30064 x56_23 (.lit (.int .u8 (.ofNat 91))) fun x57_24 =>
  condK 30070 x57_24
  (
   g3_k5 c0 m0 ro lp3 y0 y1 y4 y5 y6 y7 y9 y10 y11 (.lit (.bool true)) T18 n18
  )
  (
   ixK 30074 y9 y11 fun x61_26 =>
   eqK Tryz.prog 5 (.tmp 61) (.const (.int .u8 (.ofNat 40))) 30075 x61_26 (.lit (.int .u8 (.ofNat 40))) fun x62_27 =>
   g3_k5 c0 m0 ro lp3 y0 y1 y4 y5 y6 y7 y9 y10 y11 x62_27 T18 n18
  )
 )
 (
  callK (g13 ro y6 y7 T18 n18) fun x69_28 T21 n21 =>
  exK 30081 x69_28 0 fun x70_29 =>
  exK 30082 x69_28 1 fun x71_30 =>
  callK (g14 ro y6 T21 n21) fun x74_31 T22 n22 =>
  exK 30088 x74_31 0 fun x75_32 =>
  exK 30089 x74_31 1 fun x76_33 =>
  optK 30094 (mmV y0 (.lit (.int .i64 (.ofNat 60))) false) fun x79_34 =>
  neK Tryz.prog 3 (.tmp 77) (.tmp 79) 30095 y10 x79_34 fun x80_35 =>
  condK 30096 x80_35
  (
   .bad 30097
  )
  (
   leK Tryz.prog 3 (.tmp 81) (.const (.int .i64 (.ofNat 60))) 30099 y0 (.lit (.int .i64 (.ofNat 60))) fun x82_36 =>
   condK 30100 x82_36
   (
    condK 30118 y5
    (
     g3_k6 c0 m0 ro y1 y4 (.lit (.bool true)) x70_29 x71_30 x76_33 x70_29 T22 n22
    )
    (
     g3_k6 c0 m0 ro y1 y4 (.lit (.bool false)) x70_29 x71_30 x76_33 (.lit (.bool false)) T22 n22
    )
   )
   (
    condK 30137 y5
    (
     notK 30139 x70_29 fun x100_42 =>
     g3_k9 c0 m0 ro y4 x71_30 x76_33 x100_42 T22 n22
    )
    (
     g3_k9 c0 m0 ro y4 x71_30 x76_33 (.lit (.bool false)) T22 n22
    )
   )
  )
 )
noncomputable def g3_b1 (c0 : AV) (m0 : Nat) (ro : List HT) (lp1 : AV → AV → AV → AV → AV → AV → AV → HT → Nat → R) (y0 y1 y4 y5 y6 y7 y8 : AV) (T7 : HT) (n7 : Nat) : R :=
 ltK Tryz.prog 3 (.tmp 26) (.tmp 27) 30022 y8 y0 fun x28_9 =>
 condK 30023 x28_9
 (
  condK 30028 y1
  (
   bsK 30030 T7 n7 1 25 1 [(0, y6)] fun x33_11 T9 n9 =>
   callK (g10 ro x33_11 T9 n9) fun x34_12 T10 n10 =>
   bsK 30034 T10 n10 1 25 1 [(0, y7)] fun x36_13 T11 n11 =>
   callK (g10 ro x36_13 T11 n11) fun x37_14 T12 n12 =>
   g3_k2 c0 m0 ro lp1 y0 (.lit (.bool true)) y4 y5 x34_12 x37_14 y8 T12 n12
  )
  (
   bsK 30038 T7 n7 1 25 1 [(0, y6)] fun x39_15 T13 n13 =>
   callK (g11 ro x39_15 T13 n13) fun x40_16 T14 n14 =>
   bsK 30043 T14 n14 1 25 1 [(0, y7)] fun x43_17 T15 n15 =>
   callK (g11 ro x43_17 T15 n15) fun x44_18 T16 n16 =>
   g3_k2 c0 m0 ro lp1 y0 (.lit (.bool false)) y4 y5 (.iface 32 x40_16) (.iface 32 x44_18) y8 T16 n16
  )
 )
 (
  callK (g12 ro y6 T7 n7) fun x47_19 T17 n17 =>
  lpf9 30052 (g3_b3 c0 m0 ro) 100000 y0 y1 y4 y5 y6 y7 x47_19 (.lit (.int .i64 (.ofNat 0))) (.lit (.int .i64 (.ofNat 0))) T17 n17
 )
noncomputable def g3 (c0 : AV) (m0 : Nat) (ro : List HT) (q0 q1 : AV) (T : HT) (nx : Nat) : R :=
 callK (.ok (.val (.lit (.bool true))) T nx) fun x16_1 T1 n1 =>
 notK 30005 x16_1 fun x18_2 =>
 condK 30006 x18_2
 (
  .bad 30007
 )
 (
  callK (isK (.lit (.int .i64 (.ofNat 100))) m0 c0 T1 n1) fun x20_3 T2 n2 =>
  addK Tryz.prog 3 (.tmp 20) (.const (.int .i64 (.ofNat 1))) 30010 x20_3 (.lit (.int .i64 (.ofNat 1))) fun x21_4 =>
  callK (g9 ro (.lit (.int .i64 (.ofNat 7))) T2 n2) fun x22_5 T3 n3 =>
  callK (g8 ro x22_5 T3 n3) fun x23_6 T4 n4 =>
  callK (g9 ro (.lit (.int .i64 (.ofNat 7))) T4 n4) fun x24_7 T5 n5 =>
  callK (g8 ro x24_7 T5 n5) fun x25_8 T6 n6 =>
  lpf7 30019 (g3_b1 c0 m0 ro) 100000 x21_4 q1 (.lit (.bool false)) x16_1 x23_6 x25_8 (.lit (.int .i64 (.ofNat 0))) T6 n6
 )
theorem g3_ok (c0 : AV) (m0 : Nat) (q0 q1 : AV) (hC0 : ∀ z ro T nx, GOk Tryz.prog envE 7 [q0, z] ro T nx (isK z m0 c0 T nx)) (ro : List HT) (T : HT) (nx : Nat) (hF : GOk Tryz.prog envE 6 [] ro T nx (.ok (.val (.lit (.bool true))) T nx)) : GOk Tryz.prog envE 3 [q0, q1] ro T nx (g3 c0 m0 ro q0 q1 T nx) := by
 refine GOk.of_body Tryz.func3 rfl Tryz.ntmps3 (by kernel_rfl) rfl fun r T' n' h1 w0 base ρ0 its hS hP => ?_
 have X : CtxW envE ρ0 ro r T' n' := trivial
 unfold g3 at h1
 refine sr ?_
 refine as_ ?_
 refine dn ?_
 refine sr ?_
 refine LV.call hS h1 (hF) hP rfl rfl rfl rfl fun x16_1 T1 n1 h2 ρ its hS => ?_
 refine as_ ?_
 refine dn ?_
 refine CV.seq ?_
 refine sr ?_
 refine mv ?_
 refine vy (V.not h2 rfl) fun x18_2 h3 => ?_
 refine dn ?_
 refine CV.cond h3 rfl (fun e h4 => ?_) (fun e h4 => ?_)
 ·
  clear h1 h2 h3
  subst e
  cases h4
 ·
  clear h1 h2 h3
  subst e
  refine CV.skip ?_
  refine PV.thenN ?_
  refine sr ?_
  refine mv ?_
  refine LV.call hS h4 (hC0 _ _ _ _) hP rfl rfl rfl rfl fun x20_3 T2 n2 h5 ρ its hS => ?_
  refine vy (V.add h5 rfl rfl) fun x21_4 h6 => ?_
  refine as_ ?_
  refine dn ?_
  refine sr ?_
  refine LV.call hS h6 (g9_ok _ _ _ _ ) hP rfl rfl rfl rfl fun x22_5 T3 n3 h7 ρ its hS => ?_
  refine LV.call hS h7 (g8_ok _ _ _ _ ) hP rfl rfl rfl rfl fun x23_6 T4 n4 h8 ρ its hS => ?_
  refine as_ ?_
  refine dn ?_
  refine sr ?_
  refine LV.call hS h8 (g9_ok _ _ _ _ ) hP rfl rfl rfl rfl fun x24_7 T5 n5 h9 ρ its hS => ?_
  refine LV.call hS h9 (g8_ok _ _ _ _ ) hP rfl rfl rfl rfl fun x25_8 T6 n6 h10 ρ its hS => ?_
  refine as_ ?_
  refine dn ?_
  refine CV.seq ?_
  refine sr ?_
  refine as_ ?_
  refine dn ?_
  refine CV.block ?_
  refine cl7 X 0 1 4 5 6 7 8 [] hS h10 ⟨rfl, rfl, rfl, rfl, rfl, rfl, rfl, trivial⟩ ?_
  intro f1 y0 y1 y4 y5 y6 y7 y8 T7 n7 ρ its hS h11
  unfold g3_b1 at h11
  clear h4 h5 h6 h7 h8 h9 h10
  refine CV.seq ?_
  refine sr ?_
  refine mv ?_
  refine mv ?_
  refine vy (V.lt h11 rfl rfl) fun x28_9 h12 => ?_
  refine dn ?_
  refine CV.cond h12 rfl (fun e h13 => ?_) (fun e h13 => ?_)
  ·
   clear h11 h12
   subst e
   refine CV.skip ?_
   refine PV.thenN ?_
   refine cs7 X 0 1 4 5 6 7 8 [] (g3_k2 c0 m0 ro (lpf7 30019 (g3_b1 c0 m0 ro) f1)) ?_ ?_
   ·
    refine CV.block ?_
    refine sr ?_
    refine mv ?_
    refine dn ?_
    refine CV.cond h13 rfl (fun e h16 => ?_) (fun e h16 => ?_)
    ·
     clear h13
     subst e
     refine sr ?_
     refine mv ?_
     refine LV.bslice hS h16 rfl rfl Vdf.el71 rfl rfl rfl rfl fun x33_11 T9 n9 h17 ρ its hS hdr => ?_
     refine LV.call hS h17 (g10_ok _ _ _ _ ) hP rfl rfl rfl rfl fun x34_12 T10 n10 h18 ρ its hS => ?_
     refine as_ ?_
     refine dn ?_
     refine CV.region ?_
     refine mv ?_
     refine LV.bslice hS h18 rfl rfl Vdf.el71 rfl rfl rfl rfl fun x36_13 T11 n11 h19 ρ its hS hdr => ?_
     refine LV.call hS h19 (g10_ok _ _ _ _ ) hP rfl rfl rfl rfl fun x37_14 T12 n12 h20 ρ its hS => ?_
     refine as_ ?_
     refine LV.done ?_
     refine PV.blockN ?_
     exact pa7 hS h20 ⟨rfl, rfl, rfl, rfl, rfl, rfl, rfl, trivial⟩
    ·
     clear h13
     subst e
     refine sr ?_
     refine mv ?_
     refine LV.bslice hS h16 rfl rfl Vdf.el71 rfl rfl rfl rfl fun x39_15 T13 n13 h21 ρ its hS hdr => ?_
     refine LV.call hS h21 (g11_ok _ _ _ _ ) hP rfl rfl rfl rfl fun x40_16 T14 n14 h22 ρ its hS => ?_
     refine sv (VAL.mkI rfl Vdf.ni32) ?_
     refine as_ ?_
     refine dn ?_
     refine CV.region ?_
     refine mv ?_
     refine LV.bslice hS h22 rfl rfl Vdf.el71 rfl rfl rfl rfl fun x43_17 T15 n15 h23 ρ its hS hdr => ?_
     refine LV.call hS h23 (g11_ok _ _ _ _ ) hP rfl rfl rfl rfl fun x44_18 T16 n16 h24 ρ its hS => ?_
     refine sv (VAL.mkI rfl Vdf.ni32) ?_
     refine as_ ?_
     refine LV.done ?_
     refine PV.blockN ?_
     exact pa7 hS h24 ⟨rfl, rfl, rfl, rfl, rfl, rfl, rfl, trivial⟩
   ·
    intro y0 y1 y4 y5 y6 y7 y8 T8 n8 ρ its hS h14
    unfold g3_k2 at h14
    clear h13
    refine CV.region ?_
    refine mv ?_
    refine vy (V.add h14 rfl rfl) fun x30_10 h15 => ?_
    refine as_ ?_
    refine LV.done ?_
    exact pb7 hS h15 ⟨rfl, rfl, rfl, rfl, rfl, rfl, rfl, trivial⟩
  ·
   clear h11 h12
   subst e
   refine CV.exit ?_
   refine PV.thenE ?_
   refine PV.thenE ?_
   refine PV.blockE ?_
   refine PV.thenN ?_
   refine sr ?_
   refine mv ?_
   refine LV.call hS h13 (g12_ok _ _ _ _ ) hP rfl rfl rfl rfl fun x47_19 T17 n17 h25 ρ its hS => ?_
   refine as_ ?_
   refine dn ?_
   refine sr ?_
   refine as_ ?_
   refine dn ?_
   refine CV.seq ?_
   refine sr ?_
   refine as_ ?_
   refine dn ?_
   refine CV.block ?_
   refine cl9 X 0 1 4 5 6 7 9 10 11 [] hS h25 ⟨rfl, rfl, rfl, rfl, rfl, rfl, rfl, rfl, rfl, trivial⟩ ?_
   intro f3 y0 y1 y4 y5 y6 y7 y9 y10 y11 T18 n18 ρ its hS h26
   unfold g3_b3 at h26
   clear h13 h25
   refine CV.seq ?_
   refine sr ?_
   refine mv ?_
   refine mv ?_
   refine vy (V.lenT h26 rfl Vdf.ls9) fun x50_20 h27 => ?_
   refine vy (V.lt h27 rfl rfl) fun x51_21 h28 => ?_
   refine dn ?_
   refine CV.cond h28 rfl (fun e h29 => ?_) (fun e h29 => ?_)
   ·
    clear h26 h27 h28
    subst e
    refine CV.skip ?_
    refine PV.thenN ?_
    refine cs9 X 0 1 4 5 6 7 9 10 11 [] (g3_k4 c0 m0 ro (lpf9 30052 (g3_b3 c0 m0 ro) f3)) ?_ ?_
    ·
     refine CV.block ?_
     refine sr ?_
     refine mv ?_
     refine mv ?_
     refine vy (V.ix h29 rfl rfl Vdf.st9) fun x56_23 h32 => ?_
     refine vy (V.eq h32 rfl rfl) fun x57_24 h33 => ?_
     refine mv ?_
     refine ls10 X 0 1 4 5 6 7 9 10 11 63 [] (g3_k5 c0 m0 ro (lpf9 30052 (g3_b3 c0 m0 ro) f3)) 5 ?_ ?_
     ·
      rcases condK_inv h33 with ⟨e, h37⟩ | ⟨e, h37⟩
      ·
       clear h29 h32 h33
       subst e
       refine sk ?_
       refine sk ?_
       refine sk ?_
       refine sk ?_
       refine pu ?_
       exact la10 hS h37 ⟨rfl, rfl, rfl, rfl, rfl, rfl, rfl, rfl, rfl, rfl, trivial⟩
      ·
       clear h29 h32 h33
       subst e
       refine mv ?_
       refine mv ?_
       refine vy (V.ix h37 rfl rfl Vdf.st9) fun x61_26 h38 => ?_
       refine vy (V.eq h38 rfl rfl) fun x62_27 h39 => ?_
       refine pu ?_
       exact la10 hS h39 ⟨rfl, rfl, rfl, rfl, rfl, rfl, rfl, rfl, rfl, rfl, trivial⟩
     ·
      intro y0 y1 y4 y5 y6 y7 y9 y10 y11 y63 T20 n20 ρ its hS h34
      unfold g3_k5 at h34
      clear h29 h32 h33
      refine dn ?_
      refine CV.cond h34 rfl (fun e h35 => ?_) (fun e h35 => ?_)
      ·
       clear h34
       subst e
       refine CV.region ?_
       refine mv ?_
       refine vy (V.add h35 rfl rfl) fun x65_25 h36 => ?_
       refine as_ ?_
       refine LV.done ?_
       refine PV.blockN ?_
       exact pa9 hS h36 ⟨rfl, rfl, rfl, rfl, rfl, rfl, rfl, rfl, rfl, trivial⟩
      ·
       clear h34
       subst e
       refine CV.skip ?_
       refine PV.blockN ?_
       exact pa9 hS h35 ⟨rfl, rfl, rfl, rfl, rfl, rfl, rfl, rfl, rfl, trivial⟩
    ·
     intro y0 y1 y4 y5 y6 y7 y9 y10 y11 T19 n19 ρ its hS h30
     unfold g3_k4 at h30
     clear h29
     refine CV.region ?_
     refine mv ?_
     refine vy (V.add h30 rfl rfl) fun x53_22 h31 => ?_
     refine as_ ?_
     refine LV.done ?_
     exact pb9 hS h31 ⟨rfl, rfl, rfl, rfl, rfl, rfl, rfl, rfl, rfl, trivial⟩
   ·
    clear h26 h27 h28
    subst e
    refine CV.exit ?_
    refine PV.thenE ?_
    refine PV.thenE ?_
    refine PV.blockE ?_
    refine PV.thenN ?_
    refine sr ?_
    refine mv ?_
    refine mv ?_
    refine LV.call hS h29 (g13_ok _ _ _ _ _ ) hP rfl rfl rfl rfl fun x69_28 T21 n21 h40 ρ its hS => ?_
    refine mv ?_
    refine vy (V.ex h40 rfl) fun x70_29 h41 => ?_
    refine vy (V.ex h41 rfl) fun x71_30 h42 => ?_
    refine as_ ?_
    refine as_ ?_
    refine dn ?_
    refine sr ?_
    refine mv ?_
    refine LV.call hS h42 (g14_ok _ _ _ _ ) hP rfl rfl rfl rfl fun x74_31 T22 n22 h43 ρ its hS => ?_
    refine mv ?_
    refine vy (V.ex h43 rfl) fun x75_32 h44 => ?_
    refine vy (V.ex h44 rfl) fun x76_33 h45 => ?_
    refine as_ ?_
    refine as_ ?_
    refine dn ?_
    refine CV.seq ?_
    refine sr ?_
    refine mv ?_
    refine mv ?_
    refine vy (V.min h45 rfl rfl) fun x79_34 h46 => ?_
    refine vy (V.ne h46 rfl rfl) fun x80_35 h47 => ?_
    refine dn ?_
    refine CV.cond h47 rfl (fun e h48 => ?_) (fun e h48 => ?_)
    ·
     clear h29 h40 h41 h42 h43 h44 h45 h46 h47
     subst e
     cases h48
    ·
     clear h29 h40 h41 h42 h43 h44 h45 h46 h47
     subst e
     refine CV.skip ?_
     refine PV.thenN ?_
     refine CV.seq ?_
     refine sr ?_
     refine mv ?_
     refine vy (V.le h48 rfl rfl) fun x82_36 h49 => ?_
     refine dn ?_
     refine CV.cond h49 rfl (fun e h50 => ?_) (fun e h50 => ?_)
     ·
      clear h48 h49
      subst e
      refine sr ?_
      refine mv ?_
      refine mv ?_
      refine ls7 X 1 4 5 12 13 15 86 [] (g3_k6 c0 m0 ro) 2 ?_ ?_
      ·
       rcases condK_inv h50 with ⟨e, h59⟩ | ⟨e, h59⟩
       ·
        clear h50
        subst e
        refine mv ?_
        refine pu ?_
        exact la7 hS h59 ⟨rfl, rfl, rfl, rfl, rfl, rfl, rfl, trivial⟩
       ·
        clear h50
        subst e
        refine sk ?_
        refine pu ?_
        exact la7 hS h59 ⟨rfl, rfl, rfl, rfl, rfl, rfl, rfl, trivial⟩
      ·
       intro y1 y4 y5 y12 y13 y15 y86 T23 n23 ρ its hS h51
       unfold g3_k6 at h51
       clear h50
       refine mv ?_
       refine ls7 X 1 4 5 12 13 15 90 [] (g3_k7 c0 m0 ro) 3 ?_ ?_
       ·
        rcases condK_inv h51 with ⟨e, h57⟩ | ⟨e, h57⟩
        ·
         clear h51
         subst e
         refine mv ?_
         refine vy (V.bin0 h57 rfl rfl) fun x89_39 h58 => ?_
         refine pu ?_
         exact la7 hS h58 ⟨rfl, rfl, rfl, rfl, rfl, rfl, rfl, trivial⟩
        ·
         clear h51
         subst e
         refine sk ?_
         refine sk ?_
         refine pu ?_
         exact la7 hS h57 ⟨rfl, rfl, rfl, rfl, rfl, rfl, rfl, trivial⟩
       ·
        intro y1 y4 y5 y12 y13 y15 y90 T24 n24 ρ its hS h52
        unfold g3_k7 at h52
        clear h51
        refine mv ?_
        refine ls6 X 4 5 12 13 15 96 [] (g3_k8 c0 m0 ro) 5 ?_ ?_
        ·
         rcases condK_inv h52 with ⟨e, h54⟩ | ⟨e, h54⟩
         ·
          clear h52
          subst e
          refine mv ?_
          refine vy (V.bin0 h54 rfl rfl) fun x93_37 h55 => ?_
          refine mv ?_
          refine vy (V.bin0 h55 rfl rfl) fun x95_38 h56 => ?_
          refine pu ?_
          exact la6 hS h56 ⟨rfl, rfl, rfl, rfl, rfl, rfl, trivial⟩
         ·
          clear h52
          subst e
          refine sk ?_
          refine sk ?_
          refine sk ?_
          refine sk ?_
          refine pu ?_
          exact la6 hS h54 ⟨rfl, rfl, rfl, rfl, rfl, rfl, trivial⟩
        ·
         intro y4 y5 y12 y13 y15 y96 T25 n25 ρ its hS h53
         unfold g3_k8 at h53
         clear h52
         refine as_ ?_
         refine dn ?_
         refine CV.ret ?_
         refine PV.thenR ?_
         cases h53
         exact PV.ret (by simp) Tryz.results3 hS (RS.tmp rfl RS.nil) rfl
     ·
      clear h48 h49
      subst e
      refine CV.skip ?_
      refine PV.thenN ?_
      refine sr ?_
      refine mv ?_
      refine mv ?_
      refine ls4 X 4 13 15 101 [] (g3_k9 c0 m0 ro) 3 ?_ ?_
      ·
       rcases condK_inv h50 with ⟨e, h67⟩ | ⟨e, h67⟩
       ·
        clear h50
        subst e
        refine mv ?_
        refine vy (V.not h67 rfl) fun x100_42 h68 => ?_
        refine pu ?_
        exact la4 hS h68 ⟨rfl, rfl, rfl, rfl, trivial⟩
       ·
        clear h50
        subst e
        refine sk ?_
        refine sk ?_
        refine pu ?_
        exact la4 hS h67 ⟨rfl, rfl, rfl, rfl, trivial⟩
      ·
       intro y4 y13 y15 y101 T26 n26 ρ its hS h60
       unfold g3_k9 at h60
       clear h50
       refine mv ?_
       refine ls3 X 4 15 105 [] (g3_k10 c0 m0 ro) 3 ?_ ?_
       ·
        rcases condK_inv h60 with ⟨e, h65⟩ | ⟨e, h65⟩
        ·
         clear h60
         subst e
         refine mv ?_
         refine LV.call hS h65 (g15_ok _ _ _ _ _ ) hP rfl rfl rfl rfl fun x104_41 T29 n29 h66 ρ its hS => ?_
         refine pu ?_
         exact la3 hS h66 ⟨rfl, rfl, rfl, trivial⟩
        ·
         clear h60
         subst e
         refine sk ?_
         refine sk ?_
         refine pu ?_
         exact la3 hS h65 ⟨rfl, rfl, rfl, trivial⟩
       ·
        intro y4 y15 y105 T27 n27 ρ its hS h61
        unfold g3_k10 at h61
        clear h60
        refine mv ?_
        refine ls2 X 4 109 [] (g3_k11 c0 m0 ro) 3 ?_ ?_
        ·
         rcases condK_inv h61 with ⟨e, h63⟩ | ⟨e, h63⟩
         ·
          clear h61
          subst e
          refine mv ?_
          refine vy (V.bin0 h63 rfl rfl) fun x108_40 h64 => ?_
          refine pu ?_
          exact la2 hS h64 ⟨rfl, rfl, trivial⟩
         ·
          clear h61
          subst e
          refine sk ?_
          refine sk ?_
          refine pu ?_
          exact la2 hS h63 ⟨rfl, rfl, trivial⟩
        ·
         intro y4 y109 T28 n28 ρ its hS h62
         unfold g3_k11 at h62
         clear h61
         refine as_ ?_
         refine dn ?_
         refine CV.ret ?_
         cases h62
         exact PV.ret (by simp) Tryz.results3 hS (RS.tmp rfl RS.nil) rfl

end Go.Proofs.YtlljgagoboapaaaGreatDoor.Vd
