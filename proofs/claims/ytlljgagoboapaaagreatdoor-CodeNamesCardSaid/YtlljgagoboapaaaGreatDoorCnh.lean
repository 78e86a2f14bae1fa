/-
  Proved here: plain functions that do what the program's functions do, each with its proof.
-/
import Derived.Test.YtlljgagoboapaaaGreatDoorCng
namespace Go.Proofs.YtlljgagoboapaaaGreatDoor.Cn
open Go.EY Go.EX Go.SX Go.RowKit
noncomputable def g77 (ro : List HT) (a0 a1 a2 : AV) (T : HT) (nx : Nat) : R :=
 boxK 770001 T nx a2 169 fun x5_1 T1 n1 =>
 newK T1 n1 (.obj [.lit (.string ⟨#[]⟩), .lit (.int .i64 0), .lit (.int .i64 0), .lit (.int .i64 0), .lit (.slice none 0 0), .lit (.slice none 0 0)] 175) fun x6_2 T2 n2 =>
 ncK 770004 a0 fun x13_3 =>
 faK 770005 x13_3 0 fun x14_4 =>
 ldK 770006 T2 ro x14_4 fun x15_5 =>
 faK 770007 x5_1 0 fun x16_6 =>
 ldK 770008 T2 ro x16_6 fun x17_7 =>
 iaK 770009 x15_5 x17_7 5 fun x18_8 =>
 ldAK 770010 T2 ro x18_8 5 fun x19_9 =>
 newK T2 n2 (.obj [.lit (.int .i64 0), .lit (.int .i64 0), .lit (.int .i64 0), .lit (.string ⟨#[]⟩), .lit (.slice none 0 0)] 172) fun x7_10 T3 n3 =>
 stAK 770012 T3 x7_10 x19_9 5 fun T4 =>
 faK 770013 x5_1 1 fun x20_11 =>
 ldK 770014 T4 ro x20_11 fun x21_12 =>
 faK 770015 x5_1 2 fun x22_13 =>
 ldK 770016 T4 ro x22_13 fun x23_14 =>
 optK 770017 (bld175 [(1, x21_12), (3, x23_14)]) fun x24_15 =>
 newK T4 n3 (.obj [.lit (.string ⟨#[]⟩), .lit (.int .i64 0), .lit (.int .i64 0), .lit (.int .i64 0), .lit (.slice none 0 0), .lit (.slice none 0 0)] 175) fun x8_16 T5 n5 =>
 stAK 770019 T5 x8_16 x24_15 6 fun T6 =>
 faK 770020 x5_1 0 fun x25_17 =>
 ldK 770021 T6 ro x25_17 fun x26_18 =>
 gtK Tryz.prog 3 (.tmp 27) (.const (.int .i64 (.ofNat 0))) 770024 a1 (.lit (.int .i64 (.ofNat 0))) fun x28_19 =>
 condK 770025 x28_19
 (
  .bad 770026
 )
 (
  faK 770029 a0 7 fun x82_20 =>
  stK 770030 T6 x82_20 (.lit (.slice none 0 0)) fun T7 =>
  faK 770031 a0 8 fun x84_21 =>
  stK 770032 T7 x84_21 (.lit (.slice none 0 0)) fun T8 =>
  callK (g110 ro a0 x26_18 T8 n5) fun x87_22 T9 n9 =>
  faK 770038 x7_10 2 fun x91_23 =>
  ldQK 770039 T9 ro [(x7_10, 2, 1)] x91_23 fun x92_24 =>
  callK (g108 ro a0 (.lit (.int .i64 (.ofNat 1))) (.lit (.string ⟨⟨[]⟩⟩)) T9 n9) fun x90_25 T10 n10 =>
  keepK 770041 T9 T10 [(x7_10, 2, 1)] <|
  callK (g111 ro a0 (.lit (.int .i64 (.ofNat 1))) x90_25 (.lit (.int .i64 (.ofNat 0))) x92_24 T10 n10) fun x93_26 T11 n11 =>
  faK 770044 x7_10 2 fun x95_27 =>
  ldK 770045 T11 ro x95_27 fun x96_28 =>
  callK (g111 ro a0 (.lit (.int .i64 (.ofNat 29))) (.lit (.int .i64 (.ofNat 0))) (.lit (.int .i64 (.ofNat 0))) x96_28 T11 n11) fun x97_29 T12 n12 =>
  fldK 770048 T12 ro a0 7 fun x101_30 =>
  faK 770049 x8_16 5 fun x102_31 =>
  stK 770050 T12 x102_31 x101_30 fun T13 =>
  ldAK 770051 T13 ro x8_16 6 fun x103_32 =>
  stAK 770052 T13 x6_2 x103_32 6 fun T14 =>
  ldAK 770053 T14 ro x6_2 6 fun x6_33 =>
  .ok (.val x6_33) T14 n12
 )
theorem g77_ok (ro : List HT) (a0 a1 a2 : AV) (T : HT) (nx : Nat) : GOk Tryz.prog envE 77 [a0, a1, a2] ro T nx (g77 ro a0 a1 a2 T nx) := by
 refine GOk.of_body Tryz.func77 rfl Tryz.ntmps77 (by kernel_rfl) rfl fun r T' n' h1 w0 base ρ0 its hS hP => ?_
 have X : CtxW envE ρ0 ro r T' n' := trivial
 unfold g77 at h1
 refine sr ?_
 refine LV.box hS h1 rfl rfl rfl rfl rfl fun x5_1 T1 n1 h2 ρ its hS hdr => ?_
 refine LV.alloc hS h2 rfl Cnf.zr175 rfl rfl rfl fun x6_2 T2 n2 h3 ρ its hS hdr => ?_
 refine dn ?_
 refine CV.seq ?_
 refine CV.regionM [(0, .anywhere), (1, .anywhere), (2, .anywhere), (3, .held), (4, .anywhere), (5, .held), (6, .held), (7, .held), (8, .alone), (9, .alone)] rfl (fun c a a' w hd hq => PanicOk.root (P := Tryz.prog) (fn := Tryz.f77) (w0 := w0) (base := base) (E := envE) (ro := ro) (r := r) (T' := T') (n' := n') (ρ0 := ρ0) c a a' w hd hq) (by kernel_rfl) ?_
 refine MV.step0 (i := 0) rfl (VAL.move rfl) rfl rfl rfl ?_
 refine MV.lift0 (i := 1) rfl (V.nc h3 rfl) rfl rfl rfl fun x13_3 h4 => ?_
 refine MV.lift0 (i := 2) rfl (V.fa h4 rfl Cnf.fo164_0) rfl rfl rfl fun x14_4 h5 => ?_
 refine MV.lift1 (i := 3) rfl (fun _ z => z) (V.ld hS h5 rfl Cnf.one109) rfl rfl rfl [] (by kernel_rfl) fun x15_5 h6 => ?_
 refine MV.lift0 (i := 4) rfl (V.fa h6 rfl Cnf.fo169_0) rfl rfl rfl fun x16_6 h7 => ?_
 refine MV.lift1 (i := 5) rfl (fun _ z => z) (V.ld hS h7 rfl Cnf.one3) rfl rfl rfl [3] (by kernel_rfl) fun x17_7 h8 => ?_
 refine MV.lift1 (i := 6) rfl (fun _ z => z) (V.ia h8 rfl rfl Cnf.el109) rfl rfl rfl [] (by kernel_rfl) fun x18_8 h9 => ?_
 refine MV.lift1 (i := 7) rfl (fun _ z => z) (V.ldA hS h9 rfl Cnf.agg172) rfl rfl rfl [] (by kernel_rfl) fun x19_9 h10 => ?_
 refine MV.force (i := 8) rfl ?_
 refine LV.alloc hS h10 rfl Cnf.zr172 rfl rfl rfl fun x7_10 T3 n3 h11 ρ its hS hdr => ?_
 refine LV.nextM [7] (by kernel_rfl) (fun _ => hdr) ?_
 refine MV.force (i := 9) rfl ?_
 refine LV.stA hS h11 rfl rfl rfl Cnf.agg172 rfl rfl rfl fun T4 its h12 hS => ?_
 refine LV.nextM [] (by kernel_rfl) (fun z => absurd rfl z) ?_
 refine mdn ?_
 refine sr ?_
 refine vy (V.fa h12 rfl Cnf.fo169_1) fun x20_11 h13 => ?_
 refine vy (V.ld hS h13 rfl Cnf.one3) fun x21_12 h14 => ?_
 refine vy (V.fa h14 rfl Cnf.fo169_2) fun x22_13 h15 => ?_
 refine vy (V.ld hS h15 rfl Cnf.one3) fun x23_14 h16 => ?_
 refine vy (V.bld h16 rfl) fun x24_15 h17 => ?_
 refine LV.alloc hS h17 rfl Cnf.zr175 rfl rfl rfl fun x8_16 T5 n5 h18 ρ its hS hdr => ?_
 refine LV.stA hS h18 rfl rfl rfl Cnf.agg175 rfl rfl rfl fun T6 its h19 hS => ?_
 refine dn ?_
 refine sr ?_
 refine vy (V.fa h19 rfl Cnf.fo169_0) fun x25_17 h20 => ?_
 refine vy (V.ld hS h20 rfl Cnf.one3) fun x26_18 h21 => ?_
 refine as_ ?_
 refine dn ?_
 refine CV.seq ?_
 refine sr ?_
 refine mv ?_
 refine vy (V.gt h21 rfl rfl) fun x28_19 h22 => ?_
 refine dn ?_
 refine CV.cond h22 rfl (fun e h23 => ?_) (fun e h23 => ?_)
 ·
  clear h1 h2 h3 h4 h5 h6 h7 h8 h9 h10 h11 h12 h13 h14 h15 h16 h17 h18 h19 h20 h21 h22
  subst e
  cases h23
 ·
  clear h1 h2 h3 h4 h5 h6 h7 h8 h9 h10 h11 h12 h13 h14 h15 h16 h17 h18 h19 h20 h21 h22
  subst e
  refine CV.skip ?_
  refine PV.thenN ?_
  refine sr ?_
  refine mv ?_
  refine mv ?_
  refine fa2 h23 Cnf.fo164_4 fun x82_20 h24 => ?_
  refine LV.st hS h24 rfl rfl rfl Cnf.siz161 rfl rfl fun T7 its h25 hS => ?_
  refine fa2 h25 Cnf.fo164_5 fun x84_21 h26 => ?_
  refine LV.st hS h26 rfl rfl rfl Cnf.siz162 rfl rfl fun T8 its h27 hS => ?_
  refine dn ?_
  refine sr ?_
  refine mv ?_
  refine mv ?_
  refine LV.call hS h27 (g110_ok _ _ _ _ _ ) hP rfl rfl rfl rfl fun x87_22 T9 n9 h28 ρ its hS => ?_
  refine dn ?_
  refine CV.seq ?_
  refine CV.regionMS hS [(x7_10, 2, 1)] [(0, .anywhere), (1, .anywhere), (3, .anywhere), (4, .held), (2, .alone), (5, .alone)] rfl (fun c a a' w hd hq => PanicOk.root (P := Tryz.prog) (fn := Tryz.f77) (w0 := w0) (base := base) (E := envE) (ro := ro) (r := r) (T' := T') (n' := n') (ρ0 := ρ0) c a a' w hd hq) (by kernel_rfl) ?_
  have hK := KeepS.start [(x7_10, 2, 1)] hS
  have hR := hS
  have hP0 := hP
  replace hP := PK.up hR hP
  replace hS := hR.root
  refine MV.step0 (i := 0) rfl (VAL.move rfl) rfl rfl rfl ?_
  refine MV.step0 (i := 1) rfl (VAL.move rfl) rfl rfl rfl ?_
  refine MV.lift0 (i := 3) rfl (V.fa h28 rfl Cnf.fo172_2) rfl rfl rfl fun x91_23 h29 => ?_
  refine MV.lift1 (i := 4) rfl hK (V.ldQ hS h29 rfl Cnf.one3) rfl rfl rfl [] (by kernel_rfl) fun x92_24 h30 => ?_
  refine MV.force (i := 2) rfl ?_
  refine LV.call hS h30 (g108_ok _ _ _ _ _ _ ) hP rfl rfl rfl rfl fun x90_25 T10 n10 h31 ρ its hS => ?_
  obtain ⟨hK, h32⟩ := KeepS.step hR hS h31
  refine LV.nextM [4] (by kernel_rfl) (fun _ => hK) ?_
  refine MV.force (i := 5) rfl ?_
  refine LV.call hS h32 (g111_ok _ _ _ _ _ _ _ _ ) hP rfl rfl rfl rfl fun x93_26 T11 n11 h33 ρ its hS => ?_
  refine LV.nextM [] (by kernel_rfl) (fun z => absurd rfl z) ?_
  replace hS := hR.up hS
  replace hP := hP0
  refine mdn ?_
  refine sr ?_
  refine mv ?_
  refine vy (V.fa h33 rfl Cnf.fo172_2) fun x95_27 h34 => ?_
  refine vy (V.ld hS h34 rfl Cnf.one3) fun x96_28 h35 => ?_
  refine LV.call hS h35 (g111_ok _ _ _ _ _ _ _ _ ) hP rfl rfl rfl rfl fun x97_29 T12 n12 h36 ρ its hS => ?_
  refine dn ?_
  refine sr ?_
  refine mv ?_
  refine fl hS h36 Cnf.fo164_4 Cnf.one161 fun x101_30 h37 => ?_
  refine vy (V.fa h37 rfl Cnf.fo175_5) fun x102_31 h38 => ?_
  refine LV.st hS h38 rfl rfl rfl Cnf.siz161 rfl rfl fun T13 its h39 hS => ?_
  refine dn ?_
  refine sr ?_
  refine vy (V.ldA hS h39 rfl Cnf.agg175) fun x103_32 h40 => ?_
  refine LV.stA hS h40 rfl rfl rfl Cnf.agg175 rfl rfl rfl fun T14 its h41 hS => ?_
  refine dn ?_
  refine CV.ret ?_
  refine PV.ldA (x := .tmp 6) (t := 175) hS h41 rfl Cnf.agg175 fun x6_33 h42 hVx6_33 => ?_
  cases h42
  exact PV.ret (by simp) Tryz.results77 hS (RS.cell hVx6_33 RS.nil) rfl
noncomputable def g44_b3 (ro : List HT) (lp3 : AV → AV → AV → AV → AV → AV → HT → Nat → R) (y4 y5 y9 y65 y66 y67 : AV) (T15 : HT) (n15 : Nat) : R :=
 ltK Tryz.prog 3 (.tmp 67) (.tmp 66) 440071 y67 y66 fun x68_37 =>
 condK 440072 x68_37
 (
  iaK 440074 y65 y67 4 fun x70_38 =>
  ldAK 440075 T15 ro x70_38 4 fun x71_39 =>
  newK T15 n15 (.obj [.lit (.int .i64 0), .lit (.int .i64 0), .lit (.int .i64 0), .lit (.slice none 0 0)] 169) fun x15_40 T16 n16 =>
  stAK 440078 T16 x15_40 x71_39 4 fun T17 =>
  ncK 440081 y9 fun x74_41 =>
  faK 440082 x74_41 3 fun x75_42 =>
  faK 440083 x75_42 0 fun x76_43 =>
  ldQK 440084 T17 ro [(y9, 3, 1), (x15_40, 0, 4)] x76_43 fun x77_44 =>
  ldAQK 440087 T17 ro [(y9, 3, 1), (x15_40, 0, 4)] x15_40 4 fun x80_45 =>
  callK (g77 ro y9 y67 x80_45 T17 n16) fun x81_46 T18 n18 =>
  keepK 440089 T17 T18 [(y9, 3, 1), (x15_40, 0, 4)] <|
  bsK 440090 T18 n18 1 175 6 [(0, x81_46)] fun x82_47 T19 n19 =>
  keepK 440091 T17 T19 [(y9, 3, 1), (x15_40, 0, 4)] <|
  shrK 440093 T19 x77_44 fun T20 =>
  appEK 440092 T20 ro n19 175 6 88 x77_44 x82_47 fun x83_48 T21 n21 =>
  ncK 440094 y9 fun x84_49 =>
  faK 440095 x84_49 3 fun x85_50 =>
  faK 440096 x85_50 0 fun x86_51 =>
  stK 440097 T21 x86_51 x83_48 fun T22 =>
  addK Tryz.prog 3 (.tmp 67) (.const (.int .i64 (.ofNat 1))) 440098 y67 (.lit (.int .i64 (.ofNat 1))) fun x87_52 =>
  lp3 y4 y5 y9 y65 y66 x87_52 T22 n21
 )
 (
  faK 440101 y9 3 fun x90_53 =>
  ldAK 440102 T15 ro x90_53 4 fun x91_54 =>
  stAK 440103 T15 y4 x91_54 4 fun T23 =>
  ldAK 440105 T23 ro y4 4 fun x4_55 =>
  .ok (.val (.tup [x4_55, (.lit (.nilIface))])) T23 n15
 )
noncomputable def g44_b2 (ro : List HT) (lp2 : AV → AV → AV → AV → AV → AV → AV → HT → Nat → R) (y4 y5 y7 y9 y55 y56 y57 : AV) (T11 : HT) (n11 : Nat) : R :=
 ltK Tryz.prog 3 (.tmp 57) (.tmp 56) 440056 y57 y56 fun x58_29 =>
 condK 440057 x58_29
 (
  iaK 440058 y55 y57 5 fun x59_30 =>
  ldAK 440059 T11 ro x59_30 5 fun x60_31 =>
  newK T11 n11 (.obj [.lit (.int .i64 0), .lit (.int .i64 0), .lit (.int .i64 0), .lit (.string ⟨#[]⟩), .lit (.slice none 0 0)] 172) fun x13_32 T12 n12 =>
  stAK 440061 T12 x13_32 x60_31 5 fun T13 =>
  ldAK 440063 T13 ro x13_32 5 fun x62_33 =>
  callK (g76 ro y9 x62_33 T13 n12) fun x63_34 T14 n14 =>
  addK Tryz.prog 3 (.tmp 57) (.const (.int .i64 (.ofNat 1))) 440065 y57 (.lit (.int .i64 (.ofNat 1))) fun x64_35 =>
  lp2 y4 y5 y7 y9 y55 y56 x64_35 T14 n14
 )
 (
  lenSK 440068 y7 fun x66_36 =>
  lpf6 440070 (g44_b3 ro) 100000 y4 y5 y9 y7 x66_36 (.lit (.int .i64 (.ofNat 0))) T11 n11
 )
noncomputable def g44_b1 (ro : List HT) (lp1 : AV → AV → AV → AV → AV → AV → AV → AV → HT → Nat → R) (y0 y4 y5 y7 y9 y32 y33 y34 : AV) (T5 : HT) (n5 : Nat) : R :=
 ltK Tryz.prog 3 (.tmp 34) (.tmp 33) 440027 y34 y33 fun x35_11 =>
 condK 440028 x35_11
 (
  iaK 440029 y32 y34 3 fun x36_12 =>
  ldAK 440030 T5 ro x36_12 3 fun x37_13 =>
  newK T5 n5 (.obj [.lit (.int .i64 0), .lit (.int .i64 0), .lit (.int .i64 0)] 166) fun x11_14 T6 n6 =>
  stAK 440032 T6 x11_14 x37_13 3 fun T7 =>
  ncK 440034 y9 fun x39_15 =>
  faK 440035 x39_15 1 fun x40_16 =>
  ldK 440036 T7 ro x40_16 fun x41_17 =>
  faK 440037 x11_14 0 fun x42_18 =>
  ldK 440038 T7 ro x42_18 fun x43_19 =>
  ldAK 440039 T7 ro x11_14 3 fun x44_20 =>
  msIK 440040 T7 x41_17 x43_19 x44_20 fun T8 =>
  addK Tryz.prog 3 (.tmp 34) (.const (.int .i64 (.ofNat 1))) 440041 y34 (.lit (.int .i64 (.ofNat 1))) fun x45_21 =>
  lp1 y0 y4 y5 y7 y9 y32 y33 x45_21 T8 n6
 )
 (
  iaK 440045 y7 (.lit (.int .i64 (.ofNat 0))) 4 fun x48_22 =>
  faK 440046 x48_22 3 fun x49_23 =>
  ldK 440047 T5 ro x49_23 fun x50_24 =>
  callK (g75 ro x50_24 T5 n5) fun x51_25 T9 n9 =>
  faK 440049 y9 3 fun x53_26 =>
  faK 440050 x53_26 2 fun x54_27 =>
  stK 440051 T9 x54_27 x51_25 fun T10 =>
  lenSK 440053 y0 fun x56_28 =>
  lpf7 440055 (g44_b2 ro) 100000 y4 y5 y7 y9 y0 x56_28 (.lit (.int .i64 (.ofNat 0))) T10 n9
 )
noncomputable def g44 (ro : List HT) (a0 a1 : AV) (T : HT) (nx : Nat) : R :=
 newK T nx (.obj [.lit (.slice none 0 0), .lit (.slice none 0 0), .lit (.slice none 0 0), .lit (.slice none 0 0)] 114) fun x4_1 T1 n1 =>
 callK (g74 ro a0 a1 T1 n1) fun x19_2 T2 n2 =>
 exK 440007 x19_2 0 fun x20_3 =>
 exK 440008 x19_2 1 fun x21_4 =>
 exK 440009 x19_2 2 fun x22_5 =>
 bin0 Tryz.prog .neq 36 (.tmp 23) (.const (.nilIface)) 440014 x22_5 (.lit (.nilIface)) fun x24_6 =>
 condK 440015 x24_6
 (
  .bad 440016
 )
 (
  mkmK T2 n2 fun x28_7 T3 n3 =>
  optK 440020 (bld164 [(0, a0), (1, x28_7), (2, x21_4)]) fun x30_8 =>
  boxK 440021 T3 n3 x30_8 164 fun x31_9 T4 n4 =>
  lenSK 440024 x20_3 fun x33_10 =>
  lpf8 440026 (g44_b1 ro) 100000 a0 x4_1 (.lit (.nilIface)) x21_4 x31_9 x20_3 x33_10 (.lit (.int .i64 (.ofNat 0))) T4 n4
 )
theorem g44_ok (ro : List HT) (a0 a1 : AV) (T : HT) (nx : Nat) : GOk Tryz.prog envE 44 [a0, a1] ro T nx (g44 ro a0 a1 T nx) := by
 refine GOk.of_body Tryz.func44 rfl Tryz.ntmps44 (by kernel_rfl) rfl fun r T' n' h1 w0 base ρ0 its hS hP => ?_
 have X : CtxW envE ρ0 ro r T' n' := trivial
 unfold g44 at h1
 refine sr ?_
 refine LV.alloc hS h1 rfl Cnf.zr114 rfl rfl rfl fun x4_1 T1 n1 h2 ρ its hS hdr => ?_
 refine as_ ?_
 refine dn ?_
 refine sr ?_
 refine mv ?_
 refine mv ?_
 refine LV.call hS h2 (g74_ok _ _ _ _ _ ) hP rfl rfl rfl rfl fun x19_2 T2 n2 h3 ρ its hS => ?_
 refine mv ?_
 refine vy (V.ex h3 rfl) fun x20_3 h4 => ?_
 refine vy (V.ex h4 rfl) fun x21_4 h5 => ?_
 refine vy (V.ex h5 rfl) fun x22_5 h6 => ?_
 refine as_ ?_
 refine as_ ?_
 refine as_ ?_
 refine dn ?_
 refine CV.seq ?_
 refine sr ?_
 refine mv ?_
 refine vy (V.bin0 h6 rfl rfl) fun x24_6 h7 => ?_
 refine dn ?_
 refine CV.cond h7 rfl (fun e h8 => ?_) (fun e h8 => ?_)
 ·
  clear h1 h2 h3 h4 h5 h6 h7
  subst e
  cases h8
 ·
  clear h1 h2 h3 h4 h5 h6 h7
  subst e
  refine CV.skip ?_
  refine PV.thenN ?_
  refine sr ?_
  refine mv ?_
  refine LV.mkm hS h8 rfl rfl rfl rfl fun x28_7 T3 n3 h9 ρ its hS hdr => ?_
  refine mv ?_
  refine vy (V.bld h9 rfl) fun x30_8 h10 => ?_
  refine LV.box hS h10 rfl rfl rfl rfl rfl fun x31_9 T4 n4 h11 ρ its hS hdr => ?_
  refine as_ ?_
  refine dn ?_
  refine CV.seq ?_
  refine sr ?_
  refine mv ?_
  refine vy (V.lenS h11 rfl Cnf.ls155) fun x33_10 h12 => ?_
  refine mv ?_
  refine dn ?_
  refine CV.block ?_
  refine cl8 X 0 4 5 7 9 32 33 34 [] hS h12 ⟨rfl, rfl, rfl, rfl, rfl, rfl, rfl, rfl, trivial⟩ ?_
  intro f1 y0 y4 y5 y7 y9 y32 y33 y34 T5 n5 ρ its hS h13
  unfold g44_b1 at h13
  clear h8 h9 h10 h11 h12
  refine sr ?_
  refine vy (V.lt h13 rfl rfl) fun x35_11 h14 => ?_
  refine dn ?_
  refine CV.seq ?_
  refine CV.cond h14 rfl (fun e h15 => ?_) (fun e h15 => ?_)
  ·
   clear h13 h14
   subst e
   refine CV.skip ?_
   refine PV.thenN ?_
   refine CV.seq ?_
   refine CV.block ?_
   refine sr ?_
   refine vy (V.ia h15 rfl rfl Cnf.el155) fun x36_12 h16 => ?_
   refine vy (V.ldA hS h16 rfl Cnf.agg166) fun x37_13 h17 => ?_
   refine LV.alloc hS h17 rfl Cnf.zr166 rfl rfl rfl fun x11_14 T6 n6 h18 ρ its hS hdr => ?_
   refine LV.stA hS h18 rfl rfl rfl Cnf.agg166 rfl rfl rfl fun T7 its h19 hS => ?_
   refine dn ?_
   refine CV.regionM [(0, .anywhere), (1, .anywhere), (2, .anywhere), (3, .held), (4, .anywhere), (5, .held), (6, .held), (7, .alone)] rfl (fun c a a' w hd hq => PanicOk.root (P := Tryz.prog) (fn := Tryz.f44) (w0 := w0) (base := base) (E := envE) (ro := ro) (r := r) (T' := T') (n' := n') (ρ0 := ρ0) c a a' w hd hq) (by kernel_rfl) ?_
   refine MV.step0 (i := 0) rfl (VAL.move rfl) rfl rfl rfl ?_
   refine MV.lift0 (i := 1) rfl (V.nc h19 rfl) rfl rfl rfl fun x39_15 h20 => ?_
   refine MV.lift0 (i := 2) rfl (V.fa h20 rfl Cnf.fo164_1) rfl rfl rfl fun x40_16 h21 => ?_
   refine MV.lift1 (i := 3) rfl (fun _ z => z) (V.ld hS h21 rfl Cnf.one160) rfl rfl rfl [] (by kernel_rfl) fun x41_17 h22 => ?_
   refine MV.lift0 (i := 4) rfl (V.fa h22 rfl Cnf.fo166_0) rfl rfl rfl fun x42_18 h23 => ?_
   refine MV.lift1 (i := 5) rfl (fun _ z => z) (V.ld hS h23 rfl Cnf.one3) rfl rfl rfl [3] (by kernel_rfl) fun x43_19 h24 => ?_
   refine MV.lift1 (i := 6) rfl (fun _ z => z) (V.ldA hS h24 rfl Cnf.agg166) rfl rfl rfl [5, 3] (by kernel_rfl) fun x44_20 h25 => ?_
   refine MV.force (i := 7) rfl ?_
   refine LV.msI hS h25 rfl rfl rfl (.inl rfl) Cnf.map160 Cnf.ud3 rfl rfl fun T8 its h26 hS => ?_
   refine LV.nextM [] (by kernel_rfl) (fun z => absurd rfl z) ?_
   refine MV.done ?_
   refine PV.blockN ?_
   refine PV.thenN ?_
   refine CV.region ?_
   refine vy (V.add h26 rfl rfl) fun x45_21 h27 => ?_
   refine mv ?_
   refine LV.done ?_
   exact pb8 hS h27 ⟨rfl, rfl, rfl, rfl, rfl, rfl, rfl, rfl, trivial⟩
  ·
   clear h13 h14
   subst e
   refine CV.exit ?_
   refine PV.thenE ?_
   refine PV.thenE ?_
   refine PV.blockE ?_
   refine PV.thenN ?_
   refine sr ?_
   refine mv ?_
   refine mv ?_
   refine vy (V.ia h15 rfl rfl Cnf.el156) fun x48_22 h28 => ?_
   refine vy (V.fa h28 rfl Cnf.fo169_3) fun x49_23 h29 => ?_
   refine vy (V.ld hS h29 rfl Cnf.one54) fun x50_24 h30 => ?_
   refine LV.call hS h30 (g75_ok _ _ _ _ ) hP rfl rfl rfl rfl fun x51_25 T9 n9 h31 ρ its hS => ?_
   refine fa2 h31 Cnf.fo164_3 fun x53_26 h32 => ?_
   refine vy (V.fa h32 rfl Cnf.fo114_2) fun x54_27 h33 => ?_
   refine LV.st hS h33 rfl rfl rfl Cnf.siz54 rfl rfl fun T10 its h34 hS => ?_
   refine dn ?_
   refine CV.seq ?_
   refine sr ?_
   refine mv ?_
   refine vy (V.lenS h34 rfl Cnf.ls109) fun x56_28 h35 => ?_
   refine mv ?_
   refine dn ?_
   refine CV.block ?_
   refine cl7 X 4 5 7 9 55 56 57 [] hS h35 ⟨rfl, rfl, rfl, rfl, rfl, rfl, rfl, trivial⟩ ?_
   intro f2 y4 y5 y7 y9 y55 y56 y57 T11 n11 ρ its hS h36
   unfold g44_b2 at h36
   clear h15 h28 h29 h30 h31 h32 h33 h34 h35
   refine sr ?_
   refine vy (V.lt h36 rfl rfl) fun x58_29 h37 => ?_
   refine dn ?_
   refine CV.seq ?_
   refine CV.cond h37 rfl (fun e h38 => ?_) (fun e h38 => ?_)
   ·
    clear h36 h37
    subst e
    refine CV.skip ?_
    refine PV.thenN ?_
    refine CV.seq ?_
    refine CV.block ?_
    refine sr ?_
    refine vy (V.ia h38 rfl rfl Cnf.el109) fun x59_30 h39 => ?_
    refine vy (V.ldA hS h39 rfl Cnf.agg172) fun x60_31 h40 => ?_
    refine LV.alloc hS h40 rfl Cnf.zr172 rfl rfl rfl fun x13_32 T12 n12 h41 ρ its hS hdr => ?_
    refine LV.stA hS h41 rfl rfl rfl Cnf.agg172 rfl rfl rfl fun T13 its h42 hS => ?_
    refine dn ?_
    refine CV.region ?_
    refine mv ?_
    refine vy (V.ldA hS h42 rfl Cnf.agg172) fun x62_33 h43 => ?_
    refine LV.call hS h43 (g76_ok _ _ _ _ _ ) hP rfl rfl rfl rfl fun x63_34 T14 n14 h44 ρ its hS => ?_
    refine LV.done ?_
    refine PV.blockN ?_
    refine PV.thenN ?_
    refine CV.region ?_
    refine vy (V.add h44 rfl rfl) fun x64_35 h45 => ?_
    refine mv ?_
    refine LV.done ?_
    exact pb7 hS h45 ⟨rfl, rfl, rfl, rfl, rfl, rfl, rfl, trivial⟩
   ·
    clear h36 h37
    subst e
    refine CV.exit ?_
    refine PV.thenE ?_
    refine PV.thenE ?_
    refine PV.blockE ?_
    refine PV.thenN ?_
    refine CV.seq ?_
    refine sr ?_
    refine mv ?_
    refine vy (V.lenS h38 rfl Cnf.ls156) fun x66_36 h46 => ?_
    refine mv ?_
    refine dn ?_
    refine CV.block ?_
    refine cl6 X 4 5 9 65 66 67 [] hS h46 ⟨rfl, rfl, rfl, rfl, rfl, rfl, trivial⟩ ?_
    intro f3 y4 y5 y9 y65 y66 y67 T15 n15 ρ its hS h47
    unfold g44_b3 at h47
    clear h38 h46
    refine sr ?_
    refine vy (V.lt h47 rfl rfl) fun x68_37 h48 => ?_
    refine dn ?_
    refine CV.seq ?_
    refine CV.cond h48 rfl (fun e h49 => ?_) (fun e h49 => ?_)
    ·
     clear h47 h48
     subst e
     refine CV.skip ?_
     refine PV.thenN ?_
     refine CV.seq ?_
     refine CV.block ?_
     refine sr ?_
     refine mv ?_
     refine vy (V.ia h49 rfl rfl Cnf.el156) fun x70_38 h50 => ?_
     refine vy (V.ldA hS h50 rfl Cnf.agg169) fun x71_39 h51 => ?_
     refine LV.alloc hS h51 rfl Cnf.zr169 rfl rfl rfl fun x15_40 T16 n16 h52 ρ its hS hdr => ?_
     refine as_ ?_
     refine LV.stA hS h52 rfl rfl rfl Cnf.agg169 rfl rfl rfl fun T17 its h53 hS => ?_
     refine dn ?_
     refine CV.regionMS hS [(y9, 3, 1), (x15_40, 0, 4)] [(0, .anywhere), (1, .anywhere), (2, .anywhere), (3, .anywhere), (4, .anywhere), (5, .held), (6, .anywhere), (7, .anywhere), (8, .held), (9, .alone), (10, .alone), (11, .alone), (12, .alone), (13, .alone), (14, .alone), (15, .alone)] rfl (fun c a a' w hd hq => PanicOk.root (P := Tryz.prog) (fn := Tryz.f44) (w0 := w0) (base := base) (E := envE) (ro := ro) (r := r) (T' := T') (n' := n') (ρ0 := ρ0) c a a' w hd hq) (by kernel_rfl) ?_
     have hK := KeepS.start [(y9, 3, 1), (x15_40, 0, 4)] hS
     have hR := hS
     have hP0 := hP
     replace hP := PK.up hR hP
     replace hS := hR.root
     refine MV.step0 (i := 0) rfl (VAL.move rfl) rfl rfl rfl ?_
     refine MV.step0 (i := 1) rfl (VAL.move rfl) rfl rfl rfl ?_
     refine MV.lift0 (i := 2) rfl (V.nc h53 rfl) rfl rfl rfl fun x74_41 h54 => ?_
     refine MV.lift0 (i := 3) rfl (V.fa h54 rfl Cnf.fo164_3) rfl rfl rfl fun x75_42 h55 => ?_
     refine MV.lift0 (i := 4) rfl (V.fa h55 rfl Cnf.fo114_0) rfl rfl rfl fun x76_43 h56 => ?_
     refine MV.lift1 (i := 5) rfl hK (V.ldQ hS h56 rfl Cnf.one112) rfl rfl rfl [] (by kernel_rfl) fun x77_44 h57 => ?_
     refine MV.step0 (i := 6) rfl (VAL.move rfl) rfl rfl rfl ?_
     refine MV.step0 (i := 7) rfl (VAL.move rfl) rfl rfl rfl ?_
     refine MV.lift1 (i := 8) rfl hK (V.ldAQ hS h57 rfl Cnf.agg169) rfl rfl rfl [5] (by kernel_rfl) fun x80_45 h58 => ?_
     refine MV.force (i := 9) rfl ?_
     refine LV.call hS h58 (g77_ok _ _ _ _ _ _ ) hP rfl rfl rfl rfl fun x81_46 T18 n18 h59 ρ its hS => ?_
     obtain ⟨hK, h60⟩ := KeepS.step hR hS h59
     refine LV.nextM [5] (by kernel_rfl) (fun _ => hK) ?_
     refine MV.force (i := 10) rfl ?_
     refine LV.bslice hS h60 rfl rfl Cnf.el112 rfl rfl rfl rfl fun x82_47 T19 n19 h61 ρ its hS hdr => ?_
     obtain ⟨hK, h62⟩ := KeepS.step hR hS h61
     refine LV.nextM [5] (by kernel_rfl) (fun _ => hK) ?_
     refine MV.force (i := 11) rfl ?_
     obtain ⟨T20, its1, h63, hS, hW⟩ := shrK_inv hS h62
     refine LV.world hW ?_
     refine LV.appE hS h63 rfl rfl rfl rfl Cnf.el112 rfl rfl rfl fun x83_48 T21 n21 h64 ρ its hS => ?_
     refine LV.nextM [] (by kernel_rfl) (fun z => absurd rfl z) ?_
     refine MV.force (i := 12) rfl ?_
     refine vy (V.nc h64 rfl) fun x84_49 h65 => ?_
     refine LV.nextM [] (by kernel_rfl) (fun z => absurd rfl z) ?_
     refine MV.force (i := 13) rfl ?_
     refine vy (V.fa h65 rfl Cnf.fo164_3) fun x85_50 h66 => ?_
     refine LV.nextM [] (by kernel_rfl) (fun z => absurd rfl z) ?_
     refine MV.force (i := 14) rfl ?_
     refine vy (V.fa h66 rfl Cnf.fo114_0) fun x86_51 h67 => ?_
     refine LV.nextM [] (by kernel_rfl) (fun z => absurd rfl z) ?_
     refine MV.force (i := 15) rfl ?_
     refine LV.st hS h67 rfl rfl rfl Cnf.siz112 rfl rfl fun T22 its h68 hS => ?_
     refine LV.nextM [] (by kernel_rfl) (fun z => absurd rfl z) ?_
     replace hS := hR.up hS
     replace hP := hP0
     refine MV.done ?_
     refine PV.blockN ?_
     refine PV.thenN ?_
     refine CV.region ?_
     refine vy (V.add h68 rfl rfl) fun x87_52 h69 => ?_
     refine mv ?_
     refine LV.done ?_
     exact pb6 hS h69 ⟨rfl, rfl, rfl, rfl, rfl, rfl, trivial⟩
    ·
     clear h47 h48
     subst e
     refine CV.exit ?_
     refine PV.thenE ?_
     refine PV.thenE ?_
     refine PV.blockE ?_
     refine PV.thenN ?_
     refine sr ?_
     refine mv ?_
     refine fa2 h49 Cnf.fo164_3 fun x90_53 h70 => ?_
     refine vy (V.ldA hS h70 rfl Cnf.agg114) fun x91_54 h71 => ?_
     refine LV.stA hS h71 rfl rfl rfl Cnf.agg114 rfl rfl rfl fun T23 its h72 hS => ?_
     refine as_ ?_
     refine dn ?_
     refine CV.ret ?_
     refine PV.ldA (x := .tmp 4) (t := 114) hS h72 rfl Cnf.agg114 fun x4_55 h73 hVx4_55 => ?_
     cases h73
     exact PV.ret (by simp) Tryz.results44 hS (RS.cell hVx4_55 (RS.tmp rfl RS.nil)) rfl
noncomputable def g112_k1 (ro : List HT) (y1 y2 y5 : AV) (T2 : HT) (n2 : Nat) : R :=
 condK 1120005 y5
 (
  faK 1120006 y1 2 fun x11_4 =>
  stK 1120007 T2 x11_4 (.lit (.int .i64 (.ofNat 0))) fun T3 =>
  ldAK 1120008 T3 ro y1 5 fun x12_5 =>
  bsK 1120009 T3 n2 1 3 1 [(0, (.lit (.int .i64 (.ofNat 0))))] fun x13_6 T4 n4 =>
  optK 1120010 (bld172 [(0, (.lit (.int .i64 (.ofNat 35)))), (4, x13_6)]) fun x14_7 =>
  bsK 1120011 T4 n4 1 3 1 [(0, (.lit (.int .i64 (.ofNat 1))))] fun x15_8 T5 n5 =>
  optK 1120012 (bld172 [(0, (.lit (.int .i64 (.ofNat 47)))), (4, x15_8)]) fun x16_9 =>
  bsK 1120013 T5 n5 3 172 5 [(0, x12_5), (1, x14_7), (2, x16_9)] fun x17_10 T6 n6 =>
  callK (g89 ro x17_10 T6 n6) fun x18_11 T7 n7 =>
  bin0 Tryz.prog .eql 36 (.tmp 18) (.const (.nilIface)) 1120015 x18_11 (.lit (.nilIface)) fun x19_12 =>
  .ok (.val x19_12) T7 n7
 )
 (
  .ok (.val (.lit (.bool false))) T2 n2
 )
noncomputable def g112 (ro : List HT) (a0 : AV) (T : HT) (nx : Nat) : R :=
 boxK 1120001 T nx a0 172 fun x1_1 T1 n1 =>
 faK 1120003 x1_1 0 fun x3_2 =>
 ldK 1120004 T1 ro x3_2 fun x4_3 =>
 eqK Tryz.prog 3 (.tmp 4) (.const (.int .i64 (.ofNat 1))) 1120018 x4_3 (.lit (.int .i64 (.ofNat 1))) fun x6_13 =>
 condK 1120020 x6_13
 (
  g112_k1 ro x1_1 (.lit (.bool false)) (.lit (.bool true)) T1 n1
 )
 (
  eqK Tryz.prog 3 (.tmp 4) (.const (.int .i64 (.ofNat 2))) 1120021 x4_3 (.lit (.int .i64 (.ofNat 2))) fun x7_14 =>
  condK 1120023 x7_14
  (
   g112_k1 ro x1_1 (.lit (.bool false)) (.lit (.bool true)) T1 n1
  )
  (
   eqK Tryz.prog 3 (.tmp 4) (.const (.int .i64 (.ofNat 3))) 1120024 x4_3 (.lit (.int .i64 (.ofNat 3))) fun x8_15 =>
   condK 1120026 x8_15
   (
    g112_k1 ro x1_1 (.lit (.bool false)) (.lit (.bool true)) T1 n1
   )
   (
    eqK Tryz.prog 3 (.tmp 4) (.const (.int .i64 (.ofNat 4))) 1120027 x4_3 (.lit (.int .i64 (.ofNat 4))) fun x9_16 =>
    condK 1120029 x9_16
    (
     g112_k1 ro x1_1 (.lit (.bool false)) (.lit (.bool true)) T1 n1
    )
    (
     eqK Tryz.prog 3 (.tmp 4) (.const (.int .i64 (.ofNat 5))) 1120030 x4_3 (.lit (.int .i64 (.ofNat 5))) fun x10_17 =>
     g112_k1 ro x1_1 (.lit (.bool false)) x10_17 T1 n1
    )
   )
  )
 )
theorem g112_ok (ro : List HT) (a0 : AV) (T : HT) (nx : Nat) : GOk Tryz.prog envE 112 [a0] ro T nx (g112 ro a0 T nx) := by
 refine GOk.of_body Tryz.func112 rfl Tryz.ntmps112 (by kernel_rfl) rfl fun r T' n' h1 w0 base ρ0 its hS hP => ?_
 have X : CtxW envE ρ0 ro r T' n' := trivial
 unfold g112 at h1
 refine sr ?_
 refine LV.box hS h1 rfl rfl rfl rfl rfl fun x1_1 T1 n1 h2 ρ its hS hdr => ?_
 refine as_ ?_
 refine dn ?_
 refine CV.seq ?_
 refine sr ?_
 refine vy (V.fa h2 rfl Cnf.fo172_0) fun x3_2 h3 => ?_
 refine vy (V.ld hS h3 rfl Cnf.one3) fun x4_3 h4 => ?_
 refine dn ?_
 refine CV.block ?_
 refine cs3 X 1 2 5 [] (g112_k1 ro) ?_ ?_
 ·
  refine sr ?_
  refine vy (V.eq h4 rfl rfl) fun x6_13 h17 => ?_
  refine as_ ?_
  refine dn ?_
  refine CV.cond h17 rfl (fun e h18 => ?_) (fun e h18 => ?_)
  ·
   clear h1 h2 h3 h4 h17
   subst e
   refine CV.skip ?_
   exact pa3 hS h18 ⟨rfl, rfl, rfl, trivial⟩
  ·
   clear h1 h2 h3 h4 h17
   subst e
   refine sr ?_
   refine vy (V.eq h18 rfl rfl) fun x7_14 h19 => ?_
   refine as_ ?_
   refine dn ?_
   refine CV.cond h19 rfl (fun e h20 => ?_) (fun e h20 => ?_)
   ·
    clear h18 h19
    subst e
    refine CV.skip ?_
    exact pa3 hS h20 ⟨rfl, rfl, rfl, trivial⟩
   ·
    clear h18 h19
    subst e
    refine sr ?_
    refine vy (V.eq h20 rfl rfl) fun x8_15 h21 => ?_
    refine as_ ?_
    refine dn ?_
    refine CV.cond h21 rfl (fun e h22 => ?_) (fun e h22 => ?_)
    ·
     clear h20 h21
     subst e
     refine CV.skip ?_
     exact pa3 hS h22 ⟨rfl, rfl, rfl, trivial⟩
    ·
     clear h20 h21
     subst e
     refine sr ?_
     refine vy (V.eq h22 rfl rfl) fun x9_16 h23 => ?_
     refine as_ ?_
     refine dn ?_
     refine CV.cond h23 rfl (fun e h24 => ?_) (fun e h24 => ?_)
     ·
      clear h22 h23
      subst e
      refine CV.skip ?_
      exact pa3 hS h24 ⟨rfl, rfl, rfl, trivial⟩
     ·
      clear h22 h23
      subst e
      refine CV.region ?_
      refine vy (V.eq h24 rfl rfl) fun x10_17 h25 => ?_
      refine as_ ?_
      refine LV.done ?_
      exact pa3 hS h25 ⟨rfl, rfl, rfl, trivial⟩
 ·
  intro y1 y2 y5 T2 n2 ρ its hS h5
  unfold g112_k1 at h5
  clear h1 h2 h3 h4
  refine CV.cond h5 rfl (fun e h6 => ?_) (fun e h6 => ?_)
  ·
   clear h5
   subst e
   refine sr ?_
   refine vy (V.fa h6 rfl Cnf.fo172_2) fun x11_4 h7 => ?_
   refine LV.st hS h7 rfl rfl rfl Cnf.siz3 rfl rfl fun T3 its h8 hS => ?_
   refine dn ?_
   refine sr ?_
   refine vy (V.ldA hS h8 rfl Cnf.agg172) fun x12_5 h9 => ?_
   refine LV.bslice hS h9 rfl rfl Cnf.el170 rfl rfl rfl rfl fun x13_6 T4 n4 h10 ρ its hS hdr => ?_
   refine vy (V.bld h10 rfl) fun x14_7 h11 => ?_
   refine LV.bslice hS h11 rfl rfl Cnf.el170 rfl rfl rfl rfl fun x15_8 T5 n5 h12 ρ its hS hdr => ?_
   refine vy (V.bld h12 rfl) fun x16_9 h13 => ?_
   refine LV.bslice hS h13 rfl rfl Cnf.el109 rfl rfl rfl rfl fun x17_10 T6 n6 h14 ρ its hS hdr => ?_
   refine LV.call hS h14 (g89_ok _ _ _ _ ) hP rfl rfl rfl rfl fun x18_11 T7 n7 h15 ρ its hS => ?_
   refine vy (V.bin0 h15 rfl rfl) fun x19_12 h16 => ?_
   refine as_ ?_
   refine dn ?_
   refine CV.ret ?_
   refine PV.blockR ?_
   refine PV.thenR ?_
   cases h16
   exact PV.ret (by simp) Tryz.results112 hS (RS.tmp rfl RS.nil) rfl
  ·
   clear h5
   subst e
   refine CV.skip ?_
   refine PV.blockN ?_
   refine PV.thenN ?_
   refine sr ?_
   refine as_ ?_
   refine dn ?_
   refine CV.ret ?_
   cases h6
   exact PV.ret (by simp) Tryz.results112 hS (RS.tmp rfl RS.nil) rfl
noncomputable def g78_k7 (ro : List HT) (lp1 : AV → AV → AV → AV → AV → HT → Nat → R) (y0 y2 y11 y12 y13 y57 : AV) (T9 : HT) (n9 : Nat) : R :=
 condK 780025 y57
 (
  .bad 780026
 )
 (
  addK Tryz.prog 3 (.tmp 13) (.const (.int .i64 (.ofNat 1))) 780027 y13 (.lit (.int .i64 (.ofNat 1))) fun x58_13 =>
  lp1 y0 y2 y11 y12 x58_13 T9 n9
 )
noncomputable def g78_k6 (ro : List HT) (lp1 : AV → AV → AV → AV → AV → HT → Nat → R) (y0 y2 y4 y11 y12 y13 y49 : AV) (T8 : HT) (n8 : Nat) : R :=
 condK 780029 y49
 (
  g78_k7 ro lp1 y0 y2 y11 y12 y13 (.lit (.bool true)) T8 n8
 )
 (
  faK 780031 y4 4 fun x51_14 =>
  ldK 780032 T8 ro x51_14 fun x52_15 =>
  lenSK 780033 x52_15 fun x53_16 =>
  faK 780034 y4 1 fun x54_17 =>
  ldK 780035 T8 ro x54_17 fun x55_18 =>
  neK Tryz.prog 3 (.tmp 53) (.tmp 55) 780036 x53_16 x55_18 fun x56_19 =>
  g78_k7 ro lp1 y0 y2 y11 y12 y13 x56_19 T8 n8
 )
noncomputable def g78_k5 (ro : List HT) (lp1 : AV → AV → AV → AV → AV → HT → Nat → R) (y0 y2 y4 y11 y12 y13 y44 : AV) (T7 : HT) (n7 : Nat) : R :=
 condK 780038 y44
 (
  g78_k6 ro lp1 y0 y2 y4 y11 y12 y13 (.lit (.bool true)) T7 n7
 )
 (
  faK 780040 y4 3 fun x46_20 =>
  ldK 780041 T7 ro x46_20 fun x47_21 =>
  gtK Tryz.prog 3 (.tmp 47) (.const (.int .i64 (.ofNat 1048576))) 780042 x47_21 (.lit (.int .i64 (.ofNat 1048576))) fun x48_22 =>
  g78_k6 ro lp1 y0 y2 y4 y11 y12 y13 x48_22 T7 n7
 )
noncomputable def g78_k4 (ro : List HT) (lp1 : AV → AV → AV → AV → AV → HT → Nat → R) (y0 y2 y4 y11 y12 y13 y37 : AV) (T6 : HT) (n6 : Nat) : R :=
 condK 780044 y37
 (
  g78_k5 ro lp1 y0 y2 y4 y11 y12 y13 (.lit (.bool true)) T6 n6
 )
 (
  faK 780046 y4 3 fun x39_23 =>
  ldK 780047 T6 ro x39_23 fun x40_24 =>
  faK 780048 y4 1 fun x41_25 =>
  ldK 780049 T6 ro x41_25 fun x42_26 =>
  ltK Tryz.prog 3 (.tmp 40) (.tmp 42) 780050 x40_24 x42_26 fun x43_27 =>
  g78_k5 ro lp1 y0 y2 y4 y11 y12 y13 x43_27 T6 n6
 )
noncomputable def g78_k3 (ro : List HT) (lp1 : AV → AV → AV → AV → AV → HT → Nat → R) (y0 y2 y4 y11 y12 y13 y30 : AV) (T5 : HT) (n5 : Nat) : R :=
 condK 780052 y30
 (
  g78_k4 ro lp1 y0 y2 y4 y11 y12 y13 (.lit (.bool true)) T5 n5
 )
 (
  faK 780054 y4 2 fun x32_28 =>
  ldK 780055 T5 ro x32_28 fun x33_29 =>
  faK 780056 y4 1 fun x34_30 =>
  ldK 780057 T5 ro x34_30 fun x35_31 =>
  gtK Tryz.prog 3 (.tmp 33) (.tmp 35) 780058 x33_29 x35_31 fun x36_32 =>
  g78_k4 ro lp1 y0 y2 y4 y11 y12 y13 x36_32 T5 n5
 )
noncomputable def g78_k2 (ro : List HT) (lp1 : AV → AV → AV → AV → AV → HT → Nat → R) (y0 y2 y4 y11 y12 y13 y25 : AV) (T4 : HT) (n4 : Nat) : R :=
 condK 780060 y25
 (
  g78_k3 ro lp1 y0 y2 y4 y11 y12 y13 (.lit (.bool true)) T4 n4
 )
 (
  faK 780062 y4 2 fun x27_33 =>
  ldK 780063 T4 ro x27_33 fun x28_34 =>
  ltK Tryz.prog 3 (.tmp 28) (.const (.int .i64 (.ofNat 0))) 780064 x28_34 (.lit (.int .i64 (.ofNat 0))) fun x29_35 =>
  g78_k3 ro lp1 y0 y2 y4 y11 y12 y13 x29_35 T4 n4
 )
noncomputable def g78_b8 (ro : List HT) (lp8 : AV → AV → AV → AV → AV → HT → Nat → R) (y0 y2 y63 y64 y65 : AV) (T10 : HT) (n10 : Nat) : R :=
 ltK Tryz.prog 3 (.tmp 65) (.tmp 64) 780079 y65 y64 fun x66_43 =>
 condK 780080 x66_43
 (
  iaK 780081 y63 y65 5 fun x67_44 =>
  ldAK 780082 T10 ro x67_44 5 fun x68_45 =>
  newK T10 n10 (.obj [.lit (.int .i64 0), .lit (.int .i64 0), .lit (.int .i64 0), .lit (.string ⟨#[]⟩), .lit (.slice none 0 0)] 172) fun x6_46 T11 n11 =>
  stAK 780084 T11 x6_46 x68_45 5 fun T12 =>
  ldAK 780085 T12 ro x6_46 5 fun x69_47 =>
  callK (g112 ro x69_47 T12 n11) fun x70_48 T13 n13 =>
  notK 780087 x70_48 fun x71_49 =>
  condK 780088 x71_49
  (
   .bad 780089
  )
  (
   addK Tryz.prog 3 (.tmp 65) (.const (.int .i64 (.ofNat 1))) 780090 y65 (.lit (.int .i64 (.ofNat 1))) fun x72_50 =>
   lp8 y0 y2 y63 y64 x72_50 T13 n13
  )
 )
 (
  faK 780093 y0 0 fun x75_51 =>
  faK 780094 x75_51 0 fun x76_52 =>
  ldK 780095 T10 ro x76_52 fun x77_53 =>
  lenSK 780096 x77_53 fun x78_54 =>
  gtK Tryz.prog 3 (.tmp 78) (.const (.int .i64 (.ofNat 0))) 780097 x78_54 (.lit (.int .i64 (.ofNat 0))) fun x79_55 =>
  .ok (.val x79_55) T10 n10
 )
noncomputable def g78_b1 (ro : List HT) (lp1 : AV → AV → AV → AV → AV → HT → Nat → R) (y0 y2 y11 y12 y13 : AV) (T1 : HT) (n1 : Nat) : R :=
 ltK Tryz.prog 3 (.tmp 13) (.tmp 12) 780009 y13 y12 fun x14_5 =>
 condK 780010 x14_5
 (
  iaK 780011 y11 y13 6 fun x15_6 =>
  ldAK 780012 T1 ro x15_6 6 fun x16_7 =>
  newK T1 n1 (.obj [.lit (.string ⟨#[]⟩), .lit (.int .i64 0), .lit (.int .i64 0), .lit (.int .i64 0), .lit (.slice none 0 0), .lit (.slice none 0 0)] 175) fun x4_8 T2 n2 =>
  stAK 780014 T2 x4_8 x16_7 6 fun T3 =>
  faK 780015 x4_8 5 fun x17_9 =>
  ldK 780016 T3 ro x17_9 fun x18_10 =>
  lenSK 780017 x18_10 fun x19_11 =>
  eqK Tryz.prog 3 (.tmp 19) (.const (.int .i64 (.ofNat 0))) 780018 x19_11 (.lit (.int .i64 (.ofNat 0))) fun x20_12 =>
  condK 780066 x20_12
  (
   g78_k2 ro lp1 y0 y2 x4_8 y11 y12 y13 (.lit (.bool true)) T3 n2
  )
  (
   faK 780068 x4_8 1 fun x22_36 =>
   ldK 780069 T3 ro x22_36 fun x23_37 =>
   ltK Tryz.prog 3 (.tmp 23) (.const (.int .i64 (.ofNat 0))) 780070 x23_37 (.lit (.int .i64 (.ofNat 0))) fun x24_38 =>
   g78_k2 ro lp1 y0 y2 x4_8 y11 y12 y13 x24_38 T3 n2
  )
 )
 (
  faK 780073 y0 0 fun x61_39 =>
  faK 780074 x61_39 1 fun x62_40 =>
  ldK 780075 T1 ro x62_40 fun x63_41 =>
  lenSK 780076 x63_41 fun x64_42 =>
  lpf5 780078 (g78_b8 ro) 100000 y0 y2 x63_41 x64_42 (.lit (.int .i64 (.ofNat 0))) T1 n1
 )
noncomputable def g78 (ro : List HT) (a0 : AV) (T : HT) (nx : Nat) : R :=
 faK 780003 a0 0 fun x9_1 =>
 faK 780004 x9_1 0 fun x10_2 =>
 ldK 780005 T ro x10_2 fun x11_3 =>
 lenSK 780006 x11_3 fun x12_4 =>
 lpf5 780008 (g78_b1 ro) 100000 a0 (.lit (.bool false)) x11_3 x12_4 (.lit (.int .i64 (.ofNat 0))) T nx
theorem g78_ok (ro : List HT) (a0 : AV) (T : HT) (nx : Nat) : GOk Tryz.prog envE 78 [a0] ro T nx (g78 ro a0 T nx) := by
 refine GOk.of_body Tryz.func78 rfl Tryz.ntmps78 (by kernel_rfl) rfl fun r T' n' h1 w0 base ρ0 its hS hP => ?_
 have X : CtxW envE ρ0 ro r T' n' := trivial
 unfold g78 at h1
 refine sr ?_
 refine as_ ?_
 refine dn ?_
 refine CV.seq ?_
 refine sr ?_
 refine mv ?_
 refine fa2 h1 Cnf.fo179_0 fun x9_1 h2 => ?_
 refine vy (V.fa h2 rfl Cnf.fo114_0) fun x10_2 h3 => ?_
 refine vy (V.ld hS h3 rfl Cnf.one112) fun x11_3 h4 => ?_
 refine vy (V.lenS h4 rfl Cnf.ls112) fun x12_4 h5 => ?_
 refine mv ?_
 refine dn ?_
 refine CV.block ?_
 refine cl5 X 0 2 11 12 13 [] hS h5 ⟨rfl, rfl, rfl, rfl, rfl, trivial⟩ ?_
 intro f1 y0 y2 y11 y12 y13 T1 n1 ρ its hS h6
 unfold g78_b1 at h6
 clear h1 h2 h3 h4 h5
 refine sr ?_
 refine vy (V.lt h6 rfl rfl) fun x14_5 h7 => ?_
 refine dn ?_
 refine CV.seq ?_
 refine CV.cond h7 rfl (fun e h8 => ?_) (fun e h8 => ?_)
 ·
  clear h6 h7
  subst e
  refine CV.skip ?_
  refine PV.thenN ?_
  refine CV.seq ?_
  refine CV.block ?_
  refine sr ?_
  refine vy (V.ia h8 rfl rfl Cnf.el112) fun x15_6 h9 => ?_
  refine vy (V.ldA hS h9 rfl Cnf.agg175) fun x16_7 h10 => ?_
  refine LV.alloc hS h10 rfl Cnf.zr175 rfl rfl rfl fun x4_8 T2 n2 h11 ρ its hS hdr => ?_
  refine LV.stA hS h11 rfl rfl rfl Cnf.agg175 rfl rfl rfl fun T3 its h12 hS => ?_
  refine dn ?_
  refine sr ?_
  refine vy (V.fa h12 rfl Cnf.fo175_5) fun x17_9 h13 => ?_
  refine vy (V.ld hS h13 rfl Cnf.one161) fun x18_10 h14 => ?_
  refine vy (V.lenS h14 rfl Cnf.ls161) fun x19_11 h15 => ?_
  refine vy (V.eq h15 rfl rfl) fun x20_12 h16 => ?_
  refine mv ?_
  refine ls7 X 0 2 4 11 12 13 25 [] (g78_k2 ro (lpf5 780008 (g78_b1 ro) f1)) 4 ?_ ?_
  ·
   rcases condK_inv h16 with ⟨e, h52⟩ | ⟨e, h52⟩
   ·
    clear h8 h9 h10 h11 h12 h13 h14 h15 h16
    subst e
    refine sk ?_
    refine sk ?_
    refine sk ?_
    refine pu ?_
    exact la7 hS h52 ⟨rfl, rfl, rfl, rfl, rfl, rfl, rfl, trivial⟩
   ·
    clear h8 h9 h10 h11 h12 h13 h14 h15 h16
    subst e
    refine vy (V.fa h52 rfl Cnf.fo175_1) fun x22_36 h53 => ?_
    refine vy (V.ld hS h53 rfl Cnf.one3) fun x23_37 h54 => ?_
    refine vy (V.lt h54 rfl rfl) fun x24_38 h55 => ?_
    refine pu ?_
    exact la7 hS h55 ⟨rfl, rfl, rfl, rfl, rfl, rfl, rfl, trivial⟩
  ·
   intro y0 y2 y4 y11 y12 y13 y25 T4 n4 ρ its hS h17
   unfold g78_k2 at h17
   clear h8 h9 h10 h11 h12 h13 h14 h15 h16
   refine mv ?_
   refine ls7 X 0 2 4 11 12 13 30 [] (g78_k3 ro (lpf5 780008 (g78_b1 ro) f1)) 4 ?_ ?_
   ·
    rcases condK_inv h17 with ⟨e, h48⟩ | ⟨e, h48⟩
    ·
     clear h17
     subst e
     refine sk ?_
     refine sk ?_
     refine sk ?_
     refine pu ?_
     exact la7 hS h48 ⟨rfl, rfl, rfl, rfl, rfl, rfl, rfl, trivial⟩
    ·
     clear h17
     subst e
     refine vy (V.fa h48 rfl Cnf.fo175_2) fun x27_33 h49 => ?_
     refine vy (V.ld hS h49 rfl Cnf.one3) fun x28_34 h50 => ?_
     refine vy (V.lt h50 rfl rfl) fun x29_35 h51 => ?_
     refine pu ?_
     exact la7 hS h51 ⟨rfl, rfl, rfl, rfl, rfl, rfl, rfl, trivial⟩
   ·
    intro y0 y2 y4 y11 y12 y13 y30 T5 n5 ρ its hS h18
    unfold g78_k3 at h18
    clear h17
    refine mv ?_
    refine ls7 X 0 2 4 11 12 13 37 [] (g78_k4 ro (lpf5 780008 (g78_b1 ro) f1)) 6 ?_ ?_
    ·
     rcases condK_inv h18 with ⟨e, h42⟩ | ⟨e, h42⟩
     ·
      clear h18
      subst e
      refine sk ?_
      refine sk ?_
      refine sk ?_
      refine sk ?_
      refine sk ?_
      refine pu ?_
      exact la7 hS h42 ⟨rfl, rfl, rfl, rfl, rfl, rfl, rfl, trivial⟩
     ·
      clear h18
      subst e
      refine vy (V.fa h42 rfl Cnf.fo175_2) fun x32_28 h43 => ?_
      refine vy (V.ld hS h43 rfl Cnf.one3) fun x33_29 h44 => ?_
      refine vy (V.fa h44 rfl Cnf.fo175_1) fun x34_30 h45 => ?_
      refine vy (V.ld hS h45 rfl Cnf.one3) fun x35_31 h46 => ?_
      refine vy (V.gt h46 rfl rfl) fun x36_32 h47 => ?_
      refine pu ?_
      exact la7 hS h47 ⟨rfl, rfl, rfl, rfl, rfl, rfl, rfl, trivial⟩
    ·
     intro y0 y2 y4 y11 y12 y13 y37 T6 n6 ρ its hS h19
     unfold g78_k4 at h19
     clear h18
     refine mv ?_
     refine ls7 X 0 2 4 11 12 13 44 [] (g78_k5 ro (lpf5 780008 (g78_b1 ro) f1)) 6 ?_ ?_
     ·
      rcases condK_inv h19 with ⟨e, h36⟩ | ⟨e, h36⟩
      ·
       clear h19
       subst e
       refine sk ?_
       refine sk ?_
       refine sk ?_
       refine sk ?_
       refine sk ?_
       refine pu ?_
       exact la7 hS h36 ⟨rfl, rfl, rfl, rfl, rfl, rfl, rfl, trivial⟩
      ·
       clear h19
       subst e
       refine vy (V.fa h36 rfl Cnf.fo175_3) fun x39_23 h37 => ?_
       refine vy (V.ld hS h37 rfl Cnf.one3) fun x40_24 h38 => ?_
       refine vy (V.fa h38 rfl Cnf.fo175_1) fun x41_25 h39 => ?_
       refine vy (V.ld hS h39 rfl Cnf.one3) fun x42_26 h40 => ?_
       refine vy (V.lt h40 rfl rfl) fun x43_27 h41 => ?_
       refine pu ?_
       exact la7 hS h41 ⟨rfl, rfl, rfl, rfl, rfl, rfl, rfl, trivial⟩
     ·
      intro y0 y2 y4 y11 y12 y13 y44 T7 n7 ρ its hS h20
      unfold g78_k5 at h20
      clear h19
      refine mv ?_
      refine ls7 X 0 2 4 11 12 13 49 [] (g78_k6 ro (lpf5 780008 (g78_b1 ro) f1)) 4 ?_ ?_
      ·
       rcases condK_inv h20 with ⟨e, h32⟩ | ⟨e, h32⟩
       ·
        clear h20
        subst e
        refine sk ?_
        refine sk ?_
        refine sk ?_
        refine pu ?_
        exact la7 hS h32 ⟨rfl, rfl, rfl, rfl, rfl, rfl, rfl, trivial⟩
       ·
        clear h20
        subst e
        refine vy (V.fa h32 rfl Cnf.fo175_3) fun x46_20 h33 => ?_
        refine vy (V.ld hS h33 rfl Cnf.one3) fun x47_21 h34 => ?_
        refine vy (V.gt h34 rfl rfl) fun x48_22 h35 => ?_
        refine pu ?_
        exact la7 hS h35 ⟨rfl, rfl, rfl, rfl, rfl, rfl, rfl, trivial⟩
      ·
       intro y0 y2 y4 y11 y12 y13 y49 T8 n8 ρ its hS h21
       unfold g78_k6 at h21
       clear h20
       refine mv ?_
       refine ls6 X 0 2 11 12 13 57 [] (g78_k7 ro (lpf5 780008 (g78_b1 ro) f1)) 7 ?_ ?_
       ·
        rcases condK_inv h21 with ⟨e, h25⟩ | ⟨e, h25⟩
        ·
         clear h21
         subst e
         refine sk ?_
         refine sk ?_
         refine sk ?_
         refine sk ?_
         refine sk ?_
         refine sk ?_
         refine pu ?_
         exact la6 hS h25 ⟨rfl, rfl, rfl, rfl, rfl, rfl, trivial⟩
        ·
         clear h21
         subst e
         refine vy (V.fa h25 rfl Cnf.fo175_4) fun x51_14 h26 => ?_
         refine vy (V.ld hS h26 rfl Cnf.one54) fun x52_15 h27 => ?_
         refine vy (V.lenS h27 rfl Cnf.ls54) fun x53_16 h28 => ?_
         refine vy (V.fa h28 rfl Cnf.fo175_1) fun x54_17 h29 => ?_
         refine vy (V.ld hS h29 rfl Cnf.one3) fun x55_18 h30 => ?_
         refine vy (V.ne h30 rfl rfl) fun x56_19 h31 => ?_
         refine pu ?_
         exact la6 hS h31 ⟨rfl, rfl, rfl, rfl, rfl, rfl, trivial⟩
       ·
        intro y0 y2 y11 y12 y13 y57 T9 n9 ρ its hS h22
        unfold g78_k7 at h22
        clear h21
        refine dn ?_
        refine CV.cond h22 rfl (fun e h23 => ?_) (fun e h23 => ?_)
        ·
         clear h22
         subst e
         cases h23
        ·
         clear h22
         subst e
         refine CV.skip ?_
         refine PV.blockN ?_
         refine PV.thenN ?_
         refine CV.region ?_
         refine vy (V.add h23 rfl rfl) fun x58_13 h24 => ?_
         refine mv ?_
         refine LV.done ?_
         exact pb5 hS h24 ⟨rfl, rfl, rfl, rfl, rfl, trivial⟩
 ·
  clear h6 h7
  subst e
  refine CV.exit ?_
  refine PV.thenE ?_
  refine PV.thenE ?_
  refine PV.blockE ?_
  refine PV.thenN ?_
  refine CV.seq ?_
  refine sr ?_
  refine mv ?_
  refine fa2 h8 Cnf.fo179_0 fun x61_39 h56 => ?_
  refine vy (V.fa h56 rfl Cnf.fo114_1) fun x62_40 h57 => ?_
  refine vy (V.ld hS h57 rfl Cnf.one109) fun x63_41 h58 => ?_
  refine vy (V.lenS h58 rfl Cnf.ls109) fun x64_42 h59 => ?_
  refine mv ?_
  refine dn ?_
  refine CV.block ?_
  refine cl5 X 0 2 63 64 65 [] hS h59 ⟨rfl, rfl, rfl, rfl, rfl, trivial⟩ ?_
  intro f8 y0 y2 y63 y64 y65 T10 n10 ρ its hS h60
  unfold g78_b8 at h60
  clear h8 h56 h57 h58 h59
  refine sr ?_
  refine vy (V.lt h60 rfl rfl) fun x66_43 h61 => ?_
  refine dn ?_
  refine CV.seq ?_
  refine CV.cond h61 rfl (fun e h62 => ?_) (fun e h62 => ?_)
  ·
   clear h60 h61
   subst e
   refine CV.skip ?_
   refine PV.thenN ?_
   refine CV.seq ?_
   refine CV.block ?_
   refine sr ?_
   refine vy (V.ia h62 rfl rfl Cnf.el109) fun x67_44 h63 => ?_
   refine vy (V.ldA hS h63 rfl Cnf.agg172) fun x68_45 h64 => ?_
   refine LV.alloc hS h64 rfl Cnf.zr172 rfl rfl rfl fun x6_46 T11 n11 h65 ρ its hS hdr => ?_
   refine LV.stA hS h65 rfl rfl rfl Cnf.agg172 rfl rfl rfl fun T12 its h66 hS => ?_
   refine dn ?_
   refine sr ?_
   refine vy (V.ldA hS h66 rfl Cnf.agg172) fun x69_47 h67 => ?_
   refine LV.call hS h67 (g112_ok _ _ _ _ ) hP rfl rfl rfl rfl fun x70_48 T13 n13 h68 ρ its hS => ?_
   refine vy (V.not h68 rfl) fun x71_49 h69 => ?_
   refine dn ?_
   refine CV.cond h69 rfl (fun e h70 => ?_) (fun e h70 => ?_)
   ·
    clear h62 h63 h64 h65 h66 h67 h68 h69
    subst e
    cases h70
   ·
    clear h62 h63 h64 h65 h66 h67 h68 h69
    subst e
    refine CV.skip ?_
    refine PV.blockN ?_
    refine PV.thenN ?_
    refine CV.region ?_
    refine vy (V.add h70 rfl rfl) fun x72_50 h71 => ?_
    refine mv ?_
    refine LV.done ?_
    exact pb5 hS h71 ⟨rfl, rfl, rfl, rfl, rfl, trivial⟩
  ·
   clear h60 h61
   subst e
   refine CV.exit ?_
   refine PV.thenE ?_
   refine PV.thenE ?_
   refine PV.blockE ?_
   refine PV.thenN ?_
   refine sr ?_
   refine mv ?_
   refine fa2 h62 Cnf.fo179_0 fun x75_51 h72 => ?_
   refine vy (V.fa h72 rfl Cnf.fo114_0) fun x76_52 h73 => ?_
   refine vy (V.ld hS h73 rfl Cnf.one112) fun x77_53 h74 => ?_
   refine vy (V.lenS h74 rfl Cnf.ls112) fun x78_54 h75 => ?_
   refine vy (V.gt h75 rfl rfl) fun x79_55 h76 => ?_
   refine as_ ?_
   refine dn ?_
   refine CV.ret ?_
   cases h76
   exact PV.ret (by simp) Tryz.results78 hS (RS.tmp rfl RS.nil) rfl
noncomputable def g80_b1 (ro : List HT) (lp1 : AV → AV → AV → AV → AV → HT → Nat → R) (y0 y1 y4 y7 y8 : AV) (T1 : HT) (n1 : Nat) : R :=
 ltK Tryz.prog 3 (.tmp 8) (.tmp 7) 800006 y8 y7 fun x9_2 =>
 condK 800007 x9_2
 (
  iaK 800013 y0 y8 4 fun x14_3 =>
  ldAK 800014 T1 ro x14_3 4 fun x15_4 =>
  dynK 800015 y1 fun f p q => callK (scc3 4000 f ro (p ++ ([x15_4] ++ q)) T1 n1) fun x16_5 T2 n2 =>
  condK 800016 x16_5
  (
   .ok (.val y8) T2 n2
  )
  (
   addK Tryz.prog 3 (.tmp 8) (.const (.int .i64 (.ofNat 1))) 800019 y8 (.lit (.int .i64 (.ofNat 1))) fun x18_6 =>
   lp1 y0 y1 y4 y7 x18_6 T2 n2
  )
 )
 (
  .ok (.val (.lit (.int .i64 (.negSucc 0)))) T1 n1
 )
noncomputable def g80 (ro : List HT) (a0 a1 : AV) (T : HT) (nx : Nat) : R :=
 lenSK 800003 a0 fun x7_1 =>
 lpf5 800005 (g80_b1 ro) 100000 a0 a1 (.lit (.int .i64 (.ofNat 0))) x7_1 (.lit (.int .i64 (.ofNat 0))) T nx
theorem g80_ok (ro : List HT) (a0 a1 : AV) (T : HT) (nx : Nat) : GOk Tryz.prog envE 80 [a0, a1] ro T nx (g80 ro a0 a1 T nx) := by
 refine GOk.of_body Tryz.func80 rfl Tryz.ntmps80 (by kernel_rfl) rfl fun r T' n' h1 w0 base ρ0 its hS hP => ?_
 have X : CtxW envE ρ0 ro r T' n' := trivial
 unfold g80 at h1
 refine sr ?_
 refine as_ ?_
 refine dn ?_
 refine CV.seq ?_
 refine sr ?_
 refine mv ?_
 refine vy (V.lenS h1 rfl Cnf.ls161) fun x7_1 h2 => ?_
 refine mv ?_
 refine dn ?_
 refine CV.block ?_
 refine cl5 X 0 1 4 7 8 [] hS h2 ⟨rfl, rfl, rfl, rfl, rfl, trivial⟩ ?_
 intro f1 y0 y1 y4 y7 y8 T1 n1 ρ its hS h3
 unfold g80_b1 at h3
 clear h1 h2
 refine sr ?_
 refine vy (V.lt h3 rfl rfl) fun x9_2 h4 => ?_
 refine dn ?_
 refine CV.seq ?_
 refine CV.cond h4 rfl (fun e h5 => ?_) (fun e h5 => ?_)
 ·
  clear h3 h4
  subst e
  refine CV.skip ?_
  refine PV.thenN ?_
  refine CV.seq ?_
  refine CV.block ?_
  refine sr ?_
  refine mv ?_
  refine as_ ?_
  refine dn ?_
  refine sr ?_
  refine mv ?_
  refine mv ?_
  refine mv ?_
  refine vy (V.ia h5 rfl rfl Cnf.el161) fun x14_3 h6 => ?_
  refine vy (V.ldA hS h6 rfl Cnf.agg60) fun x15_4 h7 => ?_
  refine LV.callD (G := fun f gs => scc3 4000 f ro gs T1 n1) (qs := [x15_4]) hS h7 (fun f gs => scc3_ok _ _ _ _ _ _) hP rfl rfl rfl rfl rfl rfl rfl fun x16_5 T2 n2 h8 ρ its hS => ?_
  refine dn ?_
  refine CV.cond h8 rfl (fun e h9 => ?_) (fun e h9 => ?_)
  ·
   clear h5 h6 h7 h8
   subst e
   refine sr ?_
   refine mv ?_
   refine as_ ?_
   refine dn ?_
   refine CV.ret ?_
   refine PV.blockR ?_
   refine PV.thenR ?_
   refine PV.thenR ?_
   refine PV.blockR ?_
   refine PV.thenR ?_
   cases h9
   exact PV.ret (by simp) Tryz.results80 hS (RS.tmp rfl RS.nil) rfl
  ·
   clear h5 h6 h7 h8
   subst e
   refine CV.skip ?_
   refine PV.blockN ?_
   refine PV.thenN ?_
   refine CV.region ?_
   refine vy (V.add h9 rfl rfl) fun x18_6 h10 => ?_
   refine mv ?_
   refine LV.done ?_
   exact pb5 hS h10 ⟨rfl, rfl, rfl, rfl, rfl, trivial⟩
 ·
  clear h3 h4
  subst e
  refine CV.exit ?_
  refine PV.thenE ?_
  refine PV.thenE ?_
  refine PV.blockE ?_
  refine PV.thenN ?_
  refine sr ?_
  refine as_ ?_
  refine dn ?_
  refine CV.ret ?_
  cases h5
  exact PV.ret (by simp) Tryz.results80 hS (RS.tmp rfl RS.nil) rfl
noncomputable def g48_k1 (ro : List HT) (y1 y2 y3 y13 y14 : AV) (T4 : HT) (n4 : Nat) : R :=
 condK 480016 y14
 (
  faK 480017 y1 1 fun x17_12 =>
  ldK 480018 T4 ro x17_12 fun x18_13 =>
  .ok (.val (.tup [x18_13, (.lit (.int .i64 (.ofNat 1)))])) T4 n4
 )
 (
  eqK Tryz.prog 3 (.tmp 13) (.const (.int .i64 (.ofNat 9))) 480021 y13 (.lit (.int .i64 (.ofNat 9))) fun x20_14 =>
  condK 480023 x20_14
  (
   faK 480024 y1 1 fun x21_15 =>
   ldK 480025 T4 ro x21_15 fun x22_16 =>
   lzK 480026 (fun m n => IntKind.i64.wrap (m * n)) (.lit (.int .i64 (.ofNat 2))) x22_16 fun x23_17 =>
   .ok (.val (.tup [x23_17, (.lit (.int .i64 (.ofNat 1)))])) T4 n4
  )
  (
   eqK Tryz.prog 3 (.tmp 13) (.const (.int .i64 (.ofNat 16))) 480029 y13 (.lit (.int .i64 (.ofNat 16))) fun x25_18 =>
   condK 480031 x25_18
   (
    faK 480032 y1 1 fun x26_19 =>
    ldK 480033 T4 ro x26_19 fun x27_20 =>
    lzK 480034 (fun m n => IntKind.i64.wrap (m + n)) (.lit (.int .i64 (.ofNat 1))) x27_20 fun x28_21 =>
    faK 480035 y1 2 fun x29_22 =>
    ldK 480036 T4 ro x29_22 fun x30_23 =>
    lzK 480037 (fun m n => IntKind.i64.wrap (m * n)) (.lit (.int .i64 (.ofNat 2))) x30_23 fun x31_24 =>
    lzK 480038 (fun m n => IntKind.i64.wrap (m + n)) x28_21 x31_24 fun x32_25 =>
    .ok (.val (.tup [x32_25, (.lit (.int .i64 (.ofNat 1)))])) T4 n4
   )
   (
    eqK Tryz.prog 3 (.tmp 13) (.const (.int .i64 (.ofNat 19))) 480041 y13 (.lit (.int .i64 (.ofNat 19))) fun x34_26 =>
    condK 480043 x34_26
    (
     faK 480044 y1 1 fun x35_27 =>
     ldK 480045 T4 ro x35_27 fun x36_28 =>
     lzK 480046 andI x36_28 (.lit (.int .i64 (.ofNat 1))) fun x37_29 =>
     lzK 480047 (fun m n => IntKind.i64.wrap (m + n)) (.lit (.int .i64 (.ofNat 1))) x37_29 fun x38_30 =>
     faK 480048 y1 1 fun x39_31 =>
     ldK 480049 T4 ro x39_31 fun x40_32 =>
     shr1K 480050 x40_32 (.lit (.int .u64 (.ofNat 1))) fun x41_33 =>
     lzK 480051 andI x41_33 (.lit (.int .i64 (.ofNat 1))) fun x42_34 =>
     lzK 480052 (fun m n => IntKind.i64.wrap (m + n)) x38_30 x42_34 fun x43_35 =>
     .ok (.val (.tup [x43_35, (.lit (.int .i64 (.ofNat 1)))])) T4 n4
    )
    (
     eqK Tryz.prog 3 (.tmp 13) (.const (.int .i64 (.ofNat 20))) 480055 y13 (.lit (.int .i64 (.ofNat 20))) fun x45_36 =>
     condK 480057 x45_36
     (
      .ok (.val (.tup [(.lit (.int .i64 (.ofNat 3))), (.lit (.int .i64 (.ofNat 0)))])) T4 n4
     )
     (
      eqK Tryz.prog 3 (.tmp 13) (.const (.int .i64 (.ofNat 21))) 480060 y13 (.lit (.int .i64 (.ofNat 21))) fun x47_37 =>
      condK 480062 x47_37
      (
       faK 480063 y1 1 fun x48_38 =>
       ldK 480064 T4 ro x48_38 fun x49_39 =>
       .ok (.val (.tup [(.lit (.int .i64 (.ofNat 1))), x49_39])) T4 n4
      )
      (
       eqK Tryz.prog 3 (.tmp 13) (.const (.int .i64 (.ofNat 31))) 480067 y13 (.lit (.int .i64 (.ofNat 31))) fun x51_40 =>
       condK 480069 x51_40
       (
        .ok (.val (.tup [(.lit (.int .i64 (.ofNat 2))), (.lit (.int .i64 (.ofNat 4)))])) T4 n4
       )
       (
        .ok (.val (.tup [(.lit (.int .i64 (.ofNat 0))), (.lit (.int .i64 (.ofNat 0)))])) T4 n4
       )
      )
     )
    )
   )
  )
 )
noncomputable def g48 (ro : List HT) (a0 : AV) (T : HT) (nx : Nat) : R :=
 boxK 480001 T nx a0 60 fun x1_1 T1 n1 =>
 faK 480004 x1_1 1 fun x4_2 =>
 ldK 480005 T1 ro x4_2 fun x5_3 =>
 optK 480006 (mmV x5_3 (.lit (.int .i64 (.ofNat 0))) true) fun x6_4 =>
 faK 480007 x1_1 2 fun x7_5 =>
 ldK 480008 T1 ro x7_5 fun x8_6 =>
 optK 480009 (mmV x8_6 (.lit (.int .i64 (.ofNat 0))) true) fun x9_7 =>
 faK 480010 x1_1 1 fun x10_8 =>
 stK 480011 T1 x10_8 x6_4 fun T2 =>
 faK 480012 x1_1 2 fun x11_9 =>
 stK 480013 T2 x11_9 x9_7 fun T3 =>
 faK 480014 x1_1 0 fun x12_10 =>
 ldK 480015 T3 ro x12_10 fun x13_11 =>
 eqK Tryz.prog 3 (.tmp 13) (.const (.int .i64 (.ofNat 7))) 480074 x13_11 (.lit (.int .i64 (.ofNat 7))) fun x15_41 =>
 condK 480076 x15_41
 (
  g48_k1 ro x1_1 (.lit (.int .i64 (.ofNat 0))) (.lit (.int .i64 (.ofNat 0))) x13_11 (.lit (.bool true)) T3 n1
 )
 (
  eqK Tryz.prog 3 (.tmp 13) (.const (.int .i64 (.ofNat 8))) 480077 x13_11 (.lit (.int .i64 (.ofNat 8))) fun x16_42 =>
  g48_k1 ro x1_1 (.lit (.int .i64 (.ofNat 0))) (.lit (.int .i64 (.ofNat 0))) x13_11 x16_42 T3 n1
 )
theorem g48_ok (ro : List HT) (a0 : AV) (T : HT) (nx : Nat) : GOk Tryz.prog envE 48 [a0] ro T nx (g48 ro a0 T nx) := by
 refine GOk.of_body Tryz.func48 rfl Tryz.ntmps48 (by kernel_rfl) rfl fun r T' n' h1 w0 base ρ0 its hS hP => ?_
 have X : CtxW envE ρ0 ro r T' n' := trivial
 unfold g48 at h1
 refine sr ?_
 refine LV.box hS h1 rfl rfl rfl rfl rfl fun x1_1 T1 n1 h2 ρ its hS hdr => ?_
 refine as_ ?_
 refine as_ ?_
 refine dn ?_
 refine sr ?_
 refine vy (V.fa h2 rfl Cnf.fo60_1) fun x4_2 h3 => ?_
 refine vy (V.ld hS h3 rfl Cnf.one3) fun x5_3 h4 => ?_
 refine vy (V.max h4 rfl rfl) fun x6_4 h5 => ?_
 refine vy (V.fa h5 rfl Cnf.fo60_2) fun x7_5 h6 => ?_
 refine vy (V.ld hS h6 rfl Cnf.one3) fun x8_6 h7 => ?_
 refine vy (V.max h7 rfl rfl) fun x9_7 h8 => ?_
 refine vy (V.fa h8 rfl Cnf.fo60_1) fun x10_8 h9 => ?_
 refine LV.st hS h9 rfl rfl rfl Cnf.siz3 rfl rfl fun T2 its h10 hS => ?_
 refine vy (V.fa h10 rfl Cnf.fo60_2) fun x11_9 h11 => ?_
 refine LV.st hS h11 rfl rfl rfl Cnf.siz3 rfl rfl fun T3 its h12 hS => ?_
 refine dn ?_
 refine CV.seq ?_
 refine sr ?_
 refine vy (V.fa h12 rfl Cnf.fo60_0) fun x12_10 h13 => ?_
 refine vy (V.ld hS h13 rfl Cnf.one3) fun x13_11 h14 => ?_
 refine dn ?_
 refine CV.block ?_
 refine cs5 X 1 2 3 13 14 [] (g48_k1 ro) ?_ ?_
 ·
  refine sr ?_
  refine vy (V.eq h14 rfl rfl) fun x15_41 h52 => ?_
  refine as_ ?_
  refine dn ?_
  refine CV.cond h52 rfl (fun e h53 => ?_) (fun e h53 => ?_)
  ·
   clear h1 h2 h3 h4 h5 h6 h7 h8 h9 h10 h11 h12 h13 h14 h52
   subst e
   refine CV.skip ?_
   exact pa5 hS h53 ⟨rfl, rfl, rfl, rfl, rfl, trivial⟩
  ·
   clear h1 h2 h3 h4 h5 h6 h7 h8 h9 h10 h11 h12 h13 h14 h52
   subst e
   refine CV.region ?_
   refine vy (V.eq h53 rfl rfl) fun x16_42 h54 => ?_
   refine as_ ?_
   refine LV.done ?_
   exact pa5 hS h54 ⟨rfl, rfl, rfl, rfl, rfl, trivial⟩
 ·
  intro y1 y2 y3 y13 y14 T4 n4 ρ its hS h15
  unfold g48_k1 at h15
  clear h1 h2 h3 h4 h5 h6 h7 h8 h9 h10 h11 h12 h13 h14
  refine CV.cond h15 rfl (fun e h16 => ?_) (fun e h16 => ?_)
  ·
   clear h15
   subst e
   refine sr ?_
   refine vy (V.fa h16 rfl Cnf.fo60_1) fun x17_12 h17 => ?_
   refine vy (V.ld hS h17 rfl Cnf.one3) fun x18_13 h18 => ?_
   refine as_ ?_
   refine as_ ?_
   refine dn ?_
   refine CV.ret ?_
   refine PV.blockR ?_
   refine PV.thenR ?_
   cases h18
   exact PV.ret (by simp) Tryz.results48 hS (RS.tmp rfl (RS.tmp rfl RS.nil)) rfl
  ·
   clear h15
   subst e
   refine sr ?_
   refine vy (V.eq h16 rfl rfl) fun x20_14 h19 => ?_
   refine as_ ?_
   refine dn ?_
   refine CV.cond h19 rfl (fun e h20 => ?_) (fun e h20 => ?_)
   ·
    clear h16 h19
    subst e
    refine sr ?_
    refine vy (V.fa h20 rfl Cnf.fo60_1) fun x21_15 h21 => ?_
    refine vy (V.ld hS h21 rfl Cnf.one3) fun x22_16 h22 => ?_
    refine vy (V.lzMul h22 rfl rfl) fun x23_17 h23 => ?_
    refine as_ ?_
    refine as_ ?_
    refine dn ?_
    refine CV.ret ?_
    refine PV.blockR ?_
    refine PV.thenR ?_
    cases h23
    exact PV.ret (by simp) Tryz.results48 hS (RS.tmp rfl (RS.tmp rfl RS.nil)) rfl
   ·
    clear h16 h19
    subst e
    refine sr ?_
    refine vy (V.eq h20 rfl rfl) fun x25_18 h24 => ?_
    refine as_ ?_
    refine dn ?_
    refine CV.cond h24 rfl (fun e h25 => ?_) (fun e h25 => ?_)
    ·
     clear h20 h24
     subst e
     refine sr ?_
     refine vy (V.fa h25 rfl Cnf.fo60_1) fun x26_19 h26 => ?_
     refine vy (V.ld hS h26 rfl Cnf.one3) fun x27_20 h27 => ?_
     refine vy (V.lzAdd h27 rfl rfl) fun x28_21 h28 => ?_
     refine vy (V.fa h28 rfl Cnf.fo60_2) fun x29_22 h29 => ?_
     refine vy (V.ld hS h29 rfl Cnf.one3) fun x30_23 h30 => ?_
     refine vy (V.lzMul h30 rfl rfl) fun x31_24 h31 => ?_
     refine vy (V.lzAdd h31 rfl rfl) fun x32_25 h32 => ?_
     refine as_ ?_
     refine as_ ?_
     refine dn ?_
     refine CV.ret ?_
     refine PV.blockR ?_
     refine PV.thenR ?_
     cases h32
     exact PV.ret (by simp) Tryz.results48 hS (RS.tmp rfl (RS.tmp rfl RS.nil)) rfl
    ·
     clear h20 h24
     subst e
     refine sr ?_
     refine vy (V.eq h25 rfl rfl) fun x34_26 h33 => ?_
     refine as_ ?_
     refine dn ?_
     refine CV.cond h33 rfl (fun e h34 => ?_) (fun e h34 => ?_)
     ·
      clear h25 h33
      subst e
      refine sr ?_
      refine vy (V.fa h34 rfl Cnf.fo60_1) fun x35_27 h35 => ?_
      refine vy (V.ld hS h35 rfl Cnf.one3) fun x36_28 h36 => ?_
      refine vy (V.lzAnd h36 rfl rfl) fun x37_29 h37 => ?_
      refine vy (V.lzAdd h37 rfl rfl) fun x38_30 h38 => ?_
      refine vy (V.fa h38 rfl Cnf.fo60_1) fun x39_31 h39 => ?_
      refine vy (V.ld hS h39 rfl Cnf.one3) fun x40_32 h40 => ?_
      refine vy (V.shr1 h40 rfl rfl) fun x41_33 h41 => ?_
      refine vy (V.lzAnd h41 rfl rfl) fun x42_34 h42 => ?_
      refine vy (V.lzAdd h42 rfl rfl) fun x43_35 h43 => ?_
      refine as_ ?_
      refine as_ ?_
      refine dn ?_
      refine CV.ret ?_
      refine PV.blockR ?_
      refine PV.thenR ?_
      cases h43
      exact PV.ret (by simp) Tryz.results48 hS (RS.tmp rfl (RS.tmp rfl RS.nil)) rfl
     ·
      clear h25 h33
      subst e
      refine sr ?_
      refine vy (V.eq h34 rfl rfl) fun x45_36 h44 => ?_
      refine as_ ?_
      refine dn ?_
      refine CV.cond h44 rfl (fun e h45 => ?_) (fun e h45 => ?_)
      ·
       clear h34 h44
       subst e
       refine sr ?_
       refine as_ ?_
       refine as_ ?_
       refine dn ?_
       refine CV.ret ?_
       refine PV.blockR ?_
       refine PV.thenR ?_
       cases h45
       exact PV.ret (by simp) Tryz.results48 hS (RS.tmp rfl (RS.tmp rfl RS.nil)) rfl
      ·
       clear h34 h44
       subst e
       refine sr ?_
       refine vy (V.eq h45 rfl rfl) fun x47_37 h46 => ?_
       refine as_ ?_
       refine dn ?_
       refine CV.cond h46 rfl (fun e h47 => ?_) (fun e h47 => ?_)
       ·
        clear h45 h46
        subst e
        refine CV.seq ?_
        refine CV.regionM [(0, .anywhere), (1, .held), (2, .anywhere), (3, .held)] rfl (fun c a a' w hd hq => PanicOk.root (P := Tryz.prog) (fn := Tryz.f48) (w0 := w0) (base := base) (E := envE) (ro := ro) (r := r) (T' := T') (n' := n') (ρ0 := ρ0) c a a' w hd hq) (by kernel_rfl) ?_
        refine MV.lift0 (i := 0) rfl (V.fa h47 rfl Cnf.fo60_1) rfl rfl rfl fun x48_38 h48 => ?_
        refine MV.lift1 (i := 1) rfl (fun _ z => z) (V.ld hS h48 rfl Cnf.one3) rfl rfl rfl [] (by kernel_rfl) fun x49_39 h49 => ?_
        refine MV.step0 (i := 2) rfl (VAL.assign rfl) rfl rfl rfl ?_
        refine MV.step1 (i := 3) rfl (fun _ z => z) (VAL.assign rfl) rfl rfl rfl [] (by kernel_rfl) ?_
        refine mdn ?_
        refine CV.ret ?_
        refine PV.blockR ?_
        refine PV.thenR ?_
        cases h49
        exact PV.ret (by simp) Tryz.results48 hS (RS.tmp rfl (RS.tmp rfl RS.nil)) rfl
       ·
        clear h45 h46
        subst e
        refine sr ?_
        refine vy (V.eq h47 rfl rfl) fun x51_40 h50 => ?_
        refine as_ ?_
        refine dn ?_
        refine CV.cond h50 rfl (fun e h51 => ?_) (fun e h51 => ?_)
        ·
         clear h47 h50
         subst e
         refine sr ?_
         refine as_ ?_
         refine as_ ?_
         refine dn ?_
         refine CV.ret ?_
         refine PV.blockR ?_
         refine PV.thenR ?_
         cases h51
         exact PV.ret (by simp) Tryz.results48 hS (RS.tmp rfl (RS.tmp rfl RS.nil)) rfl
        ·
         clear h47 h50
         subst e
         refine CV.skip ?_
         refine PV.blockN ?_
         refine PV.thenN ?_
         refine sr ?_
         refine as_ ?_
         refine as_ ?_
         refine dn ?_
         refine CV.ret ?_
         cases h51
         exact PV.ret (by simp) Tryz.results48 hS (RS.tmp rfl (RS.tmp rfl RS.nil)) rfl
noncomputable def g28_k5 (ro : List HT) (y1 y2 y3 y31 : AV) (T6 : HT) (n6 : Nat) : R :=
 condK 280018 y31
 (
  .ok (.val (.tup [(.lit (.int .i64 (.ofNat 1))), (.lit (.int .i64 (.ofNat 2)))])) T6 n6
 )
 (
  ldAK 280021 T6 ro y1 4 fun x34_4 =>
  callK (g48 ro x34_4 T6 n6) fun x35_5 T7 n7 =>
  exK 280023 x35_5 0 fun x36_6 =>
  exK 280024 x35_5 1 fun x37_7 =>
  .ok (.val (.tup [x36_6, x37_7])) T7 n7
 )
noncomputable def g28_k4 (ro : List HT) (y1 y2 y3 y5 y27 : AV) (T5 : HT) (n5 : Nat) : R :=
 condK 280015 y27
 (
  .ok (.val (.tup [(.lit (.int .i64 (.ofNat 2))), (.lit (.int .i64 (.ofNat 1)))])) T5 n5
 )
 (
  eqK Tryz.prog 3 (.tmp 5) (.const (.int .i64 (.ofNat 23))) 280027 y5 (.lit (.int .i64 (.ofNat 23))) fun x32_8 =>
  condK 280029 x32_8
  (
   g28_k5 ro y1 y2 y3 (.lit (.bool true)) T5 n5
  )
  (
   eqK Tryz.prog 3 (.tmp 5) (.const (.int .i64 (.ofNat 32))) 280030 y5 (.lit (.int .i64 (.ofNat 32))) fun x33_9 =>
   g28_k5 ro y1 y2 y3 x33_9 T5 n5
  )
 )
noncomputable def g28_k3 (ro : List HT) (y1 y2 y3 y5 y23 : AV) (T4 : HT) (n4 : Nat) : R :=
 condK 280012 y23
 (
  .ok (.val (.tup [(.lit (.int .i64 (.ofNat 1))), (.lit (.int .i64 (.ofNat 1)))])) T4 n4
 )
 (
  eqK Tryz.prog 3 (.tmp 5) (.const (.int .i64 (.ofNat 11))) 280032 y5 (.lit (.int .i64 (.ofNat 11))) fun x28_10 =>
  condK 280034 x28_10
  (
   g28_k4 ro y1 y2 y3 y5 (.lit (.bool true)) T4 n4
  )
  (
   eqK Tryz.prog 3 (.tmp 5) (.const (.int .i64 (.ofNat 18))) 280035 y5 (.lit (.int .i64 (.ofNat 18))) fun x29_11 =>
   condK 280037 x29_11
   (
    g28_k4 ro y1 y2 y3 y5 (.lit (.bool true)) T4 n4
   )
   (
    eqK Tryz.prog 3 (.tmp 5) (.const (.int .i64 (.ofNat 25))) 280038 y5 (.lit (.int .i64 (.ofNat 25))) fun x30_12 =>
    g28_k4 ro y1 y2 y3 y5 x30_12 T4 n4
   )
  )
 )
noncomputable def g28_k2 (ro : List HT) (y1 y2 y3 y5 y13 : AV) (T3 : HT) (n3 : Nat) : R :=
 condK 280009 y13
 (
  .ok (.val (.tup [(.lit (.int .i64 (.ofNat 1))), (.lit (.int .i64 (.ofNat 0)))])) T3 n3
 )
 (
  eqK Tryz.prog 3 (.tmp 5) (.const (.int .i64 (.ofNat 10))) 280040 y5 (.lit (.int .i64 (.ofNat 10))) fun x24_13 =>
  condK 280042 x24_13
  (
   g28_k3 ro y1 y2 y3 y5 (.lit (.bool true)) T3 n3
  )
  (
   eqK Tryz.prog 3 (.tmp 5) (.const (.int .i64 (.ofNat 17))) 280043 y5 (.lit (.int .i64 (.ofNat 17))) fun x25_14 =>
   condK 280045 x25_14
   (
    g28_k3 ro y1 y2 y3 y5 (.lit (.bool true)) T3 n3
   )
   (
    eqK Tryz.prog 3 (.tmp 5) (.const (.int .i64 (.ofNat 22))) 280046 y5 (.lit (.int .i64 (.ofNat 22))) fun x26_15 =>
    g28_k3 ro y1 y2 y3 y5 x26_15 T3 n3
   )
  )
 )
noncomputable def g28_k1 (ro : List HT) (y1 y2 y3 y5 y6 : AV) (T2 : HT) (n2 : Nat) : R :=
 condK 280006 y6
 (
  .ok (.val (.tup [(.lit (.int .i64 (.ofNat 0))), (.lit (.int .i64 (.ofNat 1)))])) T2 n2
 )
 (
  eqK Tryz.prog 3 (.tmp 5) (.const (.int .i64 (.ofNat 3))) 280048 y5 (.lit (.int .i64 (.ofNat 3))) fun x14_16 =>
  condK 280050 x14_16
  (
   g28_k2 ro y1 y2 y3 y5 (.lit (.bool true)) T2 n2
  )
  (
   eqK Tryz.prog 3 (.tmp 5) (.const (.int .i64 (.ofNat 5))) 280051 y5 (.lit (.int .i64 (.ofNat 5))) fun x15_17 =>
   condK 280053 x15_17
   (
    g28_k2 ro y1 y2 y3 y5 (.lit (.bool true)) T2 n2
   )
   (
    eqK Tryz.prog 3 (.tmp 5) (.const (.int .i64 (.ofNat 13))) 280054 y5 (.lit (.int .i64 (.ofNat 13))) fun x16_18 =>
    condK 280056 x16_18
    (
     g28_k2 ro y1 y2 y3 y5 (.lit (.bool true)) T2 n2
    )
    (
     eqK Tryz.prog 3 (.tmp 5) (.const (.int .i64 (.ofNat 14))) 280057 y5 (.lit (.int .i64 (.ofNat 14))) fun x17_19 =>
     condK 280059 x17_19
     (
      g28_k2 ro y1 y2 y3 y5 (.lit (.bool true)) T2 n2
     )
     (
      eqK Tryz.prog 3 (.tmp 5) (.const (.int .i64 (.ofNat 15))) 280060 y5 (.lit (.int .i64 (.ofNat 15))) fun x18_20 =>
      condK 280062 x18_20
      (
       g28_k2 ro y1 y2 y3 y5 (.lit (.bool true)) T2 n2
      )
      (
       eqK Tryz.prog 3 (.tmp 5) (.const (.int .i64 (.ofNat 24))) 280063 y5 (.lit (.int .i64 (.ofNat 24))) fun x19_21 =>
       condK 280065 x19_21
       (
        g28_k2 ro y1 y2 y3 y5 (.lit (.bool true)) T2 n2
       )
       (
        eqK Tryz.prog 3 (.tmp 5) (.const (.int .i64 (.ofNat 26))) 280066 y5 (.lit (.int .i64 (.ofNat 26))) fun x20_22 =>
        condK 280068 x20_22
        (
         g28_k2 ro y1 y2 y3 y5 (.lit (.bool true)) T2 n2
        )
        (
         eqK Tryz.prog 3 (.tmp 5) (.const (.int .i64 (.ofNat 27))) 280069 y5 (.lit (.int .i64 (.ofNat 27))) fun x21_23 =>
         condK 280071 x21_23
         (
          g28_k2 ro y1 y2 y3 y5 (.lit (.bool true)) T2 n2
         )
         (
          eqK Tryz.prog 3 (.tmp 5) (.const (.int .i64 (.ofNat 29))) 280072 y5 (.lit (.int .i64 (.ofNat 29))) fun x22_24 =>
          g28_k2 ro y1 y2 y3 y5 x22_24 T2 n2
         )
        )
       )
      )
     )
    )
   )
  )
 )
noncomputable def g28 (ro : List HT) (a0 : AV) (T : HT) (nx : Nat) : R :=
 boxK 280001 T nx a0 60 fun x1_1 T1 n1 =>
 faK 280004 x1_1 0 fun x4_2 =>
 ldK 280005 T1 ro x4_2 fun x5_3 =>
 eqK Tryz.prog 3 (.tmp 5) (.const (.int .i64 (.ofNat 1))) 280074 x5_3 (.lit (.int .i64 (.ofNat 1))) fun x7_25 =>
 condK 280076 x7_25
 (
  g28_k1 ro x1_1 (.lit (.int .i64 (.ofNat 0))) (.lit (.int .i64 (.ofNat 0))) x5_3 (.lit (.bool true)) T1 n1
 )
 (
  eqK Tryz.prog 3 (.tmp 5) (.const (.int .i64 (.ofNat 2))) 280077 x5_3 (.lit (.int .i64 (.ofNat 2))) fun x8_26 =>
  condK 280079 x8_26
  (
   g28_k1 ro x1_1 (.lit (.int .i64 (.ofNat 0))) (.lit (.int .i64 (.ofNat 0))) x5_3 (.lit (.bool true)) T1 n1
  )
  (
   eqK Tryz.prog 3 (.tmp 5) (.const (.int .i64 (.ofNat 4))) 280080 x5_3 (.lit (.int .i64 (.ofNat 4))) fun x9_27 =>
   condK 280082 x9_27
   (
    g28_k1 ro x1_1 (.lit (.int .i64 (.ofNat 0))) (.lit (.int .i64 (.ofNat 0))) x5_3 (.lit (.bool true)) T1 n1
   )
   (
    eqK Tryz.prog 3 (.tmp 5) (.const (.int .i64 (.ofNat 6))) 280083 x5_3 (.lit (.int .i64 (.ofNat 6))) fun x10_28 =>
    condK 280085 x10_28
    (
     g28_k1 ro x1_1 (.lit (.int .i64 (.ofNat 0))) (.lit (.int .i64 (.ofNat 0))) x5_3 (.lit (.bool true)) T1 n1
    )
    (
     eqK Tryz.prog 3 (.tmp 5) (.const (.int .i64 (.ofNat 28))) 280086 x5_3 (.lit (.int .i64 (.ofNat 28))) fun x11_29 =>
     condK 280088 x11_29
     (
      g28_k1 ro x1_1 (.lit (.int .i64 (.ofNat 0))) (.lit (.int .i64 (.ofNat 0))) x5_3 (.lit (.bool true)) T1 n1
     )
     (
      eqK Tryz.prog 3 (.tmp 5) (.const (.int .i64 (.ofNat 30))) 280089 x5_3 (.lit (.int .i64 (.ofNat 30))) fun x12_30 =>
      g28_k1 ro x1_1 (.lit (.int .i64 (.ofNat 0))) (.lit (.int .i64 (.ofNat 0))) x5_3 x12_30 T1 n1
     )
    )
   )
  )
 )
theorem g28_ok (ro : List HT) (a0 : AV) (T : HT) (nx : Nat) : GOk Tryz.prog envE 28 [a0] ro T nx (g28 ro a0 T nx) := by
 refine GOk.of_body Tryz.func28 rfl Tryz.ntmps28 (by kernel_rfl) rfl fun r T' n' h1 w0 base ρ0 its hS hP => ?_
 have X : CtxW envE ρ0 ro r T' n' := trivial
 unfold g28 at h1
 refine sr ?_
 refine LV.box hS h1 rfl rfl rfl rfl rfl fun x1_1 T1 n1 h2 ρ its hS hdr => ?_
 refine as_ ?_
 refine as_ ?_
 refine dn ?_
 refine CV.seq ?_
 refine sr ?_
 refine vy (V.fa h2 rfl Cnf.fo60_0) fun x4_2 h3 => ?_
 refine vy (V.ld hS h3 rfl Cnf.one3) fun x5_3 h4 => ?_
 refine dn ?_
 refine CV.block ?_
 refine cs5 X 1 2 3 5 6 [] (g28_k1 ro) ?_ ?_
 ·
  refine sr ?_
  refine vy (V.eq h4 rfl rfl) fun x7_25 h49 => ?_
  refine as_ ?_
  refine dn ?_
  refine CV.cond h49 rfl (fun e h50 => ?_) (fun e h50 => ?_)
  ·
   clear h1 h2 h3 h4 h49
   subst e
   refine CV.skip ?_
   exact pa5 hS h50 ⟨rfl, rfl, rfl, rfl, rfl, trivial⟩
  ·
   clear h1 h2 h3 h4 h49
   subst e
   refine sr ?_
   refine vy (V.eq h50 rfl rfl) fun x8_26 h51 => ?_
   refine as_ ?_
   refine dn ?_
   refine CV.cond h51 rfl (fun e h52 => ?_) (fun e h52 => ?_)
   ·
    clear h50 h51
    subst e
    refine CV.skip ?_
    exact pa5 hS h52 ⟨rfl, rfl, rfl, rfl, rfl, trivial⟩
   ·
    clear h50 h51
    subst e
    refine sr ?_
    refine vy (V.eq h52 rfl rfl) fun x9_27 h53 => ?_
    refine as_ ?_
    refine dn ?_
    refine CV.cond h53 rfl (fun e h54 => ?_) (fun e h54 => ?_)
    ·
     clear h52 h53
     subst e
     refine CV.skip ?_
     exact pa5 hS h54 ⟨rfl, rfl, rfl, rfl, rfl, trivial⟩
    ·
     clear h52 h53
     subst e
     refine sr ?_
     refine vy (V.eq h54 rfl rfl) fun x10_28 h55 => ?_
     refine as_ ?_
     refine dn ?_
     refine CV.cond h55 rfl (fun e h56 => ?_) (fun e h56 => ?_)
     ·
      clear h54 h55
      subst e
      refine CV.skip ?_
      exact pa5 hS h56 ⟨rfl, rfl, rfl, rfl, rfl, trivial⟩
     ·
      clear h54 h55
      subst e
      refine sr ?_
      refine vy (V.eq h56 rfl rfl) fun x11_29 h57 => ?_
      refine as_ ?_
      refine dn ?_
      refine CV.cond h57 rfl (fun e h58 => ?_) (fun e h58 => ?_)
      ·
       clear h56 h57
       subst e
       refine CV.skip ?_
       exact pa5 hS h58 ⟨rfl, rfl, rfl, rfl, rfl, trivial⟩
      ·
       clear h56 h57
       subst e
       refine CV.region ?_
       refine vy (V.eq h58 rfl rfl) fun x12_30 h59 => ?_
       refine as_ ?_
       refine LV.done ?_
       exact pa5 hS h59 ⟨rfl, rfl, rfl, rfl, rfl, trivial⟩
 ·
  intro y1 y2 y3 y5 y6 T2 n2 ρ its hS h5
  unfold g28_k1 at h5
  clear h1 h2 h3 h4
  refine CV.cond h5 rfl (fun e h6 => ?_) (fun e h6 => ?_)
  ·
   clear h5
   subst e
   refine sr ?_
   refine as_ ?_
   refine as_ ?_
   refine dn ?_
   refine CV.ret ?_
   refine PV.blockR ?_
   refine PV.thenR ?_
   cases h6
   exact PV.ret (by simp) Tryz.results28 hS (RS.tmp rfl (RS.tmp rfl RS.nil)) rfl
  ·
   clear h5
   subst e
   refine cs5 X 1 2 3 5 13 [] (g28_k2 ro) ?_ ?_
   ·
    refine sr ?_
    refine vy (V.eq h6 rfl rfl) fun x14_16 h32 => ?_
    refine as_ ?_
    refine dn ?_
    refine CV.cond h32 rfl (fun e h33 => ?_) (fun e h33 => ?_)
    ·
     clear h6 h32
     subst e
     refine CV.skip ?_
     exact pa5 hS h33 ⟨rfl, rfl, rfl, rfl, rfl, trivial⟩
    ·
     clear h6 h32
     subst e
     refine sr ?_
     refine vy (V.eq h33 rfl rfl) fun x15_17 h34 => ?_
     refine as_ ?_
     refine dn ?_
     refine CV.cond h34 rfl (fun e h35 => ?_) (fun e h35 => ?_)
     ·
      clear h33 h34
      subst e
      refine CV.skip ?_
      exact pa5 hS h35 ⟨rfl, rfl, rfl, rfl, rfl, trivial⟩
     ·
      clear h33 h34
      subst e
      refine sr ?_
      refine vy (V.eq h35 rfl rfl) fun x16_18 h36 => ?_
      refine as_ ?_
      refine dn ?_
      refine CV.cond h36 rfl (fun e h37 => ?_) (fun e h37 => ?_)
      ·
       clear h35 h36
       subst e
       refine CV.skip ?_
       exact pa5 hS h37 ⟨rfl, rfl, rfl, rfl, rfl, trivial⟩
      ·
       clear h35 h36
       subst e
       refine sr ?_
       refine vy (V.eq h37 rfl rfl) fun x17_19 h38 => ?_
       refine as_ ?_
       refine dn ?_
       refine CV.cond h38 rfl (fun e h39 => ?_) (fun e h39 => ?_)
       ·
        clear h37 h38
        subst e
        refine CV.skip ?_
        exact pa5 hS h39 ⟨rfl, rfl, rfl, rfl, rfl, trivial⟩
       ·
        clear h37 h38
        subst e
        refine sr ?_
        refine vy (V.eq h39 rfl rfl) fun x18_20 h40 => ?_
        refine as_ ?_
        refine dn ?_
        refine CV.cond h40 rfl (fun e h41 => ?_) (fun e h41 => ?_)
        ·
         clear h39 h40
         subst e
         refine CV.skip ?_
         exact pa5 hS h41 ⟨rfl, rfl, rfl, rfl, rfl, trivial⟩
        ·
         clear h39 h40
         subst e
         refine sr ?_
         refine vy (V.eq h41 rfl rfl) fun x19_21 h42 => ?_
         refine as_ ?_
         refine dn ?_
         refine CV.cond h42 rfl (fun e h43 => ?_) (fun e h43 => ?_)
         ·
          clear h41 h42
          subst e
          refine CV.skip ?_
          exact pa5 hS h43 ⟨rfl, rfl, rfl, rfl, rfl, trivial⟩
         ·
          clear h41 h42
          subst e
          refine sr ?_
          refine vy (V.eq h43 rfl rfl) fun x20_22 h44 => ?_
          refine as_ ?_
          refine dn ?_
          refine CV.cond h44 rfl (fun e h45 => ?_) (fun e h45 => ?_)
          ·
           clear h43 h44
           subst e
           refine CV.skip ?_
           exact pa5 hS h45 ⟨rfl, rfl, rfl, rfl, rfl, trivial⟩
          ·
           clear h43 h44
           subst e
           refine sr ?_
           refine vy (V.eq h45 rfl rfl) fun x21_23 h46 => ?_
           refine as_ ?_
           refine dn ?_
           refine CV.cond h46 rfl (fun e h47 => ?_) (fun e h47 => ?_)
           ·
            clear h45 h46
            subst e
            refine CV.skip ?_
            exact pa5 hS h47 ⟨rfl, rfl, rfl, rfl, rfl, trivial⟩
           ·
            clear h45 h46
            subst e
            refine CV.region ?_
            refine vy (V.eq h47 rfl rfl) fun x22_24 h48 => ?_
            refine as_ ?_
            refine LV.done ?_
            exact pa5 hS h48 ⟨rfl, rfl, rfl, rfl, rfl, trivial⟩
   ·
    intro y1 y2 y3 y5 y13 T3 n3 ρ its hS h7
    unfold g28_k2 at h7
    clear h6
    refine CV.cond h7 rfl (fun e h8 => ?_) (fun e h8 => ?_)
    ·
     clear h7
     subst e
     refine sr ?_
     refine as_ ?_
     refine as_ ?_
     refine dn ?_
     refine CV.ret ?_
     refine PV.blockR ?_
     refine PV.thenR ?_
     cases h8
     exact PV.ret (by simp) Tryz.results28 hS (RS.tmp rfl (RS.tmp rfl RS.nil)) rfl
    ·
     clear h7
     subst e
     refine cs5 X 1 2 3 5 23 [] (g28_k3 ro) ?_ ?_
     ·
      refine sr ?_
      refine vy (V.eq h8 rfl rfl) fun x24_13 h27 => ?_
      refine as_ ?_
      refine dn ?_
      refine CV.cond h27 rfl (fun e h28 => ?_) (fun e h28 => ?_)
      ·
       clear h8 h27
       subst e
       refine CV.skip ?_
       exact pa5 hS h28 ⟨rfl, rfl, rfl, rfl, rfl, trivial⟩
      ·
       clear h8 h27
       subst e
       refine sr ?_
       refine vy (V.eq h28 rfl rfl) fun x25_14 h29 => ?_
       refine as_ ?_
       refine dn ?_
       refine CV.cond h29 rfl (fun e h30 => ?_) (fun e h30 => ?_)
       ·
        clear h28 h29
        subst e
        refine CV.skip ?_
        exact pa5 hS h30 ⟨rfl, rfl, rfl, rfl, rfl, trivial⟩
       ·
        clear h28 h29
        subst e
        refine CV.region ?_
        refine vy (V.eq h30 rfl rfl) fun x26_15 h31 => ?_
        refine as_ ?_
        refine LV.done ?_
        exact pa5 hS h31 ⟨rfl, rfl, rfl, rfl, rfl, trivial⟩
     ·
      intro y1 y2 y3 y5 y23 T4 n4 ρ its hS h9
      unfold g28_k3 at h9
      clear h8
      refine CV.cond h9 rfl (fun e h10 => ?_) (fun e h10 => ?_)
      ·
       clear h9
       subst e
       refine sr ?_
       refine as_ ?_
       refine as_ ?_
       refine dn ?_
       refine CV.ret ?_
       refine PV.blockR ?_
       refine PV.thenR ?_
       cases h10
       exact PV.ret (by simp) Tryz.results28 hS (RS.tmp rfl (RS.tmp rfl RS.nil)) rfl
      ·
       clear h9
       subst e
       refine cs5 X 1 2 3 5 27 [] (g28_k4 ro) ?_ ?_
       ·
        refine sr ?_
        refine vy (V.eq h10 rfl rfl) fun x28_10 h22 => ?_
        refine as_ ?_
        refine dn ?_
        refine CV.cond h22 rfl (fun e h23 => ?_) (fun e h23 => ?_)
        ·
         clear h10 h22
         subst e
         refine CV.skip ?_
         exact pa5 hS h23 ⟨rfl, rfl, rfl, rfl, rfl, trivial⟩
        ·
         clear h10 h22
         subst e
         refine sr ?_
         refine vy (V.eq h23 rfl rfl) fun x29_11 h24 => ?_
         refine as_ ?_
         refine dn ?_
         refine CV.cond h24 rfl (fun e h25 => ?_) (fun e h25 => ?_)
         ·
          clear h23 h24
          subst e
          refine CV.skip ?_
          exact pa5 hS h25 ⟨rfl, rfl, rfl, rfl, rfl, trivial⟩
         ·
          clear h23 h24
          subst e
          refine CV.region ?_
          refine vy (V.eq h25 rfl rfl) fun x30_12 h26 => ?_
          refine as_ ?_
          refine LV.done ?_
          exact pa5 hS h26 ⟨rfl, rfl, rfl, rfl, rfl, trivial⟩
       ·
        intro y1 y2 y3 y5 y27 T5 n5 ρ its hS h11
        unfold g28_k4 at h11
        clear h10
        refine CV.cond h11 rfl (fun e h12 => ?_) (fun e h12 => ?_)
        ·
         clear h11
         subst e
         refine sr ?_
         refine as_ ?_
         refine as_ ?_
         refine dn ?_
         refine CV.ret ?_
         refine PV.blockR ?_
         refine PV.thenR ?_
         cases h12
         exact PV.ret (by simp) Tryz.results28 hS (RS.tmp rfl (RS.tmp rfl RS.nil)) rfl
        ·
         clear h11
         subst e
         refine cs4 X 1 2 3 31 [] (g28_k5 ro) ?_ ?_
         ·
          refine sr ?_
          refine vy (V.eq h12 rfl rfl) fun x32_8 h19 => ?_
          refine as_ ?_
          refine dn ?_
          refine CV.cond h19 rfl (fun e h20 => ?_) (fun e h20 => ?_)
          ·
           clear h12 h19
           subst e
           refine CV.skip ?_
           exact pa4 hS h20 ⟨rfl, rfl, rfl, rfl, trivial⟩
          ·
           clear h12 h19
           subst e
           refine CV.region ?_
           refine vy (V.eq h20 rfl rfl) fun x33_9 h21 => ?_
           refine as_ ?_
           refine LV.done ?_
           exact pa4 hS h21 ⟨rfl, rfl, rfl, rfl, trivial⟩
         ·
          intro y1 y2 y3 y31 T6 n6 ρ its hS h13
          unfold g28_k5 at h13
          clear h12
          refine CV.cond h13 rfl (fun e h14 => ?_) (fun e h14 => ?_)
          ·
           clear h13
           subst e
           refine sr ?_
           refine as_ ?_
           refine as_ ?_
           refine dn ?_
           refine CV.ret ?_
           refine PV.blockR ?_
           refine PV.thenR ?_
           cases h14
           exact PV.ret (by simp) Tryz.results28 hS (RS.tmp rfl (RS.tmp rfl RS.nil)) rfl
          ·
           clear h13
           subst e
           refine CV.skip ?_
           refine PV.blockN ?_
           refine PV.thenN ?_
           refine sr ?_
           refine vy (V.ldA hS h14 rfl Cnf.agg60) fun x34_4 h15 => ?_
           refine LV.call hS h15 (g48_ok _ _ _ _ ) hP rfl rfl rfl rfl fun x35_5 T7 n7 h16 ρ its hS => ?_
           refine vy (V.ex h16 rfl) fun x36_6 h17 => ?_
           refine vy (V.ex h17 rfl) fun x37_7 h18 => ?_
           refine as_ ?_
           refine as_ ?_
           refine dn ?_
           refine CV.ret ?_
           cases h18
           exact PV.ret (by simp) Tryz.results28 hS (RS.tmp rfl (RS.tmp rfl RS.nil)) rfl
noncomputable def g114_k2 (ro : List HT) (y4 y5 y9 y10 : AV) (T10 : HT) (n10 : Nat) : R :=
 ldAK 1140055 T10 ro y9 2 fun x96_38 =>
 ldAK 1140056 T10 ro y10 2 fun x97_39 =>
 bsK 1140057 T10 n10 2 226 2 [(0, x96_38), (1, x97_39)] fun x98_40 T11 n11 =>
 .ok (.val (.tup [x98_40, (.lit (.bool true))])) T11 n11
noncomputable def g114_k3 (ro : List HT) (y4 y5 y9 y10 y71 y78 : AV) (T15 : HT) (n15 : Nat) : R :=
 condK 1140085 y78
 (
  faK 1140086 y10 1 fun x92_53 =>
  ldK 1140087 T15 ro x92_53 fun x93_54 =>
  addK Tryz.prog 3 (.tmp 93) (.const (.int .i64 (.ofNat 1))) 1140088 x93_54 (.lit (.int .i64 (.ofNat 1))) fun x94_55 =>
  faK 1140089 y10 1 fun x95_56 =>
  stK 1140090 T15 x95_56 x94_55 fun T16 =>
  g114_k2 ro y4 y5 y9 y10 T16 n15
 )
 (
  eqK Tryz.prog 3 (.tmp 71) (.const (.int .i64 (.ofNat 13))) 1140091 y71 (.lit (.int .i64 (.ofNat 13))) fun x82_57 =>
  condK 1140093 x82_57
  (
   g114_k2 ro y4 y5 y9 y10 T15 n15
  )
  (
   ldAK 1140094 T15 ro y9 2 fun x99_58 =>
   bsK 1140095 T15 n15 1 226 2 [(0, x99_58)] fun x100_59 T17 n17 =>
   .ok (.val (.tup [x100_59, (.lit (.bool true))])) T17 n17
  )
 )
noncomputable def g114_k1 (ro : List HT) (y3 y6 y7 y8 y54 : AV) (T5 : HT) (n5 : Nat) : R :=
 condK 1140032 y54
 (
  .bad 1140033
 )
 (
  faK 1140034 y3 0 fun x55_21 =>
  ldK 1140035 T5 ro x55_21 fun x56_22 =>
  addK Tryz.prog 3 (.tmp 56) (.const (.int .i64 (.ofNat 1))) 1140036 x56_22 (.lit (.int .i64 (.ofNat 1))) fun x57_23 =>
  faK 1140037 y3 1 fun x58_24 =>
  ldK 1140038 T5 ro x58_24 fun x59_25 =>
  subK Tryz.prog 3 (.tmp 59) (.tmp 60) 1140040 x59_25 y7 fun x61_26 =>
  addK Tryz.prog 3 (.tmp 61) (.tmp 62) 1140042 x61_26 y8 fun x63_27 =>
  optK 1140043 (bld226 [(0, x57_23), (1, x63_27)]) fun x64_28 =>
  newK T5 n5 (.obj [.lit (.int .i64 0), .lit (.int .i64 0)] 226) fun x9_29 T6 n6 =>
  stAK 1140045 T6 x9_29 x64_28 2 fun T7 =>
  faK 1140046 y6 1 fun x65_30 =>
  ldK 1140047 T7 ro x65_30 fun x66_31 =>
  faK 1140048 x9_29 1 fun x67_32 =>
  ldK 1140049 T7 ro x67_32 fun x68_33 =>
  optK 1140050 (bld226 [(0, x66_31), (1, x68_33)]) fun x69_34 =>
  newK T7 n6 (.obj [.lit (.int .i64 0), .lit (.int .i64 0)] 226) fun x10_35 T8 n8 =>
  stAK 1140052 T8 x10_35 x69_34 2 fun T9 =>
  faK 1140053 y6 0 fun x70_36 =>
  ldK 1140054 T9 ro x70_36 fun x71_37 =>
  eqK Tryz.prog 3 (.tmp 71) (.const (.int .i64 (.ofNat 29))) 1140060 x71_37 (.lit (.int .i64 (.ofNat 29))) fun x73_41 =>
  condK 1140062 x73_41
  (
   .ok (.val (.tup [(.lit (.slice none 0 0)), (.lit (.bool true))])) T9 n8
  )
  (
   eqK Tryz.prog 3 (.tmp 71) (.const (.int .i64 (.ofNat 12))) 1140065 x71_37 (.lit (.int .i64 (.ofNat 12))) fun x75_42 =>
   condK 1140067 x75_42
   (
    ldAK 1140068 T9 ro x10_35 2 fun x83_43 =>
    bsK 1140069 T9 n8 1 226 2 [(0, x83_43)] fun x84_44 T12 n12 =>
    .ok (.val (.tup [x84_44, (.lit (.bool true))])) T12 n12
   )
   (
    eqK Tryz.prog 3 (.tmp 71) (.const (.int .i64 (.ofNat 23))) 1140072 x71_37 (.lit (.int .i64 (.ofNat 23))) fun x77_45 =>
    condK 1140074 x77_45
    (
     faK 1140075 x10_35 1 fun x85_46 =>
     ldK 1140076 T9 ro x85_46 fun x86_47 =>
     subK Tryz.prog 3 (.tmp 86) (.const (.int .i64 (.ofNat 2))) 1140077 x86_47 (.lit (.int .i64 (.ofNat 2))) fun x87_48 =>
     faK 1140078 x10_35 1 fun x88_49 =>
     stK 1140079 T9 x88_49 x87_48 fun T13 =>
     ldAK 1140080 T13 ro x9_29 2 fun x89_50 =>
     ldAK 1140081 T13 ro x10_35 2 fun x90_51 =>
     bsK 1140082 T13 n8 2 226 2 [(0, x89_50), (1, x90_51)] fun x91_52 T14 n14 =>
     .ok (.val (.tup [x91_52, (.lit (.bool true))])) T14 n14
    )
    (
     eqK Tryz.prog 3 (.tmp 71) (.const (.int .i64 (.ofNat 14))) 1140098 x71_37 (.lit (.int .i64 (.ofNat 14))) fun x79_60 =>
     condK 1140100 x79_60
     (
      g114_k3 ro (.lit (.slice none 0 0)) (.lit (.bool false)) x9_29 x10_35 x71_37 (.lit (.bool true)) T9 n8
     )
     (
      eqK Tryz.prog 3 (.tmp 71) (.const (.int .i64 (.ofNat 15))) 1140101 x71_37 (.lit (.int .i64 (.ofNat 15))) fun x80_61 =>
      g114_k3 ro (.lit (.slice none 0 0)) (.lit (.bool false)) x9_29 x10_35 x71_37 x80_61 T9 n8
     )
    )
   )
  )
 )
noncomputable def g114_k4 (ro : List HT) (y3 y6 y7 y8 y53 : AV) (T18 : HT) (n18 : Nat) : R :=
 g114_k1 ro y3 y6 y7 y8 y53 T18 n18
noncomputable def g114 (ro : List HT) (a0 a1 : AV) (T : HT) (nx : Nat) : R :=
 boxK 1140001 T nx a1 226 fun x3_1 T1 n1 =>
 ncK 1140005 a0 fun x12_2 =>
 faK 1140006 x12_2 4 fun x13_3 =>
 faK 1140007 x13_3 5 fun x14_4 =>
 ldK 1140008 T1 ro x14_4 fun x15_5 =>
 faK 1140009 x3_1 0 fun x16_6 =>
 ldK 1140010 T1 ro x16_6 fun x17_7 =>
 iaK 1140011 x15_5 x17_7 4 fun x18_8 =>
 ldAK 1140012 T1 ro x18_8 4 fun x19_9 =>
 newK T1 n1 (.obj [.lit (.int .i64 0), .lit (.int .i64 0), .lit (.int .i64 0), .lit (.int .i64 0)] 60) fun x6_10 T2 n2 =>
 stAK 1140014 T2 x6_10 x19_9 4 fun T3 =>
 ldAK 1140015 T3 ro x6_10 4 fun x21_11 =>
 callK (g28 ro x21_11 T3 n2) fun x22_12 T4 n4 =>
 exK 1140018 x22_12 0 fun x23_13 =>
 exK 1140019 x22_12 1 fun x24_14 =>
 faK 1140022 x6_10 0 fun x25_15 =>
 ldK 1140023 T4 ro x25_15 fun x26_16 =>
 eqK Tryz.prog 3 (.tmp 26) (.const (.int .i64 (.ofNat 28))) 1140024 x26_16 (.lit (.int .i64 (.ofNat 28))) fun x27_17 =>
 condK 1140025 x27_17
 (
  .bad 1140026
 )
 (
  faK 1140027 x3_1 1 fun x38_18 =>
  ldK 1140028 T4 ro x38_18 fun x39_19 =>
  ltK Tryz.prog 3 (.tmp 39) (.tmp 40) 1140030 x39_19 x23_13 fun x41_20 =>
  condK 1140103 x41_20
  (
   g114_k1 ro x3_1 x6_10 x23_13 x24_14 (.lit (.bool true)) T4 n4
  )
  (
   faK 1140105 x6_10 0 fun x43_62 =>
   ldK 1140106 T4 ro x43_62 fun x44_63 =>
   eqK Tryz.prog 3 (.tmp 44) (.const (.int .i64 (.ofNat 26))) 1140107 x44_63 (.lit (.int .i64 (.ofNat 26))) fun x45_64 =>
   condK 1140110 x45_64
   (
    faK 1140111 x3_1 1 fun x47_65 =>
    ldK 1140112 T4 ro x47_65 fun x48_66 =>
    faK 1140113 x6_10 2 fun x49_67 =>
    ldK 1140114 T4 ro x49_67 fun x50_68 =>
    addK Tryz.prog 3 (.tmp 50) (.const (.int .i64 (.ofNat 1))) 1140115 x50_68 (.lit (.int .i64 (.ofNat 1))) fun x51_69 =>
    ltK Tryz.prog 3 (.tmp 48) (.tmp 51) 1140116 x48_66 x51_69 fun x52_70 =>
    g114_k4 ro x3_1 x6_10 x23_13 x24_14 x52_70 T4 n4
   )
   (
    g114_k4 ro x3_1 x6_10 x23_13 x24_14 (.lit (.bool false)) T4 n4
   )
  )
 )
theorem g114_ok (ro : List HT) (a0 a1 : AV) (T : HT) (nx : Nat) : GOk Tryz.prog envE 114 [a0, a1] ro T nx (g114 ro a0 a1 T nx) := by
 refine GOk.of_body Tryz.func114 rfl Tryz.ntmps114 (by kernel_rfl) rfl fun r T' n' h1 w0 base ρ0 its hS hP => ?_
 have X : CtxW envE ρ0 ro r T' n' := trivial
 unfold g114 at h1
 refine sr ?_
 refine LV.box hS h1 rfl rfl rfl rfl rfl fun x3_1 T1 n1 h2 ρ its hS hdr => ?_
 refine as_ ?_
 refine as_ ?_
 refine dn ?_
 refine CV.seq ?_
 refine CV.regionM [(0, .anywhere), (1, .anywhere), (2, .anywhere), (3, .anywhere), (4, .held), (5, .anywhere), (6, .held), (7, .held), (8, .held), (9, .alone), (10, .alone)] rfl (fun c a a' w hd hq => PanicOk.root (P := Tryz.prog) (fn := Tryz.f114) (w0 := w0) (base := base) (E := envE) (ro := ro) (r := r) (T' := T') (n' := n') (ρ0 := ρ0) c a a' w hd hq) (by kernel_rfl) ?_
 refine MV.step0 (i := 0) rfl (VAL.move rfl) rfl rfl rfl ?_
 refine MV.lift0 (i := 1) rfl (V.nc h2 rfl) rfl rfl rfl fun x12_2 h3 => ?_
 refine MV.lift0 (i := 2) rfl (V.fa h3 rfl Cnf.fo179_1) rfl rfl rfl fun x13_3 h4 => ?_
 refine MV.lift0 (i := 3) rfl (V.fa h4 rfl Cnf.fo175_5) rfl rfl rfl fun x14_4 h5 => ?_
 refine MV.lift1 (i := 4) rfl (fun _ z => z) (V.ld hS h5 rfl Cnf.one161) rfl rfl rfl [] (by kernel_rfl) fun x15_5 h6 => ?_
 refine MV.lift0 (i := 5) rfl (V.fa h6 rfl Cnf.fo226_0) rfl rfl rfl fun x16_6 h7 => ?_
 refine MV.lift1 (i := 6) rfl (fun _ z => z) (V.ld hS h7 rfl Cnf.one3) rfl rfl rfl [4] (by kernel_rfl) fun x17_7 h8 => ?_
 refine MV.lift1 (i := 7) rfl (fun _ z => z) (V.ia h8 rfl rfl Cnf.el161) rfl rfl rfl [] (by kernel_rfl) fun x18_8 h9 => ?_
 refine MV.lift1 (i := 8) rfl (fun _ z => z) (V.ldA hS h9 rfl Cnf.agg60) rfl rfl rfl [] (by kernel_rfl) fun x19_9 h10 => ?_
 refine MV.force (i := 9) rfl ?_
 refine LV.alloc hS h10 rfl Cnf.zr60 rfl rfl rfl fun x6_10 T2 n2 h11 ρ its hS hdr => ?_
 refine LV.nextM [8] (by kernel_rfl) (fun _ => hdr) ?_
 refine MV.force (i := 10) rfl ?_
 refine LV.stA hS h11 rfl rfl rfl Cnf.agg60 rfl rfl rfl fun T3 its h12 hS => ?_
 refine LV.nextM [] (by kernel_rfl) (fun z => absurd rfl z) ?_
 refine mdn ?_
 refine sr ?_
 refine vy (V.ldA hS h12 rfl Cnf.agg60) fun x21_11 h13 => ?_
 refine LV.call hS h13 (g28_ok _ _ _ _ ) hP rfl rfl rfl rfl fun x22_12 T4 n4 h14 ρ its hS => ?_
 refine mv ?_
 refine vy (V.ex h14 rfl) fun x23_13 h15 => ?_
 refine vy (V.ex h15 rfl) fun x24_14 h16 => ?_
 refine as_ ?_
 refine as_ ?_
 refine dn ?_
 refine CV.seq ?_
 refine sr ?_
 refine vy (V.fa h16 rfl Cnf.fo60_0) fun x25_15 h17 => ?_
 refine vy (V.ld hS h17 rfl Cnf.one3) fun x26_16 h18 => ?_
 refine vy (V.eq h18 rfl rfl) fun x27_17 h19 => ?_
 refine dn ?_
 refine CV.cond h19 rfl (fun e h20 => ?_) (fun e h20 => ?_)
 ·
  clear h1 h2 h3 h4 h5 h6 h7 h8 h9 h10 h11 h12 h13 h14 h15 h16 h17 h18 h19
  subst e
  cases h20
 ·
  clear h1 h2 h3 h4 h5 h6 h7 h8 h9 h10 h11 h12 h13 h14 h15 h16 h17 h18 h19
  subst e
  refine CV.skip ?_
  refine PV.thenN ?_
  refine CV.seq ?_
  refine sr ?_
  refine vy (V.fa h20 rfl Cnf.fo226_1) fun x38_18 h21 => ?_
  refine vy (V.ld hS h21 rfl Cnf.one3) fun x39_19 h22 => ?_
  refine mv ?_
  refine vy (V.lt h22 rfl rfl) fun x41_20 h23 => ?_
  refine mv ?_
  refine ls5 X 3 6 7 8 54 [(4, (.lit (.slice none 0 0))), (5, (.lit (.bool false)))] (g114_k1 ro) 12 ?_ ?_
  ·
   rcases condK_inv h23 with ⟨e, h79⟩ | ⟨e, h79⟩
   ·
    clear h20 h21 h22 h23
    subst e
    refine sk ?_
    refine sk ?_
    refine sk ?_
    refine sk ?_
    refine sk ?_
    refine sk ?_
    refine sk ?_
    refine sk ?_
    refine sk ?_
    refine sk ?_
    refine sk ?_
    refine pu ?_
    exact la5 hS h79 ⟨rfl, rfl, rfl, rfl, rfl, rfl, rfl, trivial⟩
   ·
    clear h20 h21 h22 h23
    subst e
    refine vy (V.fa h79 rfl Cnf.fo60_0) fun x43_62 h80 => ?_
    refine vy (V.ld hS h80 rfl Cnf.one3) fun x44_63 h81 => ?_
    refine vy (V.eq h81 rfl rfl) fun x45_64 h82 => ?_
    refine mv ?_
    refine ls5 X 3 6 7 8 53 [(4, (.lit (.slice none 0 0))), (5, (.lit (.bool false))), (42, (.lit (.bool false)))] (g114_k4 ro) 7 ?_ ?_
    ·
     rcases condK_inv h82 with ⟨e, h84⟩ | ⟨e, h84⟩
     ·
      clear h79 h80 h81 h82
      subst e
      refine vy (V.fa h84 rfl Cnf.fo226_1) fun x47_65 h85 => ?_
      refine vy (V.ld hS h85 rfl Cnf.one3) fun x48_66 h86 => ?_
      refine vy (V.fa h86 rfl Cnf.fo60_2) fun x49_67 h87 => ?_
      refine vy (V.ld hS h87 rfl Cnf.one3) fun x50_68 h88 => ?_
      refine vy (V.add h88 rfl rfl) fun x51_69 h89 => ?_
      refine vy (V.lt h89 rfl rfl) fun x52_70 h90 => ?_
      refine pu ?_
      exact la5 hS h90 ⟨rfl, rfl, rfl, rfl, rfl, rfl, rfl, rfl, trivial⟩
     ·
      clear h79 h80 h81 h82
      subst e
      refine sk ?_
      refine sk ?_
      refine sk ?_
      refine sk ?_
      refine sk ?_
      refine sk ?_
      refine pu ?_
      exact la5 hS h84 ⟨rfl, rfl, rfl, rfl, rfl, rfl, rfl, rfl, trivial⟩
    ·
     intro y3 y6 y7 y8 y53 T18 n18 ρ its hS h83
     unfold g114_k4 at h83
     clear h79 h80 h81 h82
     refine pu ?_
     exact la5 hS h83 ⟨rfl, rfl, rfl, rfl, rfl, rfl, rfl, trivial⟩
  ·
   intro y3 y6 y7 y8 y54 T5 n5 ρ its hS h24
   unfold g114_k1 at h24
   clear h20 h21 h22 h23
   refine dn ?_
   refine CV.cond h24 rfl (fun e h25 => ?_) (fun e h25 => ?_)
   ·
    clear h24
    subst e
    cases h25
   ·
    clear h24
    subst e
    refine CV.skip ?_
    refine PV.thenN ?_
    refine sr ?_
    refine vy (V.fa h25 rfl Cnf.fo226_0) fun x55_21 h26 => ?_
    refine vy (V.ld hS h26 rfl Cnf.one3) fun x56_22 h27 => ?_
    refine vy (V.add h27 rfl rfl) fun x57_23 h28 => ?_
    refine vy (V.fa h28 rfl Cnf.fo226_1) fun x58_24 h29 => ?_
    refine vy (V.ld hS h29 rfl Cnf.one3) fun x59_25 h30 => ?_
    refine mv ?_
    refine vy (V.sub h30 rfl rfl) fun x61_26 h31 => ?_
    refine mv ?_
    refine vy (V.add h31 rfl rfl) fun x63_27 h32 => ?_
    refine vy (V.bld h32 rfl) fun x64_28 h33 => ?_
    refine LV.alloc hS h33 rfl Cnf.zr226 rfl rfl rfl fun x9_29 T6 n6 h34 ρ its hS hdr => ?_
    refine LV.stA hS h34 rfl rfl rfl Cnf.agg226 rfl rfl rfl fun T7 its h35 hS => ?_
    refine dn ?_
    refine sr ?_
    refine vy (V.fa h35 rfl Cnf.fo60_1) fun x65_30 h36 => ?_
    refine vy (V.ld hS h36 rfl Cnf.one3) fun x66_31 h37 => ?_
    refine vy (V.fa h37 rfl Cnf.fo226_1) fun x67_32 h38 => ?_
    refine vy (V.ld hS h38 rfl Cnf.one3) fun x68_33 h39 => ?_
    refine vy (V.bld h39 rfl) fun x69_34 h40 => ?_
    refine LV.alloc hS h40 rfl Cnf.zr226 rfl rfl rfl fun x10_35 T8 n8 h41 ρ its hS hdr => ?_
    refine LV.stA hS h41 rfl rfl rfl Cnf.agg226 rfl rfl rfl fun T9 its h42 hS => ?_
    refine dn ?_
    refine CV.seq ?_
    refine sr ?_
    refine vy (V.fa h42 rfl Cnf.fo60_0) fun x70_36 h43 => ?_
    refine vy (V.ld hS h43 rfl Cnf.one3) fun x71_37 h44 => ?_
    refine dn ?_
    refine CV.block ?_
    refine cs4 X 4 5 9 10 [] (g114_k2 ro) ?_ ?_
    ·
     refine CV.block ?_
     refine CV.seq ?_
     refine CV.block ?_
     refine CV.seq ?_
     refine CV.block ?_
     refine CV.seq ?_
     refine CV.block ?_
     refine CV.seq ?_
     refine CV.block ?_
     refine CV.seq ?_
     refine CV.seq ?_
     refine sr ?_
     refine vy (V.eq h44 rfl rfl) fun x73_41 h49 => ?_
     refine as_ ?_
     refine dn ?_
     refine CV.cond h49 rfl (fun e h50 => ?_) (fun e h50 => ?_)
     ·
      clear h25 h26 h27 h28 h29 h30 h31 h32 h33 h34 h35 h36 h37 h38 h39 h40 h41 h42 h43 h44 h49
      subst e
      refine CV.exit ?_
      refine PV.thenE ?_
      refine PV.thenE ?_
      refine PV.blockE ?_
      refine PV.thenN ?_
      refine CV.seq ?_
      refine sr ?_
      refine as_ ?_
      refine as_ ?_
      refine dn ?_
      refine CV.ret ?_
      refine PV.thenR ?_
      refine PV.blockR ?_
      refine PV.thenR ?_
      refine PV.blockR ?_
      refine PV.thenR ?_
      refine PV.blockR ?_
      refine PV.thenR ?_
      refine PV.blockR ?_
      refine PV.thenR ?_
      refine PV.blockR ?_
      refine PV.thenR ?_
      cases h50
      exact PV.ret (by simp) Tryz.results114 hS (RS.tmp rfl (RS.tmp rfl RS.nil)) rfl
     ·
      clear h25 h26 h27 h28 h29 h30 h31 h32 h33 h34 h35 h36 h37 h38 h39 h40 h41 h42 h43 h44 h49
      subst e
      refine CV.skip ?_
      refine PV.thenN ?_
      refine CV.seq ?_
      refine sr ?_
      refine vy (V.eq h50 rfl rfl) fun x75_42 h51 => ?_
      refine as_ ?_
      refine dn ?_
      refine CV.cond h51 rfl (fun e h52 => ?_) (fun e h52 => ?_)
      ·
       clear h50 h51
       subst e
       refine CV.exit ?_
       refine PV.thenE ?_
       refine PV.thenE ?_
       refine PV.blockO rfl ?_
       refine PV.thenE ?_
       refine PV.blockE ?_
       refine PV.thenN ?_
       refine CV.seq ?_
       refine sr ?_
       refine vy (V.ldA hS h52 rfl Cnf.agg226) fun x83_43 h53 => ?_
       refine LV.bslice hS h53 rfl rfl Cnf.el227 rfl rfl rfl rfl fun x84_44 T12 n12 h54 ρ its hS hdr => ?_
       refine as_ ?_
       refine as_ ?_
       refine dn ?_
       refine CV.ret ?_
       refine PV.thenR ?_
       refine PV.blockR ?_
       refine PV.thenR ?_
       refine PV.blockR ?_
       refine PV.thenR ?_
       refine PV.blockR ?_
       refine PV.thenR ?_
       refine PV.blockR ?_
       refine PV.thenR ?_
       cases h54
       exact PV.ret (by simp) Tryz.results114 hS (RS.tmp rfl (RS.tmp rfl RS.nil)) rfl
      ·
       clear h50 h51
       subst e
       refine CV.skip ?_
       refine PV.thenN ?_
       refine CV.seq ?_
       refine sr ?_
       refine vy (V.eq h52 rfl rfl) fun x77_45 h55 => ?_
       refine as_ ?_
       refine dn ?_
       refine CV.cond h55 rfl (fun e h56 => ?_) (fun e h56 => ?_)
       ·
        clear h52 h55
        subst e
        refine CV.exit ?_
        refine PV.thenE ?_
        refine PV.thenE ?_
        refine PV.blockO rfl ?_
        refine PV.thenE ?_
        refine PV.blockO rfl ?_
        refine PV.thenE ?_
        refine PV.blockE ?_
        refine PV.thenN ?_
        refine CV.seq ?_
        refine sr ?_
        refine vy (V.fa h56 rfl Cnf.fo226_1) fun x85_46 h57 => ?_
        refine vy (V.ld hS h57 rfl Cnf.one3) fun x86_47 h58 => ?_
        refine vy (V.sub h58 rfl rfl) fun x87_48 h59 => ?_
        refine vy (V.fa h59 rfl Cnf.fo226_1) fun x88_49 h60 => ?_
        refine LV.st hS h60 rfl rfl rfl Cnf.siz3 rfl rfl fun T13 its h61 hS => ?_
        refine dn ?_
        refine sr ?_
        refine vy (V.ldA hS h61 rfl Cnf.agg226) fun x89_50 h62 => ?_
        refine vy (V.ldA hS h62 rfl Cnf.agg226) fun x90_51 h63 => ?_
        refine LV.bslice hS h63 rfl rfl Cnf.el227 rfl rfl rfl rfl fun x91_52 T14 n14 h64 ρ its hS hdr => ?_
        refine as_ ?_
        refine as_ ?_
        refine dn ?_
        refine CV.ret ?_
        refine PV.thenR ?_
        refine PV.blockR ?_
        refine PV.thenR ?_
        refine PV.blockR ?_
        refine PV.thenR ?_
        refine PV.blockR ?_
        refine PV.thenR ?_
        cases h64
        exact PV.ret (by simp) Tryz.results114 hS (RS.tmp rfl (RS.tmp rfl RS.nil)) rfl
       ·
        clear h52 h55
        subst e
        refine CV.skip ?_
        refine PV.thenN ?_
        refine CV.seq ?_
        refine cs6 X 4 5 9 10 71 78 [] (g114_k3 ro) ?_ ?_
        ·
         refine sr ?_
         refine vy (V.eq h56 rfl rfl) fun x79_60 h76 => ?_
         refine as_ ?_
         refine dn ?_
         refine CV.cond h76 rfl (fun e h77 => ?_) (fun e h77 => ?_)
         ·
          clear h56 h76
          subst e
          refine CV.skip ?_
          exact pa6 hS h77 ⟨rfl, rfl, rfl, rfl, rfl, rfl, trivial⟩
         ·
          clear h56 h76
          subst e
          refine CV.region ?_
          refine vy (V.eq h77 rfl rfl) fun x80_61 h78 => ?_
          refine as_ ?_
          refine LV.done ?_
          exact pa6 hS h78 ⟨rfl, rfl, rfl, rfl, rfl, rfl, trivial⟩
        ·
         intro y4 y5 y9 y10 y71 y78 T15 n15 ρ its hS h65
         unfold g114_k3 at h65
         clear h56
         refine CV.cond h65 rfl (fun e h66 => ?_) (fun e h66 => ?_)
         ·
          clear h65
          subst e
          refine CV.exit ?_
          refine PV.thenE ?_
          refine PV.thenE ?_
          refine PV.blockO rfl ?_
          refine PV.thenE ?_
          refine PV.blockO rfl ?_
          refine PV.thenE ?_
          refine PV.blockO rfl ?_
          refine PV.thenE ?_
          refine PV.blockE ?_
          refine PV.thenN ?_
          refine CV.region ?_
          refine vy (V.fa h66 rfl Cnf.fo226_1) fun x92_53 h67 => ?_
          refine vy (V.ld hS h67 rfl Cnf.one3) fun x93_54 h68 => ?_
          refine vy (V.add h68 rfl rfl) fun x94_55 h69 => ?_
          refine vy (V.fa h69 rfl Cnf.fo226_1) fun x95_56 h70 => ?_
          refine LV.st hS h70 rfl rfl rfl Cnf.siz3 rfl rfl fun T16 its h71 hS => ?_
          refine LV.done ?_
          refine PV.blockN ?_
          exact pa4 hS h71 ⟨rfl, rfl, rfl, rfl, trivial⟩
         ·
          clear h65
          subst e
          refine CV.skip ?_
          refine PV.thenN ?_
          refine sr ?_
          refine vy (V.eq h66 rfl rfl) fun x82_57 h72 => ?_
          refine as_ ?_
          refine dn ?_
          refine CV.cond h72 rfl (fun e h73 => ?_) (fun e h73 => ?_)
          ·
           clear h66 h72
           subst e
           refine CV.exit ?_
           refine PV.thenE ?_
           refine PV.blockO rfl ?_
           refine PV.thenE ?_
           refine PV.blockO rfl ?_
           refine PV.thenE ?_
           refine PV.blockO rfl ?_
           refine PV.thenE ?_
           refine PV.blockO rfl ?_
           refine PV.thenE ?_
           refine PV.blockE ?_
           exact pa4 hS h73 ⟨rfl, rfl, rfl, rfl, trivial⟩
          ·
           clear h66 h72
           subst e
           refine CV.skip ?_
           refine PV.thenN ?_
           refine CV.exit ?_
           refine PV.blockO rfl ?_
           refine PV.thenE ?_
           refine PV.blockO rfl ?_
           refine PV.thenE ?_
           refine PV.blockO rfl ?_
           refine PV.thenE ?_
           refine PV.blockO rfl ?_
           refine PV.thenE ?_
           refine PV.blockO rfl ?_
           refine PV.thenE ?_
           refine PV.blockE ?_
           refine PV.thenN ?_
           refine sr ?_
           refine vy (V.ldA hS h73 rfl Cnf.agg226) fun x99_58 h74 => ?_
           refine LV.bslice hS h74 rfl rfl Cnf.el227 rfl rfl rfl rfl fun x100_59 T17 n17 h75 ρ its hS hdr => ?_
           refine as_ ?_
           refine as_ ?_
           refine dn ?_
           refine CV.ret ?_
           cases h75
           exact PV.ret (by simp) Tryz.results114 hS (RS.tmp rfl (RS.tmp rfl RS.nil)) rfl
    ·
     intro y4 y5 y9 y10 T10 n10 ρ its hS h45
     unfold g114_k2 at h45
     clear h25 h26 h27 h28 h29 h30 h31 h32 h33 h34 h35 h36 h37 h38 h39 h40 h41 h42 h43 h44
     refine CV.seq ?_
     refine sr ?_
     refine vy (V.ldA hS h45 rfl Cnf.agg226) fun x96_38 h46 => ?_
     refine vy (V.ldA hS h46 rfl Cnf.agg226) fun x97_39 h47 => ?_
     refine LV.bslice hS h47 rfl rfl Cnf.el227 rfl rfl rfl rfl fun x98_40 T11 n11 h48 ρ its hS hdr => ?_
     refine as_ ?_
     refine as_ ?_
     refine dn ?_
     refine CV.ret ?_
     refine PV.thenR ?_
     refine PV.blockR ?_
     refine PV.thenR ?_
     cases h48
     exact PV.ret (by simp) Tryz.results114 hS (RS.tmp rfl (RS.tmp rfl RS.nil)) rfl

end Go.Proofs.YtlljgagoboapaaaGreatDoor.Cn
