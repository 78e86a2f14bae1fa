/-
  Proved here: plain functions that do what the program's functions do, each with its proof.
-/
import Derived.Test.YtlljgagoboapaaaGreatDoorVde
namespace Go.Proofs.YtlljgagoboapaaaGreatDoor.Vd
open Go.EY Go.EX Go.SX Go.RowKit
noncomputable def g202_k3 (ro : List HT) (y0 y2 : AV) (T3 : HT) (n3 : Nat) : R :=
 optK 2020004 (convV Tryz.prog 68 5 y0) fun x21_1 =>
 ixK 2020005 (.lit (.string ⟨⟨[0, 1, 2, 2, 3, 3, 3, 3, 4, 4, 4, 4, 4, 4, 4, 4, 5, 5, 5, 5, 5, 5, 5, 5, 5, 5, 5, 5, 5, 5, 5, 5, 6, 6, 6, 6, 6, 6, 6, 6, 6, 6, 6, 6, 6, 6, 6, 6, 6, 6, 6, 6, 6, 6, 6, 6, 6, 6, 6, 6, 6, 6, 6, 6, 7, 7, 7, 7, 7, 7, 7, 7, 7, 7, 7, 7, 7, 7, 7, 7, 7, 7, 7, 7, 7, 7, 7, 7, 7, 7, 7, 7, 7, 7, 7, 7, 7, 7, 7, 7, 7, 7, 7, 7, 7, 7, 7, 7, 7, 7, 7, 7, 7, 7, 7, 7, 7, 7, 7, 7, 7, 7, 7, 7, 7, 7, 7, 7, 8, 8, 8, 8, 8, 8, 8, 8, 8, 8, 8, 8, 8, 8, 8, 8, 8, 8, 8, 8, 8, 8, 8, 8, 8, 8, 8, 8, 8, 8, 8, 8, 8, 8, 8, 8, 8, 8, 8, 8, 8, 8, 8, 8, 8, 8, 8, 8, 8, 8, 8, 8, 8, 8, 8, 8, 8, 8, 8, 8, 8, 8, 8, 8, 8, 8, 8, 8, 8, 8, 8, 8, 8, 8, 8, 8, 8, 8, 8, 8, 8, 8, 8, 8, 8, 8, 8, 8, 8, 8, 8, 8, 8, 8, 8, 8, 8, 8, 8, 8, 8, 8, 8, 8, 8, 8, 8, 8, 8, 8, 8, 8, 8, 8, 8, 8, 8, 8, 8, 8, 8, 8, 8, 8, 8, 8, 8, 8]⟩⟩)) x21_1 fun x22_2 =>
 optK 2020006 (convV Tryz.prog 5 3 x22_2) fun x23_3 =>
 addK Tryz.prog 3 (.tmp 19) (.tmp 23) 2020007 y2 x23_3 fun x24_4 =>
 .ok (.val x24_4) T3 n3
noncomputable def g202_k2 (ro : List HT) (y0 y2 : AV) (T2 : HT) (n2 : Nat) : R :=
 geK Tryz.prog 68 (.tmp 13) (.const (.int .u64 (.ofNat 256))) 2020010 y0 (.lit (.int .u64 (.ofNat 256))) fun x14_5 =>
 condK 2020011 x14_5
 (
  bin0 Tryz.prog .shr 68 (.tmp 15) (.const (.int .u64 (.ofNat 8))) 2020013 y0 (.lit (.int .u64 (.ofNat 8))) fun x16_6 =>
  addK Tryz.prog 3 (.tmp 17) (.const (.int .i64 (.ofNat 8))) 2020016 y2 (.lit (.int .i64 (.ofNat 8))) fun x18_7 =>
  g202_k3 ro x16_6 x18_7 T2 n2
 )
 (
  g202_k3 ro y0 y2 T2 n2
 )
noncomputable def g202_k1 (ro : List HT) (y0 y2 : AV) (T1 : HT) (n1 : Nat) : R :=
 geK Tryz.prog 68 (.tmp 7) (.const (.int .u64 (.ofNat 65536))) 2020019 y0 (.lit (.int .u64 (.ofNat 65536))) fun x8_8 =>
 condK 2020020 x8_8
 (
  bin0 Tryz.prog .shr 68 (.tmp 9) (.const (.int .u64 (.ofNat 16))) 2020022 y0 (.lit (.int .u64 (.ofNat 16))) fun x10_9 =>
  addK Tryz.prog 3 (.tmp 11) (.const (.int .i64 (.ofNat 16))) 2020025 y2 (.lit (.int .i64 (.ofNat 16))) fun x12_10 =>
  g202_k2 ro x10_9 x12_10 T1 n1
 )
 (
  g202_k2 ro y0 y2 T1 n1
 )
noncomputable def g202 (ro : List HT) (a0 : AV) (T : HT) (nx : Nat) : R :=
 geK Tryz.prog 68 (.tmp 3) (.const (.int .u64 (.ofNat 4294967296))) 2020028 a0 (.lit (.int .u64 (.ofNat 4294967296))) fun x4_11 =>
 condK 2020029 x4_11
 (
  bin0 Tryz.prog .shr 68 (.tmp 5) (.const (.int .u64 (.ofNat 32))) 2020031 a0 (.lit (.int .u64 (.ofNat 32))) fun x6_12 =>
  g202_k1 ro x6_12 (.lit (.int .i64 (.ofNat 32))) T nx
 )
 (
  g202_k1 ro a0 (.lit (.int .i64 (.ofNat 0))) T nx
 )
theorem g202_ok (ro : List HT) (a0 : AV) (T : HT) (nx : Nat) : GOk Tryz.prog envE 202 [a0] ro T nx (g202 ro a0 T nx) := by
 refine GOk.of_body Tryz.func202 rfl Tryz.ntmps202 (by kernel_rfl) rfl fun r T' n' h1 w0 base ρ0 its hS hP => ?_
 have X : CtxW envE ρ0 ro r T' n' := trivial
 unfold g202 at h1
 refine sr ?_
 refine as_ ?_
 refine dn ?_
 refine cs2 X 0 2 [] (g202_k1 ro) ?_ ?_
 ·
  refine sr ?_
  refine mv ?_
  refine vy (V.ge h1 rfl rfl) fun x4_11 h17 => ?_
  refine dn ?_
  refine CV.cond h17 rfl (fun e h18 => ?_) (fun e h18 => ?_)
  ·
   clear h1 h17
   subst e
   refine sr ?_
   refine mv ?_
   refine vy (V.bin0 h18 rfl rfl) fun x6_12 h19 => ?_
   refine as_ ?_
   refine dn ?_
   refine CV.region ?_
   refine as_ ?_
   refine LV.done ?_
   exact pa2 hS h19 ⟨rfl, rfl, trivial⟩
  ·
   clear h1 h17
   subst e
   refine CV.skip ?_
   exact pa2 hS h18 ⟨rfl, rfl, trivial⟩
 ·
  intro y0 y2 T1 n1 ρ its hS h2
  unfold g202_k1 at h2
  clear h1
  refine cs2 X 0 2 [] (g202_k2 ro) ?_ ?_
  ·
   refine sr ?_
   refine mv ?_
   refine vy (V.ge h2 rfl rfl) fun x8_8 h13 => ?_
   refine dn ?_
   refine CV.cond h13 rfl (fun e h14 => ?_) (fun e h14 => ?_)
   ·
    clear h2 h13
    subst e
    refine sr ?_
    refine mv ?_
    refine vy (V.bin0 h14 rfl rfl) fun x10_9 h15 => ?_
    refine as_ ?_
    refine dn ?_
    refine CV.region ?_
    refine mv ?_
    refine vy (V.add h15 rfl rfl) fun x12_10 h16 => ?_
    refine as_ ?_
    refine LV.done ?_
    exact pa2 hS h16 ⟨rfl, rfl, trivial⟩
   ·
    clear h2 h13
    subst e
    refine CV.skip ?_
    exact pa2 hS h14 ⟨rfl, rfl, trivial⟩
  ·
   intro y0 y2 T2 n2 ρ its hS h3
   unfold g202_k2 at h3
   clear h2
   refine cs2 X 0 2 [] (g202_k3 ro) ?_ ?_
   ·
    refine sr ?_
    refine mv ?_
    refine vy (V.ge h3 rfl rfl) fun x14_5 h9 => ?_
    refine dn ?_
    refine CV.cond h9 rfl (fun e h10 => ?_) (fun e h10 => ?_)
    ·
     clear h3 h9
     subst e
     refine sr ?_
     refine mv ?_
     refine vy (V.bin0 h10 rfl rfl) fun x16_6 h11 => ?_
     refine as_ ?_
     refine dn ?_
     refine CV.region ?_
     refine mv ?_
     refine vy (V.add h11 rfl rfl) fun x18_7 h12 => ?_
     refine as_ ?_
     refine LV.done ?_
     exact pa2 hS h12 ⟨rfl, rfl, trivial⟩
    ·
     clear h3 h9
     subst e
     refine CV.skip ?_
     exact pa2 hS h10 ⟨rfl, rfl, trivial⟩
   ·
    intro y0 y2 T3 n3 ρ its hS h4
    unfold g202_k3 at h4
    clear h3
    refine sr ?_
    refine mv ?_
    refine mv ?_
    refine vy (V.conv h4 rfl) fun x21_1 h5 => ?_
    refine vy (V.ix h5 rfl rfl Vdf.st9) fun x22_2 h6 => ?_
    refine vy (V.conv h6 rfl) fun x23_3 h7 => ?_
    refine vy (V.add h7 rfl rfl) fun x24_4 h8 => ?_
    refine as_ ?_
    refine dn ?_
    refine CV.ret ?_
    cases h8
    exact PV.ret (by simp) Tryz.results202 hS (RS.tmp rfl RS.nil) rfl
noncomputable def g225 (ro : List HT) (a0 : AV) (T : HT) (nx : Nat) : R :=
 bin0 Tryz.prog .mul 3 (.tmp 3) (.const (.int .i64 (.ofNat 78913))) 2250003 a0 (.lit (.int .i64 (.ofNat 78913))) fun x4_1 =>
 bin0 Tryz.prog .shr 3 (.tmp 4) (.const (.int .u64 (.ofNat 18))) 2250004 x4_1 (.lit (.int .u64 (.ofNat 18))) fun x5_2 =>
 .ok (.val x5_2) T nx
theorem g225_ok (ro : List HT) (a0 : AV) (T : HT) (nx : Nat) : GOk Tryz.prog envE 225 [a0] ro T nx (g225 ro a0 T nx) := by
 refine GOk.of_body Tryz.func225 rfl Tryz.ntmps225 (by kernel_rfl) rfl fun r T' n' h1 w0 base ρ0 its hS hP => ?_
 have X : CtxW envE ρ0 ro r T' n' := trivial
 unfold g225 at h1
 refine sr ?_
 refine as_ ?_
 refine dn ?_
 refine sr ?_
 refine mv ?_
 refine vy (V.bin0 h1 rfl rfl) fun x4_1 h2 => ?_
 refine vy (V.bin0 h2 rfl rfl) fun x5_2 h3 => ?_
 refine as_ ?_
 refine dn ?_
 refine CV.ret ?_
 cases h3
 exact PV.ret (by simp) Tryz.results225 hS (RS.tmp rfl RS.nil) rfl
noncomputable def g226 (ro : List HT) (a0 : AV) (T : HT) (nx : Nat) : R :=
 condK 2260003 a0
 (
  .ok (.val (.lit (.int .i64 (.ofNat 1)))) T nx
 )
 (
  .ok (.val (.lit (.int .i64 (.ofNat 0)))) T nx
 )
theorem g226_ok (ro : List HT) (a0 : AV) (T : HT) (nx : Nat) : GOk Tryz.prog envE 226 [a0] ro T nx (g226 ro a0 T nx) := by
 refine GOk.of_body Tryz.func226 rfl Tryz.ntmps226 (by kernel_rfl) rfl fun r T' n' h1 w0 base ρ0 its hS hP => ?_
 have X : CtxW envE ρ0 ro r T' n' := trivial
 unfold g226 at h1
 refine sr ?_
 refine as_ ?_
 refine dn ?_
 refine CV.seq ?_
 refine sr ?_
 refine mv ?_
 refine dn ?_
 refine CV.cond h1 rfl (fun e h2 => ?_) (fun e h2 => ?_)
 ·
  clear h1
  subst e
  refine sr ?_
  refine as_ ?_
  refine dn ?_
  refine CV.ret ?_
  refine PV.thenR ?_
  cases h2
  exact PV.ret (by simp) Tryz.results226 hS (RS.tmp rfl RS.nil) rfl
 ·
  clear h1
  subst e
  refine CV.skip ?_
  refine PV.thenN ?_
  refine sr ?_
  refine as_ ?_
  refine dn ?_
  refine CV.ret ?_
  cases h2
  exact PV.ret (by simp) Tryz.results226 hS (RS.tmp rfl RS.nil) rfl
noncomputable def g165 (ro : List HT) (a0 : AV) (T : HT) (nx : Nat) : R :=
 callK (g202 ro a0 T nx) fun x5_1 T1 n1 =>
 callK (g225 ro x5_1 T1 n1) fun x6_2 T2 n2 =>
 .bad 1650010
theorem g165_ok (ro : List HT) (a0 : AV) (T : HT) (nx : Nat) : GOk Tryz.prog envE 165 [a0] ro T nx (g165 ro a0 T nx) := by
 refine GOk.of_body Tryz.func165 rfl Tryz.ntmps165 (by kernel_rfl) rfl fun r T' n' h1 w0 base ρ0 its hS hP => ?_
 have X : CtxW envE ρ0 ro r T' n' := trivial
 unfold g165 at h1
 refine sr ?_
 refine as_ ?_
 refine dn ?_
 refine sr ?_
 refine mv ?_
 refine LV.call hS h1 (g202_ok _ _ _ _ ) hP rfl rfl rfl rfl fun x5_1 T1 n1 h2 ρ its hS => ?_
 refine LV.call hS h2 (g225_ok _ _ _ _ ) hP rfl rfl rfl rfl fun x6_2 T2 n2 h3 ρ its hS => ?_
 refine as_ ?_
 refine dn ?_
 refine sr ?_
 refine mv ?_
 refine mv ?_
 refine mv ?_
 cases h3
noncomputable def g166_k3 (ro : List HT) (y0 y4 y12 : AV) (T11 : HT) (n11 : Nat) : R :=
 gtK Tryz.prog 3 (.tmp 160) (.const (.int .i64 (.ofNat 0))) 1660104 y4 (.lit (.int .i64 (.ofNat 0))) fun x161_46 =>
 condK 1660105 x161_46
 (
  bin0 Tryz.prog .add 69 (.const (.int .u32 (.ofNat 48))) (.tmp 163) 1660108 (.lit (.int .u32 (.ofNat 48))) y12 fun x164_47 =>
  optK 1660109 (convV Tryz.prog 69 5 x164_47) fun x165_48 =>
  iaK 1660110 y0 (.lit (.int .i64 (.ofNat 0))) 1 fun x166_49 =>
  stK 1660111 T11 x166_49 x165_48 fun T12 =>
  .ok (.val (.tup [])) T12 n11
 )
 (
  .ok (.val (.tup [])) T11 n11
 )
noncomputable def g166_k2 (ro : List HT) (y0 y4 y12 : AV) (T10 : HT) (n10 : Nat) : R :=
 geK Tryz.prog 3 (.tmp 138) (.const (.int .i64 (.ofNat 2))) 1660113 y4 (.lit (.int .i64 (.ofNat 2))) fun x139_50 =>
 condK 1660114 x139_50
 (
  bin0 Tryz.prog .rem 69 (.tmp 140) (.const (.int .u32 (.ofNat 100))) 1660116 y12 (.lit (.int .u32 (.ofNat 100))) fun x141_51 =>
  bin0 Tryz.prog .mul 69 (.tmp 141) (.const (.int .u32 (.ofNat 2))) 1660117 x141_51 (.lit (.int .u32 (.ofNat 2))) fun x142_52 =>
  bin0 Tryz.prog .quo 69 (.tmp 143) (.const (.int .u32 (.ofNat 100))) 1660120 y12 (.lit (.int .u32 (.ofNat 100))) fun x144_53 =>
  subK Tryz.prog 3 (.tmp 146) (.const (.int .i64 (.ofNat 1))) 1660124 y4 (.lit (.int .i64 (.ofNat 1))) fun x147_54 =>
  subK Tryz.prog 3 (.tmp 149) (.const (.int .i64 (.ofNat 2))) 1660127 y4 (.lit (.int .i64 (.ofNat 2))) fun x150_55 =>
  bin0 Tryz.prog .add 69 (.tmp 151) (.const (.int .u32 (.ofNat 1))) 1660129 x142_52 (.lit (.int .u32 (.ofNat 1))) fun x152_56 =>
  ixK 1660130 (.lit (.string ⟨⟨[48, 48, 48, 49, 48, 50, 48, 51, 48, 52, 48, 53, 48, 54, 48, 55, 48, 56, 48, 57, 49, 48, 49, 49, 49, 50, 49, 51, 49, 52, 49, 53, 49, 54, 49, 55, 49, 56, 49, 57, 50, 48, 50, 49, 50, 50, 50, 51, 50, 52, 50, 53, 50, 54, 50, 55, 50, 56, 50, 57, 51, 48, 51, 49, 51, 50, 51, 51, 51, 52, 51, 53, 51, 54, 51, 55, 51, 56, 51, 57, 52, 48, 52, 49, 52, 50, 52, 51, 52, 52, 52, 53, 52, 54, 52, 55, 52, 56, 52, 57, 53, 48, 53, 49, 53, 50, 53, 51, 53, 52, 53, 53, 53, 54, 53, 55, 53, 56, 53, 57, 54, 48, 54, 49, 54, 50, 54, 51, 54, 52, 54, 53, 54, 54, 54, 55, 54, 56, 54, 57, 55, 48, 55, 49, 55, 50, 55, 51, 55, 52, 55, 53, 55, 54, 55, 55, 55, 56, 55, 57, 56, 48, 56, 49, 56, 50, 56, 51, 56, 52, 56, 53, 56, 54, 56, 55, 56, 56, 56, 57, 57, 48, 57, 49, 57, 50, 57, 51, 57, 52, 57, 53, 57, 54, 57, 55, 57, 56, 57, 57]⟩⟩)) x152_56 fun x153_57 =>
  ixK 1660132 (.lit (.string ⟨⟨[48, 48, 48, 49, 48, 50, 48, 51, 48, 52, 48, 53, 48, 54, 48, 55, 48, 56, 48, 57, 49, 48, 49, 49, 49, 50, 49, 51, 49, 52, 49, 53, 49, 54, 49, 55, 49, 56, 49, 57, 50, 48, 50, 49, 50, 50, 50, 51, 50, 52, 50, 53, 50, 54, 50, 55, 50, 56, 50, 57, 51, 48, 51, 49, 51, 50, 51, 51, 51, 52, 51, 53, 51, 54, 51, 55, 51, 56, 51, 57, 52, 48, 52, 49, 52, 50, 52, 51, 52, 52, 52, 53, 52, 54, 52, 55, 52, 56, 52, 57, 53, 48, 53, 49, 53, 50, 53, 51, 53, 52, 53, 53, 53, 54, 53, 55, 53, 56, 53, 57, 54, 48, 54, 49, 54, 50, 54, 51, 54, 52, 54, 53, 54, 54, 54, 55, 54, 56, 54, 57, 55, 48, 55, 49, 55, 50, 55, 51, 55, 52, 55, 53, 55, 54, 55, 55, 55, 56, 55, 57, 56, 48, 56, 49, 56, 50, 56, 51, 56, 52, 56, 53, 56, 54, 56, 55, 56, 56, 56, 57, 57, 48, 57, 49, 57, 50, 57, 51, 57, 52, 57, 53, 57, 54, 57, 55, 57, 56, 57, 57]⟩⟩)) x142_52 fun x155_58 =>
  iaK 1660133 y0 x147_54 1 fun x156_59 =>
  stK 1660134 T10 x156_59 x153_57 fun T13 =>
  iaK 1660135 y0 x150_55 1 fun x157_60 =>
  stK 1660136 T13 x157_60 x155_58 fun T14 =>
  subK Tryz.prog 3 (.tmp 158) (.const (.int .i64 (.ofNat 2))) 1660138 y4 (.lit (.int .i64 (.ofNat 2))) fun x159_61 =>
  g166_k3 ro y0 x159_61 x144_53 T14 n10
 )
 (
  g166_k3 ro y0 y4 y12 T10 n10
 )
noncomputable def g166_b1 (ro : List HT) (lp1 : AV → AV → AV → HT → Nat → R) (y0 y1 y4 : AV) (T1 : HT) (n1 : Nat) : R :=
 geK Tryz.prog 3 (.tmp 19) (.const (.int .i64 (.ofNat 8))) 1660006 y4 (.lit (.int .i64 (.ofNat 8))) fun x20_2 =>
 condK 1660007 x20_2
 (
  bin0 Tryz.prog .rem 68 (.tmp 21) (.const (.int .u64 (.ofNat 100000000))) 1660009 y1 (.lit (.int .u64 (.ofNat 100000000))) fun x22_3 =>
  optK 1660010 (convV Tryz.prog 68 69 x22_3) fun x23_4 =>
  bin0 Tryz.prog .quo 68 (.tmp 24) (.const (.int .u64 (.ofNat 100000000))) 1660013 y1 (.lit (.int .u64 (.ofNat 100000000))) fun x25_5 =>
  bin0 Tryz.prog .quo 69 (.tmp 26) (.const (.int .u32 (.ofNat 10000))) 1660016 x23_4 (.lit (.int .u32 (.ofNat 10000))) fun x27_6 =>
  bin0 Tryz.prog .rem 69 (.tmp 28) (.const (.int .u32 (.ofNat 10000))) 1660018 x23_4 (.lit (.int .u32 (.ofNat 10000))) fun x29_7 =>
  bin0 Tryz.prog .quo 69 (.tmp 30) (.const (.int .u32 (.ofNat 100))) 1660022 x29_7 (.lit (.int .u32 (.ofNat 100))) fun x31_8 =>
  bin0 Tryz.prog .mul 69 (.tmp 31) (.const (.int .u32 (.ofNat 2))) 1660023 x31_8 (.lit (.int .u32 (.ofNat 2))) fun x32_9 =>
  bin0 Tryz.prog .rem 69 (.tmp 33) (.const (.int .u32 (.ofNat 100))) 1660025 x29_7 (.lit (.int .u32 (.ofNat 100))) fun x34_10 =>
  bin0 Tryz.prog .mul 69 (.tmp 34) (.const (.int .u32 (.ofNat 2))) 1660026 x34_10 (.lit (.int .u32 (.ofNat 2))) fun x35_11 =>
  bin0 Tryz.prog .quo 69 (.tmp 36) (.const (.int .u32 (.ofNat 100))) 1660030 x27_6 (.lit (.int .u32 (.ofNat 100))) fun x37_12 =>
  bin0 Tryz.prog .mul 69 (.tmp 37) (.const (.int .u32 (.ofNat 2))) 1660031 x37_12 (.lit (.int .u32 (.ofNat 2))) fun x38_13 =>
  bin0 Tryz.prog .rem 69 (.tmp 39) (.const (.int .u32 (.ofNat 100))) 1660033 x27_6 (.lit (.int .u32 (.ofNat 100))) fun x40_14 =>
  bin0 Tryz.prog .mul 69 (.tmp 40) (.const (.int .u32 (.ofNat 2))) 1660034 x40_14 (.lit (.int .u32 (.ofNat 2))) fun x41_15 =>
  subK Tryz.prog 3 (.tmp 43) (.const (.int .i64 (.ofNat 1))) 1660039 y4 (.lit (.int .i64 (.ofNat 1))) fun x44_16 =>
  subK Tryz.prog 3 (.tmp 46) (.const (.int .i64 (.ofNat 2))) 1660042 y4 (.lit (.int .i64 (.ofNat 2))) fun x47_17 =>
  bin0 Tryz.prog .add 69 (.tmp 48) (.const (.int .u32 (.ofNat 1))) 1660044 x35_11 (.lit (.int .u32 (.ofNat 1))) fun x49_18 =>
  ixK 1660045 (.lit (.string ⟨⟨[48, 48, 48, 49, 48, 50, 48, 51, 48, 52, 48, 53, 48, 54, 48, 55, 48, 56, 48, 57, 49, 48, 49, 49, 49, 50, 49, 51, 49, 52, 49, 53, 49, 54, 49, 55, 49, 56, 49, 57, 50, 48, 50, 49, 50, 50, 50, 51, 50, 52, 50, 53, 50, 54, 50, 55, 50, 56, 50, 57, 51, 48, 51, 49, 51, 50, 51, 51, 51, 52, 51, 53, 51, 54, 51, 55, 51, 56, 51, 57, 52, 48, 52, 49, 52, 50, 52, 51, 52, 52, 52, 53, 52, 54, 52, 55, 52, 56, 52, 57, 53, 48, 53, 49, 53, 50, 53, 51, 53, 52, 53, 53, 53, 54, 53, 55, 53, 56, 53, 57, 54, 48, 54, 49, 54, 50, 54, 51, 54, 52, 54, 53, 54, 54, 54, 55, 54, 56, 54, 57, 55, 48, 55, 49, 55, 50, 55, 51, 55, 52, 55, 53, 55, 54, 55, 55, 55, 56, 55, 57, 56, 48, 56, 49, 56, 50, 56, 51, 56, 52, 56, 53, 56, 54, 56, 55, 56, 56, 56, 57, 57, 48, 57, 49, 57, 50, 57, 51, 57, 52, 57, 53, 57, 54, 57, 55, 57, 56, 57, 57]⟩⟩)) x49_18 fun x50_19 =>
  ixK 1660047 (.lit (.string ⟨⟨[48, 48, 48, 49, 48, 50, 48, 51, 48, 52, 48, 53, 48, 54, 48, 55, 48, 56, 48, 57, 49, 48, 49, 49, 49, 50, 49, 51, 49, 52, 49, 53, 49, 54, 49, 55, 49, 56, 49, 57, 50, 48, 50, 49, 50, 50, 50, 51, 50, 52, 50, 53, 50, 54, 50, 55, 50, 56, 50, 57, 51, 48, 51, 49, 51, 50, 51, 51, 51, 52, 51, 53, 51, 54, 51, 55, 51, 56, 51, 57, 52, 48, 52, 49, 52, 50, 52, 51, 52, 52, 52, 53, 52, 54, 52, 55, 52, 56, 52, 57, 53, 48, 53, 49, 53, 50, 53, 51, 53, 52, 53, 53, 53, 54, 53, 55, 53, 56, 53, 57, 54, 48, 54, 49, 54, 50, 54, 51, 54, 52, 54, 53, 54, 54, 54, 55, 54, 56, 54, 57, 55, 48, 55, 49, 55, 50, 55, 51, 55, 52, 55, 53, 55, 54, 55, 55, 55, 56, 55, 57, 56, 48, 56, 49, 56, 50, 56, 51, 56, 52, 56, 53, 56, 54, 56, 55, 56, 56, 56, 57, 57, 48, 57, 49, 57, 50, 57, 51, 57, 52, 57, 53, 57, 54, 57, 55, 57, 56, 57, 57]⟩⟩)) x35_11 fun x52_20 =>
  iaK 1660048 y0 x44_16 1 fun x53_21 =>
  stK 1660049 T1 x53_21 x50_19 fun T2 =>
  iaK 1660050 y0 x47_17 1 fun x54_22 =>
  stK 1660051 T2 x54_22 x52_20 fun T3 =>
  subK Tryz.prog 3 (.tmp 56) (.const (.int .i64 (.ofNat 3))) 1660054 y4 (.lit (.int .i64 (.ofNat 3))) fun x57_23 =>
  subK Tryz.prog 3 (.tmp 59) (.const (.int .i64 (.ofNat 4))) 1660057 y4 (.lit (.int .i64 (.ofNat 4))) fun x60_24 =>
  bin0 Tryz.prog .add 69 (.tmp 61) (.const (.int .u32 (.ofNat 1))) 1660059 x32_9 (.lit (.int .u32 (.ofNat 1))) fun x62_25 =>
  ixK 1660060 (.lit (.string ⟨⟨[48, 48, 48, 49, 48, 50, 48, 51, 48, 52, 48, 53, 48, 54, 48, 55, 48, 56, 48, 57, 49, 48, 49, 49, 49, 50, 49, 51, 49, 52, 49, 53, 49, 54, 49, 55, 49, 56, 49, 57, 50, 48, 50, 49, 50, 50, 50, 51, 50, 52, 50, 53, 50, 54, 50, 55, 50, 56, 50, 57, 51, 48, 51, 49, 51, 50, 51, 51, 51, 52, 51, 53, 51, 54, 51, 55, 51, 56, 51, 57, 52, 48, 52, 49, 52, 50, 52, 51, 52, 52, 52, 53, 52, 54, 52, 55, 52, 56, 52, 57, 53, 48, 53, 49, 53, 50, 53, 51, 53, 52, 53, 53, 53, 54, 53, 55, 53, 56, 53, 57, 54, 48, 54, 49, 54, 50, 54, 51, 54, 52, 54, 53, 54, 54, 54, 55, 54, 56, 54, 57, 55, 48, 55, 49, 55, 50, 55, 51, 55, 52, 55, 53, 55, 54, 55, 55, 55, 56, 55, 57, 56, 48, 56, 49, 56, 50, 56, 51, 56, 52, 56, 53, 56, 54, 56, 55, 56, 56, 56, 57, 57, 48, 57, 49, 57, 50, 57, 51, 57, 52, 57, 53, 57, 54, 57, 55, 57, 56, 57, 57]⟩⟩)) x62_25 fun x63_26 =>
  ixK 1660062 (.lit (.string ⟨⟨[48, 48, 48, 49, 48, 50, 48, 51, 48, 52, 48, 53, 48, 54, 48, 55, 48, 56, 48, 57, 49, 48, 49, 49, 49, 50, 49, 51, 49, 52, 49, 53, 49, 54, 49, 55, 49, 56, 49, 57, 50, 48, 50, 49, 50, 50, 50, 51, 50, 52, 50, 53, 50, 54, 50, 55, 50, 56, 50, 57, 51, 48, 51, 49, 51, 50, 51, 51, 51, 52, 51, 53, 51, 54, 51, 55, 51, 56, 51, 57, 52, 48, 52, 49, 52, 50, 52, 51, 52, 52, 52, 53, 52, 54, 52, 55, 52, 56, 52, 57, 53, 48, 53, 49, 53, 50, 53, 51, 53, 52, 53, 53, 53, 54, 53, 55, 53, 56, 53, 57, 54, 48, 54, 49, 54, 50, 54, 51, 54, 52, 54, 53, 54, 54, 54, 55, 54, 56, 54, 57, 55, 48, 55, 49, 55, 50, 55, 51, 55, 52, 55, 53, 55, 54, 55, 55, 55, 56, 55, 57, 56, 48, 56, 49, 56, 50, 56, 51, 56, 52, 56, 53, 56, 54, 56, 55, 56, 56, 56, 57, 57, 48, 57, 49, 57, 50, 57, 51, 57, 52, 57, 53, 57, 54, 57, 55, 57, 56, 57, 57]⟩⟩)) x32_9 fun x65_27 =>
  iaK 1660063 y0 x57_23 1 fun x66_28 =>
  stK 1660064 T3 x66_28 x63_26 fun T4 =>
  iaK 1660065 y0 x60_24 1 fun x67_29 =>
  stK 1660066 T4 x67_29 x65_27 fun T5 =>
  subK Tryz.prog 3 (.tmp 69) (.const (.int .i64 (.ofNat 5))) 1660069 y4 (.lit (.int .i64 (.ofNat 5))) fun x70_30 =>
  subK Tryz.prog 3 (.tmp 72) (.const (.int .i64 (.ofNat 6))) 1660072 y4 (.lit (.int .i64 (.ofNat 6))) fun x73_31 =>
  bin0 Tryz.prog .add 69 (.tmp 74) (.const (.int .u32 (.ofNat 1))) 1660074 x41_15 (.lit (.int .u32 (.ofNat 1))) fun x75_32 =>
  ixK 1660075 (.lit (.string ⟨⟨[48, 48, 48, 49, 48, 50, 48, 51, 48, 52, 48, 53, 48, 54, 48, 55, 48, 56, 48, 57, 49, 48, 49, 49, 49, 50, 49, 51, 49, 52, 49, 53, 49, 54, 49, 55, 49, 56, 49, 57, 50, 48, 50, 49, 50, 50, 50, 51, 50, 52, 50, 53, 50, 54, 50, 55, 50, 56, 50, 57, 51, 48, 51, 49, 51, 50, 51, 51, 51, 52, 51, 53, 51, 54, 51, 55, 51, 56, 51, 57, 52, 48, 52, 49, 52, 50, 52, 51, 52, 52, 52, 53, 52, 54, 52, 55, 52, 56, 52, 57, 53, 48, 53, 49, 53, 50, 53, 51, 53, 52, 53, 53, 53, 54, 53, 55, 53, 56, 53, 57, 54, 48, 54, 49, 54, 50, 54, 51, 54, 52, 54, 53, 54, 54, 54, 55, 54, 56, 54, 57, 55, 48, 55, 49, 55, 50, 55, 51, 55, 52, 55, 53, 55, 54, 55, 55, 55, 56, 55, 57, 56, 48, 56, 49, 56, 50, 56, 51, 56, 52, 56, 53, 56, 54, 56, 55, 56, 56, 56, 57, 57, 48, 57, 49, 57, 50, 57, 51, 57, 52, 57, 53, 57, 54, 57, 55, 57, 56, 57, 57]⟩⟩)) x75_32 fun x76_33 =>
  ixK 1660077 (.lit (.string ⟨⟨[48, 48, 48, 49, 48, 50, 48, 51, 48, 52, 48, 53, 48, 54, 48, 55, 48, 56, 48, 57, 49, 48, 49, 49, 49, 50, 49, 51, 49, 52, 49, 53, 49, 54, 49, 55, 49, 56, 49, 57, 50, 48, 50, 49, 50, 50, 50, 51, 50, 52, 50, 53, 50, 54, 50, 55, 50, 56, 50, 57, 51, 48, 51, 49, 51, 50, 51, 51, 51, 52, 51, 53, 51, 54, 51, 55, 51, 56, 51, 57, 52, 48, 52, 49, 52, 50, 52, 51, 52, 52, 52, 53, 52, 54, 52, 55, 52, 56, 52, 57, 53, 48, 53, 49, 53, 50, 53, 51, 53, 52, 53, 53, 53, 54, 53, 55, 53, 56, 53, 57, 54, 48, 54, 49, 54, 50, 54, 51, 54, 52, 54, 53, 54, 54, 54, 55, 54, 56, 54, 57, 55, 48, 55, 49, 55, 50, 55, 51, 55, 52, 55, 53, 55, 54, 55, 55, 55, 56, 55, 57, 56, 48, 56, 49, 56, 50, 56, 51, 56, 52, 56, 53, 56, 54, 56, 55, 56, 56, 56, 57, 57, 48, 57, 49, 57, 50, 57, 51, 57, 52, 57, 53, 57, 54, 57, 55, 57, 56, 57, 57]⟩⟩)) x41_15 fun x78_34 =>
  iaK 1660078 y0 x70_30 1 fun x79_35 =>
  stK 1660079 T5 x79_35 x76_33 fun T6 =>
  iaK 1660080 y0 x73_31 1 fun x80_36 =>
  stK 1660081 T6 x80_36 x78_34 fun T7 =>
  subK Tryz.prog 3 (.tmp 82) (.const (.int .i64 (.ofNat 7))) 1660084 y4 (.lit (.int .i64 (.ofNat 7))) fun x83_37 =>
  subK Tryz.prog 3 (.tmp 85) (.const (.int .i64 (.ofNat 8))) 1660087 y4 (.lit (.int .i64 (.ofNat 8))) fun x86_38 =>
  bin0 Tryz.prog .add 69 (.tmp 87) (.const (.int .u32 (.ofNat 1))) 1660089 x38_13 (.lit (.int .u32 (.ofNat 1))) fun x88_39 =>
  ixK 1660090 (.lit (.string ⟨⟨[48, 48, 48, 49, 48, 50, 48, 51, 48, 52, 48, 53, 48, 54, 48, 55, 48, 56, 48, 57, 49, 48, 49, 49, 49, 50, 49, 51, 49, 52, 49, 53, 49, 54, 49, 55, 49, 56, 49, 57, 50, 48, 50, 49, 50, 50, 50, 51, 50, 52, 50, 53, 50, 54, 50, 55, 50, 56, 50, 57, 51, 48, 51, 49, 51, 50, 51, 51, 51, 52, 51, 53, 51, 54, 51, 55, 51, 56, 51, 57, 52, 48, 52, 49, 52, 50, 52, 51, 52, 52, 52, 53, 52, 54, 52, 55, 52, 56, 52, 57, 53, 48, 53, 49, 53, 50, 53, 51, 53, 52, 53, 53, 53, 54, 53, 55, 53, 56, 53, 57, 54, 48, 54, 49, 54, 50, 54, 51, 54, 52, 54, 53, 54, 54, 54, 55, 54, 56, 54, 57, 55, 48, 55, 49, 55, 50, 55, 51, 55, 52, 55, 53, 55, 54, 55, 55, 55, 56, 55, 57, 56, 48, 56, 49, 56, 50, 56, 51, 56, 52, 56, 53, 56, 54, 56, 55, 56, 56, 56, 57, 57, 48, 57, 49, 57, 50, 57, 51, 57, 52, 57, 53, 57, 54, 57, 55, 57, 56, 57, 57]⟩⟩)) x88_39 fun x89_40 =>
  ixK 1660092 (.lit (.string ⟨⟨[48, 48, 48, 49, 48, 50, 48, 51, 48, 52, 48, 53, 48, 54, 48, 55, 48, 56, 48, 57, 49, 48, 49, 49, 49, 50, 49, 51, 49, 52, 49, 53, 49, 54, 49, 55, 49, 56, 49, 57, 50, 48, 50, 49, 50, 50, 50, 51, 50, 52, 50, 53, 50, 54, 50, 55, 50, 56, 50, 57, 51, 48, 51, 49, 51, 50, 51, 51, 51, 52, 51, 53, 51, 54, 51, 55, 51, 56, 51, 57, 52, 48, 52, 49, 52, 50, 52, 51, 52, 52, 52, 53, 52, 54, 52, 55, 52, 56, 52, 57, 53, 48, 53, 49, 53, 50, 53, 51, 53, 52, 53, 53, 53, 54, 53, 55, 53, 56, 53, 57, 54, 48, 54, 49, 54, 50, 54, 51, 54, 52, 54, 53, 54, 54, 54, 55, 54, 56, 54, 57, 55, 48, 55, 49, 55, 50, 55, 51, 55, 52, 55, 53, 55, 54, 55, 55, 55, 56, 55, 57, 56, 48, 56, 49, 56, 50, 56, 51, 56, 52, 56, 53, 56, 54, 56, 55, 56, 56, 56, 57, 57, 48, 57, 49, 57, 50, 57, 51, 57, 52, 57, 53, 57, 54, 57, 55, 57, 56, 57, 57]⟩⟩)) x38_13 fun x91_41 =>
  iaK 1660093 y0 x83_37 1 fun x92_42 =>
  stK 1660094 T7 x92_42 x89_40 fun T8 =>
  iaK 1660095 y0 x86_38 1 fun x93_43 =>
  stK 1660096 T8 x93_43 x91_41 fun T9 =>
  subK Tryz.prog 3 (.tmp 94) (.const (.int .i64 (.ofNat 8))) 1660098 y4 (.lit (.int .i64 (.ofNat 8))) fun x95_44 =>
  lp1 y0 x25_5 x95_44 T9 n1
 )
 (
  optK 1660101 (convV Tryz.prog 68 69 y1) fun x97_45 =>
  geK Tryz.prog 3 (.tmp 98) (.const (.int .i64 (.ofNat 4))) 1660141 y4 (.lit (.int .i64 (.ofNat 4))) fun x99_62 =>
  condK 1660142 x99_62
  (
   bin0 Tryz.prog .rem 69 (.tmp 100) (.const (.int .u32 (.ofNat 10000))) 1660144 x97_45 (.lit (.int .u32 (.ofNat 10000))) fun x101_63 =>
   bin0 Tryz.prog .quo 69 (.tmp 102) (.const (.int .u32 (.ofNat 10000))) 1660147 x97_45 (.lit (.int .u32 (.ofNat 10000))) fun x103_64 =>
   bin0 Tryz.prog .quo 69 (.tmp 104) (.const (.int .u32 (.ofNat 100))) 1660150 x101_63 (.lit (.int .u32 (.ofNat 100))) fun x105_65 =>
   bin0 Tryz.prog .mul 69 (.tmp 105) (.const (.int .u32 (.ofNat 2))) 1660151 x105_65 (.lit (.int .u32 (.ofNat 2))) fun x106_66 =>
   bin0 Tryz.prog .rem 69 (.tmp 107) (.const (.int .u32 (.ofNat 100))) 1660153 x101_63 (.lit (.int .u32 (.ofNat 100))) fun x108_67 =>
   bin0 Tryz.prog .mul 69 (.tmp 108) (.const (.int .u32 (.ofNat 2))) 1660154 x108_67 (.lit (.int .u32 (.ofNat 2))) fun x109_68 =>
   subK Tryz.prog 3 (.tmp 111) (.const (.int .i64 (.ofNat 1))) 1660159 y4 (.lit (.int .i64 (.ofNat 1))) fun x112_69 =>
   subK Tryz.prog 3 (.tmp 114) (.const (.int .i64 (.ofNat 2))) 1660162 y4 (.lit (.int .i64 (.ofNat 2))) fun x115_70 =>
   bin0 Tryz.prog .add 69 (.tmp 116) (.const (.int .u32 (.ofNat 1))) 1660164 x109_68 (.lit (.int .u32 (.ofNat 1))) fun x117_71 =>
   ixK 1660165 (.lit (.string ⟨⟨[48, 48, 48, 49, 48, 50, 48, 51, 48, 52, 48, 53, 48, 54, 48, 55, 48, 56, 48, 57, 49, 48, 49, 49, 49, 50, 49, 51, 49, 52, 49, 53, 49, 54, 49, 55, 49, 56, 49, 57, 50, 48, 50, 49, 50, 50, 50, 51, 50, 52, 50, 53, 50, 54, 50, 55, 50, 56, 50, 57, 51, 48, 51, 49, 51, 50, 51, 51, 51, 52, 51, 53, 51, 54, 51, 55, 51, 56, 51, 57, 52, 48, 52, 49, 52, 50, 52, 51, 52, 52, 52, 53, 52, 54, 52, 55, 52, 56, 52, 57, 53, 48, 53, 49, 53, 50, 53, 51, 53, 52, 53, 53, 53, 54, 53, 55, 53, 56, 53, 57, 54, 48, 54, 49, 54, 50, 54, 51, 54, 52, 54, 53, 54, 54, 54, 55, 54, 56, 54, 57, 55, 48, 55, 49, 55, 50, 55, 51, 55, 52, 55, 53, 55, 54, 55, 55, 55, 56, 55, 57, 56, 48, 56, 49, 56, 50, 56, 51, 56, 52, 56, 53, 56, 54, 56, 55, 56, 56, 56, 57, 57, 48, 57, 49, 57, 50, 57, 51, 57, 52, 57, 53, 57, 54, 57, 55, 57, 56, 57, 57]⟩⟩)) x117_71 fun x118_72 =>
   ixK 1660167 (.lit (.string ⟨⟨[48, 48, 48, 49, 48, 50, 48, 51, 48, 52, 48, 53, 48, 54, 48, 55, 48, 56, 48, 57, 49, 48, 49, 49, 49, 50, 49, 51, 49, 52, 49, 53, 49, 54, 49, 55, 49, 56, 49, 57, 50, 48, 50, 49, 50, 50, 50, 51, 50, 52, 50, 53, 50, 54, 50, 55, 50, 56, 50, 57, 51, 48, 51, 49, 51, 50, 51, 51, 51, 52, 51, 53, 51, 54, 51, 55, 51, 56, 51, 57, 52, 48, 52, 49, 52, 50, 52, 51, 52, 52, 52, 53, 52, 54, 52, 55, 52, 56, 52, 57, 53, 48, 53, 49, 53, 50, 53, 51, 53, 52, 53, 53, 53, 54, 53, 55, 53, 56, 53, 57, 54, 48, 54, 49, 54, 50, 54, 51, 54, 52, 54, 53, 54, 54, 54, 55, 54, 56, 54, 57, 55, 48, 55, 49, 55, 50, 55, 51, 55, 52, 55, 53, 55, 54, 55, 55, 55, 56, 55, 57, 56, 48, 56, 49, 56, 50, 56, 51, 56, 52, 56, 53, 56, 54, 56, 55, 56, 56, 56, 57, 57, 48, 57, 49, 57, 50, 57, 51, 57, 52, 57, 53, 57, 54, 57, 55, 57, 56, 57, 57]⟩⟩)) x109_68 fun x120_73 =>
   iaK 1660168 y0 x112_69 1 fun x121_74 =>
   stK 1660169 T1 x121_74 x118_72 fun T15 =>
   iaK 1660170 y0 x115_70 1 fun x122_75 =>
   stK 1660171 T15 x122_75 x120_73 fun T16 =>
   subK Tryz.prog 3 (.tmp 124) (.const (.int .i64 (.ofNat 3))) 1660174 y4 (.lit (.int .i64 (.ofNat 3))) fun x125_76 =>
   subK Tryz.prog 3 (.tmp 127) (.const (.int .i64 (.ofNat 4))) 1660177 y4 (.lit (.int .i64 (.ofNat 4))) fun x128_77 =>
   bin0 Tryz.prog .add 69 (.tmp 129) (.const (.int .u32 (.ofNat 1))) 1660179 x106_66 (.lit (.int .u32 (.ofNat 1))) fun x130_78 =>
   ixK 1660180 (.lit (.string ⟨⟨[48, 48, 48, 49, 48, 50, 48, 51, 48, 52, 48, 53, 48, 54, 48, 55, 48, 56, 48, 57, 49, 48, 49, 49, 49, 50, 49, 51, 49, 52, 49, 53, 49, 54, 49, 55, 49, 56, 49, 57, 50, 48, 50, 49, 50, 50, 50, 51, 50, 52, 50, 53, 50, 54, 50, 55, 50, 56, 50, 57, 51, 48, 51, 49, 51, 50, 51, 51, 51, 52, 51, 53, 51, 54, 51, 55, 51, 56, 51, 57, 52, 48, 52, 49, 52, 50, 52, 51, 52, 52, 52, 53, 52, 54, 52, 55, 52, 56, 52, 57, 53, 48, 53, 49, 53, 50, 53, 51, 53, 52, 53, 53, 53, 54, 53, 55, 53, 56, 53, 57, 54, 48, 54, 49, 54, 50, 54, 51, 54, 52, 54, 53, 54, 54, 54, 55, 54, 56, 54, 57, 55, 48, 55, 49, 55, 50, 55, 51, 55, 52, 55, 53, 55, 54, 55, 55, 55, 56, 55, 57, 56, 48, 56, 49, 56, 50, 56, 51, 56, 52, 56, 53, 56, 54, 56, 55, 56, 56, 56, 57, 57, 48, 57, 49, 57, 50, 57, 51, 57, 52, 57, 53, 57, 54, 57, 55, 57, 56, 57, 57]⟩⟩)) x130_78 fun x131_79 =>
   ixK 1660182 (.lit (.string ⟨⟨[48, 48, 48, 49, 48, 50, 48, 51, 48, 52, 48, 53, 48, 54, 48, 55, 48, 56, 48, 57, 49, 48, 49, 49, 49, 50, 49, 51, 49, 52, 49, 53, 49, 54, 49, 55, 49, 56, 49, 57, 50, 48, 50, 49, 50, 50, 50, 51, 50, 52, 50, 53, 50, 54, 50, 55, 50, 56, 50, 57, 51, 48, 51, 49, 51, 50, 51, 51, 51, 52, 51, 53, 51, 54, 51, 55, 51, 56, 51, 57, 52, 48, 52, 49, 52, 50, 52, 51, 52, 52, 52, 53, 52, 54, 52, 55, 52, 56, 52, 57, 53, 48, 53, 49, 53, 50, 53, 51, 53, 52, 53, 53, 53, 54, 53, 55, 53, 56, 53, 57, 54, 48, 54, 49, 54, 50, 54, 51, 54, 52, 54, 53, 54, 54, 54, 55, 54, 56, 54, 57, 55, 48, 55, 49, 55, 50, 55, 51, 55, 52, 55, 53, 55, 54, 55, 55, 55, 56, 55, 57, 56, 48, 56, 49, 56, 50, 56, 51, 56, 52, 56, 53, 56, 54, 56, 55, 56, 56, 56, 57, 57, 48, 57, 49, 57, 50, 57, 51, 57, 52, 57, 53, 57, 54, 57, 55, 57, 56, 57, 57]⟩⟩)) x106_66 fun x133_80 =>
   iaK 1660183 y0 x125_76 1 fun x134_81 =>
   stK 1660184 T16 x134_81 x131_79 fun T17 =>
   iaK 1660185 y0 x128_77 1 fun x135_82 =>
   stK 1660186 T17 x135_82 x133_80 fun T18 =>
   subK Tryz.prog 3 (.tmp 136) (.const (.int .i64 (.ofNat 4))) 1660188 y4 (.lit (.int .i64 (.ofNat 4))) fun x137_83 =>
   g166_k2 ro y0 x137_83 x103_64 T18 n1
  )
  (
   g166_k2 ro y0 y4 x97_45 T1 n1
  )
 )
noncomputable def g166 (ro : List HT) (a0 a1 : AV) (T : HT) (nx : Nat) : R :=
 lenSK 1660002 a0 fun x18_1 =>
 lpf3 1660004 (g166_b1 ro) 100000 a0 a1 x18_1 T nx
theorem g166_ok (ro : List HT) (a0 a1 : AV) (T : HT) (nx : Nat) : GOk Tryz.prog envE 166 [a0, a1] ro T nx (g166 ro a0 a1 T nx) := by
 refine GOk.of_body Tryz.func166 rfl Tryz.ntmps166 (by kernel_rfl) rfl fun r T' n' h1 w0 base ρ0 its hS hP => ?_
 have X : CtxW envE ρ0 ro r T' n' := trivial
 unfold g166 at h1
 refine sr ?_
 refine mv ?_
 refine vy (V.lenS h1 rfl Vdf.ls79) fun x18_1 h2 => ?_
 refine as_ ?_
 refine dn ?_
 refine CV.seq ?_
 refine CV.block ?_
 refine cl3 X 0 1 4 [] hS h2 ⟨rfl, rfl, rfl, trivial⟩ ?_
 intro f1 y0 y1 y4 T1 n1 ρ its hS h3
 unfold g166_b1 at h3
 clear h1 h2
 refine CV.seq ?_
 refine sr ?_
 refine mv ?_
 refine vy (V.ge h3 rfl rfl) fun x20_2 h4 => ?_
 refine dn ?_
 refine CV.cond h4 rfl (fun e h5 => ?_) (fun e h5 => ?_)
 ·
  clear h3 h4
  subst e
  refine CV.skip ?_
  refine PV.thenN ?_
  refine CV.block ?_
  refine sr ?_
  refine mv ?_
  refine vy (V.bin0 h5 rfl rfl) fun x22_3 h6 => ?_
  refine vy (V.conv h6 rfl) fun x23_4 h7 => ?_
  refine as_ ?_
  refine dn ?_
  refine sr ?_
  refine mv ?_
  refine vy (V.bin0 h7 rfl rfl) fun x25_5 h8 => ?_
  refine as_ ?_
  refine dn ?_
  refine sr ?_
  refine mv ?_
  refine vy (V.bin0 h8 rfl rfl) fun x27_6 h9 => ?_
  refine mv ?_
  refine vy (V.bin0 h9 rfl rfl) fun x29_7 h10 => ?_
  refine as_ ?_
  refine as_ ?_
  refine dn ?_
  refine sr ?_
  refine mv ?_
  refine vy (V.bin0 h10 rfl rfl) fun x31_8 h11 => ?_
  refine vy (V.bin0 h11 rfl rfl) fun x32_9 h12 => ?_
  refine mv ?_
  refine vy (V.bin0 h12 rfl rfl) fun x34_10 h13 => ?_
  refine vy (V.bin0 h13 rfl rfl) fun x35_11 h14 => ?_
  refine as_ ?_
  refine as_ ?_
  refine dn ?_
  refine sr ?_
  refine mv ?_
  refine vy (V.bin0 h14 rfl rfl) fun x37_12 h15 => ?_
  refine vy (V.bin0 h15 rfl rfl) fun x38_13 h16 => ?_
  refine mv ?_
  refine vy (V.bin0 h16 rfl rfl) fun x40_14 h17 => ?_
  refine vy (V.bin0 h17 rfl rfl) fun x41_15 h18 => ?_
  refine as_ ?_
  refine as_ ?_
  refine dn ?_
  refine CV.seq ?_
  refine CV.regionM [(0, .anywhere), (1, .anywhere), (2, .anywhere), (3, .anywhere), (4, .anywhere), (5, .anywhere), (6, .anywhere), (7, .anywhere), (8, .anywhere), (9, .anywhere), (10, .anywhere), (11, .anywhere), (12, .alone), (13, .alone), (14, .alone)] rfl (fun c a a' w hd hq => PanicOk.root (P := Tryz.prog) (fn := Tryz.f166) (w0 := w0) (base := base) (E := envE) (ro := ro) (r := r) (T' := T') (n' := n') (ρ0 := ρ0) c a a' w hd hq) (by kernel_rfl) ?_
  refine MV.step0 (i := 0) rfl (VAL.move rfl) rfl rfl rfl ?_
  refine MV.step0 (i := 1) rfl (VAL.move rfl) rfl rfl rfl ?_
  refine MV.lift0 (i := 2) rfl (V.sub h18 rfl rfl) rfl rfl rfl fun x44_16 h19 => ?_
  refine MV.step0 (i := 3) rfl (VAL.move rfl) rfl rfl rfl ?_
  refine MV.step0 (i := 4) rfl (VAL.move rfl) rfl rfl rfl ?_
  refine MV.lift0 (i := 5) rfl (V.sub h19 rfl rfl) rfl rfl rfl fun x47_17 h20 => ?_
  refine MV.step0 (i := 6) rfl (VAL.move rfl) rfl rfl rfl ?_
  refine MV.lift0 (i := 7) rfl (V.bin0 h20 rfl rfl) rfl rfl rfl fun x49_18 h21 => ?_
  refine MV.lift0 (i := 8) rfl (V.ix h21 rfl rfl Vdf.st9) rfl rfl rfl fun x50_19 h22 => ?_
  refine MV.step0 (i := 9) rfl (VAL.move rfl) rfl rfl rfl ?_
  refine MV.lift0 (i := 10) rfl (V.ix h22 rfl rfl Vdf.st9) rfl rfl rfl fun x52_20 h23 => ?_
  refine MV.lift0 (i := 11) rfl (V.ia h23 rfl rfl Vdf.el79) rfl rfl rfl fun x53_21 h24 => ?_
  refine MV.force (i := 12) rfl ?_
  refine LV.st hS h24 rfl rfl rfl Vdf.siz5 rfl rfl fun T2 its h25 hS => ?_
  refine LV.nextM [] (by kernel_rfl) (fun z => absurd rfl z) ?_
  refine MV.force (i := 13) rfl ?_
  refine vy (V.ia h25 rfl rfl Vdf.el79) fun x54_22 h26 => ?_
  refine LV.nextM [] (by kernel_rfl) (fun z => absurd rfl z) ?_
  refine MV.force (i := 14) rfl ?_
  refine LV.st hS h26 rfl rfl rfl Vdf.siz5 rfl rfl fun T3 its h27 hS => ?_
  refine LV.nextM [] (by kernel_rfl) (fun z => absurd rfl z) ?_
  refine mdn ?_
  refine CV.seq ?_
  refine CV.regionM [(0, .anywhere), (1, .anywhere), (2, .anywhere), (3, .anywhere), (4, .anywhere), (5, .anywhere), (6, .anywhere), (7, .anywhere), (8, .anywhere), (9, .anywhere), (10, .anywhere), (11, .anywhere), (12, .alone), (13, .alone), (14, .alone)] rfl (fun c a a' w hd hq => PanicOk.root (P := Tryz.prog) (fn := Tryz.f166) (w0 := w0) (base := base) (E := envE) (ro := ro) (r := r) (T' := T') (n' := n') (ρ0 := ρ0) c a a' w hd hq) (by kernel_rfl) ?_
  refine MV.step0 (i := 0) rfl (VAL.move rfl) rfl rfl rfl ?_
  refine MV.step0 (i := 1) rfl (VAL.move rfl) rfl rfl rfl ?_
  refine MV.lift0 (i := 2) rfl (V.sub h27 rfl rfl) rfl rfl rfl fun x57_23 h28 => ?_
  refine MV.step0 (i := 3) rfl (VAL.move rfl) rfl rfl rfl ?_
  refine MV.step0 (i := 4) rfl (VAL.move rfl) rfl rfl rfl ?_
  refine MV.lift0 (i := 5) rfl (V.sub h28 rfl rfl) rfl rfl rfl fun x60_24 h29 => ?_
  refine MV.step0 (i := 6) rfl (VAL.move rfl) rfl rfl rfl ?_
  refine MV.lift0 (i := 7) rfl (V.bin0 h29 rfl rfl) rfl rfl rfl fun x62_25 h30 => ?_
  refine MV.lift0 (i := 8) rfl (V.ix h30 rfl rfl Vdf.st9) rfl rfl rfl fun x63_26 h31 => ?_
  refine MV.step0 (i := 9) rfl (VAL.move rfl) rfl rfl rfl ?_
  refine MV.lift0 (i := 10) rfl (V.ix h31 rfl rfl Vdf.st9) rfl rfl rfl fun x65_27 h32 => ?_
  refine MV.lift0 (i := 11) rfl (V.ia h32 rfl rfl Vdf.el79) rfl rfl rfl fun x66_28 h33 => ?_
  refine MV.force (i := 12) rfl ?_
  refine LV.st hS h33 rfl rfl rfl Vdf.siz5 rfl rfl fun T4 its h34 hS => ?_
  refine LV.nextM [] (by kernel_rfl) (fun z => absurd rfl z) ?_
  refine MV.force (i := 13) rfl ?_
  refine vy (V.ia h34 rfl rfl Vdf.el79) fun x67_29 h35 => ?_
  refine LV.nextM [] (by kernel_rfl) (fun z => absurd rfl z) ?_
  refine MV.force (i := 14) rfl ?_
  refine LV.st hS h35 rfl rfl rfl Vdf.siz5 rfl rfl fun T5 its h36 hS => ?_
  refine LV.nextM [] (by kernel_rfl) (fun z => absurd rfl z) ?_
  refine mdn ?_
  refine CV.seq ?_
  refine CV.regionM [(0, .anywhere), (1, .anywhere), (2, .anywhere), (3, .anywhere), (4, .anywhere), (5, .anywhere), (6, .anywhere), (7, .anywhere), (8, .anywhere), (9, .anywhere), (10, .anywhere), (11, .anywhere), (12, .alone), (13, .alone), (14, .alone)] rfl (fun c a a' w hd hq => PanicOk.root (P := Tryz.prog) (fn := Tryz.f166) (w0 := w0) (base := base) (E := envE) (ro := ro) (r := r) (T' := T') (n' := n') (ρ0 := ρ0) c a a' w hd hq) (by kernel_rfl) ?_
  refine MV.step0 (i := 0) rfl (VAL.move rfl) rfl rfl rfl ?_
  refine MV.step0 (i := 1) rfl (VAL.move rfl) rfl rfl rfl ?_
  refine MV.lift0 (i := 2) rfl (V.sub h36 rfl rfl) rfl rfl rfl fun x70_30 h37 => ?_
  refine MV.step0 (i := 3) rfl (VAL.move rfl) rfl rfl rfl ?_
  refine MV.step0 (i := 4) rfl (VAL.move rfl) rfl rfl rfl ?_
  refine MV.lift0 (i := 5) rfl (V.sub h37 rfl rfl) rfl rfl rfl fun x73_31 h38 => ?_
  refine MV.step0 (i := 6) rfl (VAL.move rfl) rfl rfl rfl ?_
  refine MV.lift0 (i := 7) rfl (V.bin0 h38 rfl rfl) rfl rfl rfl fun x75_32 h39 => ?_
  refine MV.lift0 (i := 8) rfl (V.ix h39 rfl rfl Vdf.st9) rfl rfl rfl fun x76_33 h40 => ?_
  refine MV.step0 (i := 9) rfl (VAL.move rfl) rfl rfl rfl ?_
  refine MV.lift0 (i := 10) rfl (V.ix h40 rfl rfl Vdf.st9) rfl rfl rfl fun x78_34 h41 => ?_
  refine MV.lift0 (i := 11) rfl (V.ia h41 rfl rfl Vdf.el79) rfl rfl rfl fun x79_35 h42 => ?_
  refine MV.force (i := 12) rfl ?_
  refine LV.st hS h42 rfl rfl rfl Vdf.siz5 rfl rfl fun T6 its h43 hS => ?_
  refine LV.nextM [] (by kernel_rfl) (fun z => absurd rfl z) ?_
  refine MV.force (i := 13) rfl ?_
  refine vy (V.ia h43 rfl rfl Vdf.el79) fun x80_36 h44 => ?_
  refine LV.nextM [] (by kernel_rfl) (fun z => absurd rfl z) ?_
  refine MV.force (i := 14) rfl ?_
  refine LV.st hS h44 rfl rfl rfl Vdf.siz5 rfl rfl fun T7 its h45 hS => ?_
  refine LV.nextM [] (by kernel_rfl) (fun z => absurd rfl z) ?_
  refine mdn ?_
  refine CV.seq ?_
  refine CV.regionM [(0, .anywhere), (1, .anywhere), (2, .anywhere), (3, .anywhere), (4, .anywhere), (5, .anywhere), (6, .anywhere), (7, .anywhere), (8, .anywhere), (9, .anywhere), (10, .anywhere), (11, .anywhere), (12, .alone), (13, .alone), (14, .alone)] rfl (fun c a a' w hd hq => PanicOk.root (P := Tryz.prog) (fn := Tryz.f166) (w0 := w0) (base := base) (E := envE) (ro := ro) (r := r) (T' := T') (n' := n') (ρ0 := ρ0) c a a' w hd hq) (by kernel_rfl) ?_
  refine MV.step0 (i := 0) rfl (VAL.move rfl) rfl rfl rfl ?_
  refine MV.step0 (i := 1) rfl (VAL.move rfl) rfl rfl rfl ?_
  refine MV.lift0 (i := 2) rfl (V.sub h45 rfl rfl) rfl rfl rfl fun x83_37 h46 => ?_
  refine MV.step0 (i := 3) rfl (VAL.move rfl) rfl rfl rfl ?_
  refine MV.step0 (i := 4) rfl (VAL.move rfl) rfl rfl rfl ?_
  refine MV.lift0 (i := 5) rfl (V.sub h46 rfl rfl) rfl rfl rfl fun x86_38 h47 => ?_
  refine MV.step0 (i := 6) rfl (VAL.move rfl) rfl rfl rfl ?_
  refine MV.lift0 (i := 7) rfl (V.bin0 h47 rfl rfl) rfl rfl rfl fun x88_39 h48 => ?_
  refine MV.lift0 (i := 8) rfl (V.ix h48 rfl rfl Vdf.st9) rfl rfl rfl fun x89_40 h49 => ?_
  refine MV.step0 (i := 9) rfl (VAL.move rfl) rfl rfl rfl ?_
  refine MV.lift0 (i := 10) rfl (V.ix h49 rfl rfl Vdf.st9) rfl rfl rfl fun x91_41 h50 => ?_
  refine MV.lift0 (i := 11) rfl (V.ia h50 rfl rfl Vdf.el79) rfl rfl rfl fun x92_42 h51 => ?_
  refine MV.force (i := 12) rfl ?_
  refine LV.st hS h51 rfl rfl rfl Vdf.siz5 rfl rfl fun T8 its h52 hS => ?_
  refine LV.nextM [] (by kernel_rfl) (fun z => absurd rfl z) ?_
  refine MV.force (i := 13) rfl ?_
  refine vy (V.ia h52 rfl rfl Vdf.el79) fun x93_43 h53 => ?_
  refine LV.nextM [] (by kernel_rfl) (fun z => absurd rfl z) ?_
  refine MV.force (i := 14) rfl ?_
  refine LV.st hS h53 rfl rfl rfl Vdf.siz5 rfl rfl fun T9 its h54 hS => ?_
  refine LV.nextM [] (by kernel_rfl) (fun z => absurd rfl z) ?_
  refine mdn ?_
  refine CV.region ?_
  refine mv ?_
  refine vy (V.sub h54 rfl rfl) fun x95_44 h55 => ?_
  refine as_ ?_
  refine LV.done ?_
  refine PV.blockN ?_
  exact pb3 hS h55 ⟨rfl, rfl, rfl, trivial⟩
 ·
  clear h3 h4
  subst e
  refine CV.exit ?_
  refine PV.thenE ?_
  refine PV.thenE ?_
  refine PV.blockE ?_
  refine PV.thenN ?_
  refine sr ?_
  refine mv ?_
  refine vy (V.conv h5 rfl) fun x97_45 h56 => ?_
  refine as_ ?_
  refine dn ?_
  refine cs3 X 0 4 12 [] (g166_k2 ro) ?_ ?_
  ·
   refine sr ?_
   refine mv ?_
   refine vy (V.ge h56 rfl rfl) fun x99_62 h80 => ?_
   refine dn ?_
   refine CV.cond h80 rfl (fun e h81 => ?_) (fun e h81 => ?_)
   ·
    clear h5 h56 h80
    subst e
    refine sr ?_
    refine mv ?_
    refine vy (V.bin0 h81 rfl rfl) fun x101_63 h82 => ?_
    refine as_ ?_
    refine dn ?_
    refine sr ?_
    refine mv ?_
    refine vy (V.bin0 h82 rfl rfl) fun x103_64 h83 => ?_
    refine as_ ?_
    refine dn ?_
    refine sr ?_
    refine mv ?_
    refine vy (V.bin0 h83 rfl rfl) fun x105_65 h84 => ?_
    refine vy (V.bin0 h84 rfl rfl) fun x106_66 h85 => ?_
    refine mv ?_
    refine vy (V.bin0 h85 rfl rfl) fun x108_67 h86 => ?_
    refine vy (V.bin0 h86 rfl rfl) fun x109_68 h87 => ?_
    refine as_ ?_
    refine as_ ?_
    refine dn ?_
    refine CV.seq ?_
    refine CV.regionM [(0, .anywhere), (1, .anywhere), (2, .anywhere), (3, .anywhere), (4, .anywhere), (5, .anywhere), (6, .anywhere), (7, .anywhere), (8, .anywhere), (9, .anywhere), (10, .anywhere), (11, .anywhere), (12, .alone), (13, .alone), (14, .alone)] rfl (fun c a a' w hd hq => PanicOk.root (P := Tryz.prog) (fn := Tryz.f166) (w0 := w0) (base := base) (E := envE) (ro := ro) (r := r) (T' := T') (n' := n') (ρ0 := ρ0) c a a' w hd hq) (by kernel_rfl) ?_
    refine MV.step0 (i := 0) rfl (VAL.move rfl) rfl rfl rfl ?_
    refine MV.step0 (i := 1) rfl (VAL.move rfl) rfl rfl rfl ?_
    refine MV.lift0 (i := 2) rfl (V.sub h87 rfl rfl) rfl rfl rfl fun x112_69 h88 => ?_
    refine MV.step0 (i := 3) rfl (VAL.move rfl) rfl rfl rfl ?_
    refine MV.step0 (i := 4) rfl (VAL.move rfl) rfl rfl rfl ?_
    refine MV.lift0 (i := 5) rfl (V.sub h88 rfl rfl) rfl rfl rfl fun x115_70 h89 => ?_
    refine MV.step0 (i := 6) rfl (VAL.move rfl) rfl rfl rfl ?_
    refine MV.lift0 (i := 7) rfl (V.bin0 h89 rfl rfl) rfl rfl rfl fun x117_71 h90 => ?_
    refine MV.lift0 (i := 8) rfl (V.ix h90 rfl rfl Vdf.st9) rfl rfl rfl fun x118_72 h91 => ?_
    refine MV.step0 (i := 9) rfl (VAL.move rfl) rfl rfl rfl ?_
    refine MV.lift0 (i := 10) rfl (V.ix h91 rfl rfl Vdf.st9) rfl rfl rfl fun x120_73 h92 => ?_
    refine MV.lift0 (i := 11) rfl (V.ia h92 rfl rfl Vdf.el79) rfl rfl rfl fun x121_74 h93 => ?_
    refine MV.force (i := 12) rfl ?_
    refine LV.st hS h93 rfl rfl rfl Vdf.siz5 rfl rfl fun T15 its h94 hS => ?_
    refine LV.nextM [] (by kernel_rfl) (fun z => absurd rfl z) ?_
    refine MV.force (i := 13) rfl ?_
    refine vy (V.ia h94 rfl rfl Vdf.el79) fun x122_75 h95 => ?_
    refine LV.nextM [] (by kernel_rfl) (fun z => absurd rfl z) ?_
    refine MV.force (i := 14) rfl ?_
    refine LV.st hS h95 rfl rfl rfl Vdf.siz5 rfl rfl fun T16 its h96 hS => ?_
    refine LV.nextM [] (by kernel_rfl) (fun z => absurd rfl z) ?_
    refine mdn ?_
    refine CV.seq ?_
    refine CV.regionM [(0, .anywhere), (1, .anywhere), (2, .anywhere), (3, .anywhere), (4, .anywhere), (5, .anywhere), (6, .anywhere), (7, .anywhere), (8, .anywhere), (9, .anywhere), (10, .anywhere), (11, .anywhere), (12, .alone), (13, .alone), (14, .alone)] rfl (fun c a a' w hd hq => PanicOk.root (P := Tryz.prog) (fn := Tryz.f166) (w0 := w0) (base := base) (E := envE) (ro := ro) (r := r) (T' := T') (n' := n') (ρ0 := ρ0) c a a' w hd hq) (by kernel_rfl) ?_
    refine MV.step0 (i := 0) rfl (VAL.move rfl) rfl rfl rfl ?_
    refine MV.step0 (i := 1) rfl (VAL.move rfl) rfl rfl rfl ?_
    refine MV.lift0 (i := 2) rfl (V.sub h96 rfl rfl) rfl rfl rfl fun x125_76 h97 => ?_
    refine MV.step0 (i := 3) rfl (VAL.move rfl) rfl rfl rfl ?_
    refine MV.step0 (i := 4) rfl (VAL.move rfl) rfl rfl rfl ?_
    refine MV.lift0 (i := 5) rfl (V.sub h97 rfl rfl) rfl rfl rfl fun x128_77 h98 => ?_
    refine MV.step0 (i := 6) rfl (VAL.move rfl) rfl rfl rfl ?_
    refine MV.lift0 (i := 7) rfl (V.bin0 h98 rfl rfl) rfl rfl rfl fun x130_78 h99 => ?_
    refine MV.lift0 (i := 8) rfl (V.ix h99 rfl rfl Vdf.st9) rfl rfl rfl fun x131_79 h100 => ?_
    refine MV.step0 (i := 9) rfl (VAL.move rfl) rfl rfl rfl ?_
    refine MV.lift0 (i := 10) rfl (V.ix h100 rfl rfl Vdf.st9) rfl rfl rfl fun x133_80 h101 => ?_
    refine MV.lift0 (i := 11) rfl (V.ia h101 rfl rfl Vdf.el79) rfl rfl rfl fun x134_81 h102 => ?_
    refine MV.force (i := 12) rfl ?_
    refine LV.st hS h102 rfl rfl rfl Vdf.siz5 rfl rfl fun T17 its h103 hS => ?_
    refine LV.nextM [] (by kernel_rfl) (fun z => absurd rfl z) ?_
    refine MV.force (i := 13) rfl ?_
    refine vy (V.ia h103 rfl rfl Vdf.el79) fun x135_82 h104 => ?_
    refine LV.nextM [] (by kernel_rfl) (fun z => absurd rfl z) ?_
    refine MV.force (i := 14) rfl ?_
    refine LV.st hS h104 rfl rfl rfl Vdf.siz5 rfl rfl fun T18 its h105 hS => ?_
    refine LV.nextM [] (by kernel_rfl) (fun z => absurd rfl z) ?_
    refine mdn ?_
    refine CV.region ?_
    refine mv ?_
    refine vy (V.sub h105 rfl rfl) fun x137_83 h106 => ?_
    refine as_ ?_
    refine LV.done ?_
    exact pa3 hS h106 ⟨rfl, rfl, rfl, trivial⟩
   ·
    clear h5 h56 h80
    subst e
    refine CV.skip ?_
    exact pa3 hS h81 ⟨rfl, rfl, rfl, trivial⟩
  ·
   intro y0 y4 y12 T10 n10 ρ its hS h57
   unfold g166_k2 at h57
   clear h5 h56
   refine cs3 X 0 4 12 [] (g166_k3 ro) ?_ ?_
   ·
    refine sr ?_
    refine mv ?_
    refine vy (V.ge h57 rfl rfl) fun x139_50 h65 => ?_
    refine dn ?_
    refine CV.cond h65 rfl (fun e h66 => ?_) (fun e h66 => ?_)
    ·
     clear h57 h65
     subst e
     refine sr ?_
     refine mv ?_
     refine vy (V.bin0 h66 rfl rfl) fun x141_51 h67 => ?_
     refine vy (V.bin0 h67 rfl rfl) fun x142_52 h68 => ?_
     refine as_ ?_
     refine dn ?_
     refine sr ?_
     refine mv ?_
     refine vy (V.bin0 h68 rfl rfl) fun x144_53 h69 => ?_
     refine as_ ?_
     refine dn ?_
     refine CV.seq ?_
     refine CV.regionM [(0, .anywhere), (1, .anywhere), (2, .anywhere), (3, .anywhere), (4, .anywhere), (5, .anywhere), (6, .anywhere), (7, .anywhere), (8, .anywhere), (9, .anywhere), (10, .anywhere), (11, .anywhere), (12, .alone), (13, .alone), (14, .alone)] rfl (fun c a a' w hd hq => PanicOk.root (P := Tryz.prog) (fn := Tryz.f166) (w0 := w0) (base := base) (E := envE) (ro := ro) (r := r) (T' := T') (n' := n') (ρ0 := ρ0) c a a' w hd hq) (by kernel_rfl) ?_
     refine MV.step0 (i := 0) rfl (VAL.move rfl) rfl rfl rfl ?_
     refine MV.step0 (i := 1) rfl (VAL.move rfl) rfl rfl rfl ?_
     refine MV.lift0 (i := 2) rfl (V.sub h69 rfl rfl) rfl rfl rfl fun x147_54 h70 => ?_
     refine MV.step0 (i := 3) rfl (VAL.move rfl) rfl rfl rfl ?_
     refine MV.step0 (i := 4) rfl (VAL.move rfl) rfl rfl rfl ?_
     refine MV.lift0 (i := 5) rfl (V.sub h70 rfl rfl) rfl rfl rfl fun x150_55 h71 => ?_
     refine MV.step0 (i := 6) rfl (VAL.move rfl) rfl rfl rfl ?_
     refine MV.lift0 (i := 7) rfl (V.bin0 h71 rfl rfl) rfl rfl rfl fun x152_56 h72 => ?_
     refine MV.lift0 (i := 8) rfl (V.ix h72 rfl rfl Vdf.st9) rfl rfl rfl fun x153_57 h73 => ?_
     refine MV.step0 (i := 9) rfl (VAL.move rfl) rfl rfl rfl ?_
     refine MV.lift0 (i := 10) rfl (V.ix h73 rfl rfl Vdf.st9) rfl rfl rfl fun x155_58 h74 => ?_
     refine MV.lift0 (i := 11) rfl (V.ia h74 rfl rfl Vdf.el79) rfl rfl rfl fun x156_59 h75 => ?_
     refine MV.force (i := 12) rfl ?_
     refine LV.st hS h75 rfl rfl rfl Vdf.siz5 rfl rfl fun T13 its h76 hS => ?_
     refine LV.nextM [] (by kernel_rfl) (fun z => absurd rfl z) ?_
     refine MV.force (i := 13) rfl ?_
     refine vy (V.ia h76 rfl rfl Vdf.el79) fun x157_60 h77 => ?_
     refine LV.nextM [] (by kernel_rfl) (fun z => absurd rfl z) ?_
     refine MV.force (i := 14) rfl ?_
     refine LV.st hS h77 rfl rfl rfl Vdf.siz5 rfl rfl fun T14 its h78 hS => ?_
     refine LV.nextM [] (by kernel_rfl) (fun z => absurd rfl z) ?_
     refine mdn ?_
     refine CV.region ?_
     refine mv ?_
     refine vy (V.sub h78 rfl rfl) fun x159_61 h79 => ?_
     refine as_ ?_
     refine LV.done ?_
     exact pa3 hS h79 ⟨rfl, rfl, rfl, trivial⟩
    ·
     clear h57 h65
     subst e
     refine CV.skip ?_
     exact pa3 hS h66 ⟨rfl, rfl, rfl, trivial⟩
   ·
    intro y0 y4 y12 T11 n11 ρ its hS h58
    unfold g166_k3 at h58
    clear h57
    refine sr ?_
    refine mv ?_
    refine vy (V.gt h58 rfl rfl) fun x161_46 h59 => ?_
    refine dn ?_
    refine CV.cond h59 rfl (fun e h60 => ?_) (fun e h60 => ?_)
    ·
     clear h58 h59
     subst e
     refine CV.region ?_
     refine mv ?_
     refine mv ?_
     refine vy (V.bin0 h60 rfl rfl) fun x164_47 h61 => ?_
     refine vy (V.conv h61 rfl) fun x165_48 h62 => ?_
     refine vy (V.ia h62 rfl rfl Vdf.el79) fun x166_49 h63 => ?_
     refine LV.st hS h63 rfl rfl rfl Vdf.siz5 rfl rfl fun T12 its h64 hS => ?_
     refine LV.done ?_
     cases h64
     exact PV.ret (by simp) Tryz.results166 hS RS.nil rfl
    ·
     clear h58 h59
     subst e
     refine CV.skip ?_
     cases h60
     exact PV.ret (by simp) Tryz.results166 hS RS.nil rfl
noncomputable def g167 (ro : List HT) (a0 a1 a2 a3 a4 : AV) (T : HT) (nx : Nat) : R :=
 .bad 1670001
theorem g167_ok (ro : List HT) (a0 a1 a2 a3 a4 : AV) (T : HT) (nx : Nat) : GOk Tryz.prog envE 167 [a0, a1, a2, a3, a4] ro T nx (g167 ro a0 a1 a2 a3 a4 T nx) := by
 refine GOk.of_body Tryz.func167 rfl Tryz.ntmps167 (by kernel_rfl) rfl fun r T' n' h1 w0 base ρ0 its hS hP => ?_
 have X : CtxW envE ρ0 ro r T' n' := trivial
 unfold g167 at h1
 cases h1
noncomputable def g127 (ro : List HT) (a0 a1 a2 : AV) (T : HT) (nx : Nat) : R :=
 eqK Tryz.prog 3 (.tmp 9) (.const (.int .i64 (.ofNat 10))) 1270003 a2 (.lit (.int .i64 (.ofNat 10))) fun x10_1 =>
 condK 1270004 x10_1
 (
  ltK Tryz.prog 68 (.tmp 11) (.const (.int .u64 (.ofNat 100))) 1270006 a1 (.lit (.int .u64 (.ofNat 100))) fun x12_2 =>
  condK 1270007 x12_2
  (
   optK 1270010 (convV Tryz.prog 68 3 a1) fun x15_3 =>
   callK (g164 ro x15_3 T nx) fun x16_4 T1 n1 =>
   shrK 1270013 T1 a0 fun T2 =>
   appTK 1270012 T2 n1 5 a0 x16_4 fun x17_5 T3 n3 =>
   .ok (.val x17_5) T3 n3
  )
  (
   newK T nx (.obj [.lit (.int .u8 0), .lit (.int .u8 0), .lit (.int .u8 0), .lit (.int .u8 0), .lit (.int .u8 0), .lit (.int .u8 0), .lit (.int .u8 0), .lit (.int .u8 0), .lit (.int .u8 0), .lit (.int .u8 0), .lit (.int .u8 0), .lit (.int .u8 0), .lit (.int .u8 0), .lit (.int .u8 0), .lit (.int .u8 0), .lit (.int .u8 0), .lit (.int .u8 0), .lit (.int .u8 0), .lit (.int .u8 0), .lit (.int .u8 0), .lit (.int .u8 0), .lit (.int .u8 0), .lit (.int .u8 0), .lit (.int .u8 0)] 280) fun x7_6 T4 n4 =>
   callK (g165 ro a1 T4 n4) fun x19_7 T5 n5 =>
   .bad 1270021
  )
 )
 (
  callK (g167 ro a0 a1 a2 (.lit (.bool false)) (.lit (.bool true)) T nx) fun x32_8 T6 n6 =>
  exK 1270027 x32_8 0 fun x33_9 =>
  exK 1270028 x32_8 1 fun x34_10 =>
  .ok (.val x33_9) T6 n6
 )
theorem g127_ok (ro : List HT) (a0 a1 a2 : AV) (T : HT) (nx : Nat) : GOk Tryz.prog envE 127 [a0, a1, a2] ro T nx (g127 ro a0 a1 a2 T nx) := by
 refine GOk.of_body Tryz.func127 rfl Tryz.ntmps127 (by kernel_rfl) rfl fun r T' n' h1 w0 base ρ0 its hS hP => ?_
 have X : CtxW envE ρ0 ro r T' n' := trivial
 unfold g127 at h1
 refine sr ?_
 refine as_ ?_
 refine dn ?_
 refine CV.seq ?_
 refine sr ?_
 refine mv ?_
 refine vy (V.eq h1 rfl rfl) fun x10_1 h2 => ?_
 refine dn ?_
 refine CV.cond h2 rfl (fun e h3 => ?_) (fun e h3 => ?_)
 ·
  clear h1 h2
  subst e
  refine CV.seq ?_
  refine sr ?_
  refine mv ?_
  refine vy (V.lt h3 rfl rfl) fun x12_2 h4 => ?_
  refine dn ?_
  refine CV.cond h4 rfl (fun e h5 => ?_) (fun e h5 => ?_)
  ·
   clear h3 h4
   subst e
   refine sr ?_
   refine mv ?_
   refine mv ?_
   refine vy (V.conv h5 rfl) fun x15_3 h6 => ?_
   refine LV.call hS h6 (g164_ok _ _ _ _ ) hP rfl rfl rfl rfl fun x16_4 T1 n1 h7 ρ its hS => ?_
   obtain ⟨T2, its1, h8, hS, hW⟩ := shrK_inv hS h7
   refine LV.world hW ?_
   refine LV.appT hS h8 rfl rfl rfl rfl Vdf.el79 Vdf.st9 rfl rfl rfl fun x17_5 T3 n3 h9 ρ its hS => ?_
   refine as_ ?_
   refine dn ?_
   refine CV.ret ?_
   refine PV.thenR ?_
   refine PV.thenR ?_
   cases h9
   exact PV.ret (by simp) Tryz.results127 hS (RS.tmp rfl RS.nil) rfl
  ·
   clear h3 h4
   subst e
   refine CV.skip ?_
   refine PV.thenN ?_
   refine sr ?_
   refine LV.alloc hS h5 rfl Vdf.zr280 rfl rfl rfl fun x7_6 T4 n4 h10 ρ its hS hdr => ?_
   refine dn ?_
   refine sr ?_
   refine mv ?_
   refine LV.call hS h10 (g165_ok _ _ _ _ ) hP rfl rfl rfl rfl fun x19_7 T5 n5 h11 ρ its hS => ?_
   refine as_ ?_
   refine dn ?_
   refine sr ?_
   refine mv ?_
   cases h11
 ·
  clear h1 h2
  subst e
  refine CV.skip ?_
  refine PV.thenN ?_
  refine sr ?_
  refine mv ?_
  refine mv ?_
  refine mv ?_
  refine LV.call hS h3 (g167_ok _ _ _ _ _ _ _ _ ) hP rfl rfl rfl rfl fun x32_8 T6 n6 h12 ρ its hS => ?_
  refine mv ?_
  refine vy (V.ex h12 rfl) fun x33_9 h13 => ?_
  refine vy (V.ex h13 rfl) fun x34_10 h14 => ?_
  refine as_ ?_
  refine dn ?_
  refine sr ?_
  refine mv ?_
  refine as_ ?_
  refine dn ?_
  refine CV.ret ?_
  cases h14
  exact PV.ret (by simp) Tryz.results127 hS (RS.tmp rfl RS.nil) rfl
noncomputable def g97_k1 (ro : List HT) (y0 y2 y6 y7 : AV) (T1 : HT) (n1 : Nat) : R :=
 callK (g127 ro y0 y7 y2 T1 n1) fun x20_2 T2 n2 =>
 .ok (.val x20_2) T2 n2
noncomputable def g97 (ro : List HT) (a0 a1 a2 : AV) (T : HT) (nx : Nat) : R :=
 optK 970003 (convV Tryz.prog 2 68 a1) fun x9_1 =>
 ltK Tryz.prog 2 (.tmp 10) (.const (.int .i64 (.ofNat 0))) 970011 a1 (.lit (.int .i64 (.ofNat 0))) fun x11_3 =>
 condK 970012 x11_3
 (
  bsK 970014 T nx 1 5 1 [(0, (.lit (.int .u8 (.ofNat 45))))] fun x13_4 T3 n3 =>
  shrK 970016 T3 a0 fun T4 =>
  appEK 970015 T4 ro n3 5 1 1 a0 x13_4 fun x14_5 T5 n5 =>
  optK 970019 (unV Tryz.prog .neg x9_1) fun x16_6 =>
  g97_k1 ro x14_5 a2 (.lit (.slice none 0 0)) x16_6 T5 n5
 )
 (
  g97_k1 ro a0 a2 (.lit (.slice none 0 0)) x9_1 T nx
 )
theorem g97_ok (ro : List HT) (a0 a1 a2 : AV) (T : HT) (nx : Nat) : GOk Tryz.prog envE 97 [a0, a1, a2] ro T nx (g97 ro a0 a1 a2 T nx) := by
 refine GOk.of_body Tryz.func97 rfl Tryz.ntmps97 (by kernel_rfl) rfl fun r T' n' h1 w0 base ρ0 its hS hP => ?_
 have X : CtxW envE ρ0 ro r T' n' := trivial
 unfold g97 at h1
 refine sr ?_
 refine as_ ?_
 refine dn ?_
 refine sr ?_
 refine mv ?_
 refine vy (V.conv h1 rfl) fun x9_1 h2 => ?_
 refine as_ ?_
 refine dn ?_
 refine cs4 X 0 2 6 7 [] (g97_k1 ro) ?_ ?_
 ·
  refine sr ?_
  refine mv ?_
  refine vy (V.lt h2 rfl rfl) fun x11_3 h5 => ?_
  refine dn ?_
  refine CV.cond h5 rfl (fun e h6 => ?_) (fun e h6 => ?_)
  ·
   clear h1 h2 h5
   subst e
   refine sr ?_
   refine mv ?_
   refine LV.bslice hS h6 rfl rfl Vdf.el79 rfl rfl rfl rfl fun x13_4 T3 n3 h7 ρ its hS hdr => ?_
   obtain ⟨T4, its1, h8, hS, hW⟩ := shrK_inv hS h7
   refine LV.world hW ?_
   refine LV.appE hS h8 rfl rfl rfl rfl Vdf.el79 rfl rfl rfl fun x14_5 T5 n5 h9 ρ its hS => ?_
   refine as_ ?_
   refine dn ?_
   refine CV.region ?_
   refine mv ?_
   refine vy (V.un h9 rfl) fun x16_6 h10 => ?_
   refine as_ ?_
   refine LV.done ?_
   exact pa4 hS h10 ⟨rfl, rfl, rfl, rfl, trivial⟩
  ·
   clear h1 h2 h5
   subst e
   refine CV.skip ?_
   exact pa4 hS h6 ⟨rfl, rfl, rfl, rfl, trivial⟩
 ·
  intro y0 y2 y6 y7 T1 n1 ρ its hS h3
  unfold g97_k1 at h3
  clear h1 h2
  refine sr ?_
  refine mv ?_
  refine mv ?_
  refine mv ?_
  refine LV.call hS h3 (g127_ok _ _ _ _ _ _ ) hP rfl rfl rfl rfl fun x20_2 T2 n2 h4 ρ its hS => ?_
  refine as_ ?_
  refine dn ?_
  refine CV.ret ?_
  cases h4
  exact PV.ret (by simp) Tryz.results97 hS (RS.tmp rfl RS.nil) rfl
noncomputable def g67 (ro : List HT) (a0 a1 a2 : AV) (T : HT) (nx : Nat) : R :=
 callK (g97 ro a0 a1 a2 T nx) fun x10_1 T1 n1 =>
 .ok (.val x10_1) T1 n1
theorem g67_ok (ro : List HT) (a0 a1 a2 : AV) (T : HT) (nx : Nat) : GOk Tryz.prog envE 67 [a0, a1, a2] ro T nx (g67 ro a0 a1 a2 T nx) := by
 refine GOk.of_body Tryz.func67 rfl Tryz.ntmps67 (by kernel_rfl) rfl fun r T' n' h1 w0 base ρ0 its hS hP => ?_
 have X : CtxW envE ρ0 ro r T' n' := trivial
 unfold g67 at h1
 refine sr ?_
 refine as_ ?_
 refine dn ?_
 refine sr ?_
 refine mv ?_
 refine mv ?_
 refine mv ?_
 refine LV.call hS h1 (g97_ok _ _ _ _ _ _ ) hP rfl rfl rfl rfl fun x10_1 T1 n1 h2 ρ its hS => ?_
 refine as_ ?_
 refine dn ?_
 refine CV.ret ?_
 cases h2
 exact PV.ret (by simp) Tryz.results67 hS (RS.tmp rfl RS.nil) rfl
noncomputable def g35_k1 (ih : FuncId → List HT → List AV → HT → Nat → R) (ro : List HT) (y0 y6 : AV) (T2 : HT) (n2 : Nat) : R :=
 fldK 350014 T2 ro y0 0 fun x173_6 =>
 bsK 350015 T2 n2 1 5 1 [(0, (.lit (.int .u8 (.ofNat 59))))] fun x174_7 T3 n3 =>
 shrK 350017 T3 x173_6 fun T4 =>
 appEK 350016 T4 ro n3 5 1 1 x173_6 x174_7 fun x175_8 T5 n5 =>
 faK 350018 y0 0 fun x177_9 =>
 stK 350019 T5 x177_9 x175_8 fun T6 =>
 .ok (.val (.lit (.nilIface))) T6 n5
noncomputable def g35_b2 (ih : FuncId → List HT → List AV → HT → Nat → R) (ro : List HT) (lp2 : AV → AV → AV → AV → AV → AV → HT → Nat → R) (y0 y2 y6 y145 y146 y147 : AV) (T45 : HT) (n45 : Nat) : R :=
 ltK Tryz.prog 3 (.tmp 147) (.tmp 146) 350144 y147 y146 fun x148_73 =>
 condK 350145 x148_73
 (
  iaK 350146 y145 y147 1 fun x149_74 =>
  ldK 350147 T45 ro x149_74 fun x150_75 =>
  addK Tryz.prog 3 (.tmp 153) (.const (.int .i64 (.ofNat 1))) 350152 y2 (.lit (.int .i64 (.ofNat 1))) fun x154_76 =>
  callK (ih 35 ro [y0, x150_75, x154_76] T45 n45) fun x155_77 T46 n46 =>
  bin0 Tryz.prog .neq 36 (.tmp 156) (.const (.nilIface)) 350156 x155_77 (.lit (.nilIface)) fun x157_78 =>
  condK 350157 x157_78
  (
   .ok (.val x155_77) T46 n46
  )
  (
   addK Tryz.prog 3 (.tmp 147) (.const (.int .i64 (.ofNat 1))) 350160 y147 (.lit (.int .i64 (.ofNat 1))) fun x159_79 =>
   lp2 y0 y2 y6 y145 y146 x159_79 T46 n46
  )
 )
 (
  fldK 350164 T45 ro y0 0 fun x164_80 =>
  bsK 350165 T45 n45 1 5 1 [(0, (.lit (.int .u8 (.ofNat 69))))] fun x165_81 T47 n47 =>
  shrK 350167 T47 x164_80 fun T48 =>
  appEK 350166 T48 ro n47 5 1 1 x164_80 x165_81 fun x166_82 T49 n49 =>
  faK 350168 y0 0 fun x168_83 =>
  stK 350169 T49 x168_83 x166_82 fun T50 =>
  g35_k1 ih ro y0 y6 T50 n49
 )
noncomputable def g35 (ih : FuncId → List HT → List AV → HT → Nat → R) (ro : List HT) (a0 a1 a2 : AV) (T : HT) (nx : Nat) : R :=
 fldK 350003 T ro a0 1 fun x19_1 =>
 subK Tryz.prog 3 (.tmp 19) (.const (.int .i64 (.ofNat 1))) 350004 x19_1 (.lit (.int .i64 (.ofNat 1))) fun x20_2 =>
 faK 350005 a0 1 fun x22_3 =>
 stK 350006 T x22_3 x20_2 fun T1 =>
 fldK 350008 T1 ro a0 1 fun x26_4 =>
 ltK Tryz.prog 3 (.tmp 26) (.const (.int .i64 (.ofNat 0))) 350009 x26_4 (.lit (.int .i64 (.ofNat 0))) fun x27_5 =>
 condK 350010 x27_5
 (
  .bad 350011
 )
 (
  asK 350022 a1 100 (.tup [.lit (.agg #[]), .lit (.bool false)]) fun x31_10 =>
  exK 350023 x31_10 1 fun x32_11 =>
  exK 350024 x31_10 0 fun x33_12 =>
  condK 350025 x32_11
  (
   newK T1 nx (.obj [] 100) fun x7_13 T7 n7 =>
   st0K 350027 x7_13 x33_12 <|
   fldK 350030 T7 ro a0 0 fun x38_14 =>
   bsK 350031 T7 n7 1 5 1 [(0, (.lit (.int .u8 (.ofNat 78))))] fun x39_15 T8 n8 =>
   shrK 350033 T8 x38_14 fun T9 =>
   appEK 350032 T9 ro n8 5 1 1 x38_14 x39_15 fun x40_16 T10 n10 =>
   faK 350034 a0 0 fun x42_17 =>
   stK 350035 T10 x42_17 x40_16 fun T11 =>
   g35_k1 ih ro a0 (.lit (.nilIface)) T11 n10
  )
  (
   asK 350036 a1 123 (.tup [.lit (.bool false), .lit (.bool false)]) fun x43_18 =>
   exK 350037 x43_18 1 fun x44_19 =>
   exK 350038 x43_18 0 fun x45_20 =>
   condK 350039 x44_19
   (
    fldK 350043 T1 ro a0 0 fun x50_21 =>
    bsK 350044 T1 nx 1 5 1 [(0, (.lit (.int .u8 (.ofNat 66))))] fun x51_22 T12 n12 =>
    shrK 350046 T12 x50_21 fun T13 =>
    appEK 350045 T13 ro n12 5 1 1 x50_21 x51_22 fun x52_23 T14 n14 =>
    faK 350047 a0 0 fun x54_24 =>
    stK 350048 T14 x54_24 x52_23 fun T15 =>
    fldK 350051 T15 ro a0 0 fun x59_25 =>
    callK (g66 ro x59_25 x45_20 T15 n14) fun x61_26 T16 n16 =>
    faK 350054 a0 0 fun x63_27 =>
    stK 350055 T16 x63_27 x61_26 fun T17 =>
    g35_k1 ih ro a0 (.lit (.nilIface)) T17 n16
   )
   (
    asK 350056 a1 67 (.tup [.lit (.agg #[.bool false, .slice none 0 0]), .lit (.bool false)]) fun x64_28 =>
    exK 350057 x64_28 1 fun x65_29 =>
    exK 350058 x64_28 0 fun x66_30 =>
    condK 350059 x65_29
    (
     newK T1 nx (.obj [.lit (.bool false), .lit (.slice none 0 0)] 67) fun x9_31 T18 n18 =>
     stAK 350061 T18 x9_31 x66_30 2 fun T19 =>
     fldK 350064 T19 ro a0 0 fun x71_32 =>
     bsK 350065 T19 n18 1 5 1 [(0, (.lit (.int .u8 (.ofNat 73))))] fun x72_33 T20 n20 =>
     shrK 350067 T20 x71_32 fun T21 =>
     appEK 350066 T21 ro n20 5 1 1 x71_32 x72_33 fun x73_34 T22 n22 =>
     faK 350068 a0 0 fun x75_35 =>
     stK 350069 T22 x75_35 x73_34 fun T23 =>
     ncK 350072 a0 fun x78_36 =>
     faK 350073 x78_36 0 fun x79_37 =>
     ldQK 350074 T23 ro [(a0, 0, 1), (x9_31, 0, 2)] x79_37 fun x80_38 =>
     faK 350075 x9_31 0 fun x81_39 =>
     ldAQK 350076 T23 ro [(a0, 0, 1), (x9_31, 0, 2)] x81_39 2 fun x82_40 =>
     callK (g55 ro x82_40 T23 n22) fun x83_41 T24 n24 =>
     keepK 350078 T23 T24 [(a0, 0, 1), (x9_31, 0, 2)] <|
     shrK 350080 T24 x80_38 fun T25 =>
     appTK 350079 T25 n24 5 x80_38 x83_41 fun x84_42 T26 n26 =>
     ncK 350081 a0 fun x85_43 =>
     faK 350082 x85_43 0 fun x86_44 =>
     stK 350083 T26 x86_44 x84_42 fun T27 =>
     g35_k1 ih ro a0 (.lit (.nilIface)) T27 n26
    )
    (
     asK 350084 a1 104 (.tup [.lit (.string ⟨#[]⟩), .lit (.bool false)]) fun x87_45 =>
     exK 350085 x87_45 1 fun x88_46 =>
     exK 350086 x87_45 0 fun x89_47 =>
     condK 350087 x88_46
     (
      fldK 350091 T1 ro a0 0 fun x94_48 =>
      bsK 350092 T1 nx 1 5 1 [(0, (.lit (.int .u8 (.ofNat 83))))] fun x95_49 T28 n28 =>
      shrK 350094 T28 x94_48 fun T29 =>
      appEK 350093 T29 ro n28 5 1 1 x94_48 x95_49 fun x96_50 T30 n30 =>
      faK 350095 a0 0 fun x98_51 =>
      stK 350096 T30 x98_51 x96_50 fun T31 =>
      fldK 350099 T31 ro a0 0 fun x103_52 =>
      lenTK 350101 x89_47 fun x105_53 =>
      callK (g67 ro x103_52 x105_53 (.lit (.int .i64 (.ofNat 10))) T31 n30) fun x106_54 T32 n32 =>
      faK 350103 a0 0 fun x108_55 =>
      stK 350104 T32 x108_55 x106_54 fun T33 =>
      fldK 350107 T33 ro a0 0 fun x113_56 =>
      bsK 350108 T33 n32 1 5 1 [(0, (.lit (.int .u8 (.ofNat 58))))] fun x114_57 T34 n34 =>
      shrK 350110 T34 x113_56 fun T35 =>
      appEK 350109 T35 ro n34 5 1 1 x113_56 x114_57 fun x115_58 T36 n36 =>
      faK 350111 a0 0 fun x117_59 =>
      stK 350112 T36 x117_59 x115_58 fun T37 =>
      fldK 350115 T37 ro a0 0 fun x122_60 =>
      shrK 350118 T37 x122_60 fun T38 =>
      appTK 350117 T38 n36 5 x122_60 x89_47 fun x124_61 T39 n39 =>
      faK 350119 a0 0 fun x126_62 =>
      stK 350120 T39 x126_62 x124_61 fun T40 =>
      g35_k1 ih ro a0 (.lit (.nilIface)) T40 n39
     )
     (
      asK 350121 a1 72 (.tup [.lit (.pointer none), .lit (.bool false)]) fun x127_63 =>
      exK 350122 x127_63 1 fun x128_64 =>
      exK 350123 x127_63 0 fun x129_65 =>
      condK 350124 x128_64
      (
       geK Tryz.prog 3 (.tmp 130) (.const (.int .i64 (.ofNat 60))) 350127 a2 (.lit (.int .i64 (.ofNat 60))) fun x131_66 =>
       condK 350128 x131_66
       (
        .ok (.val (.iface 347 (.opq 7))) T1 nx
       )
       (
        fldK 350133 T1 ro a0 0 fun x137_67 =>
        bsK 350134 T1 nx 1 5 1 [(0, (.lit (.int .u8 (.ofNat 84))))] fun x138_68 T41 n41 =>
        shrK 350136 T41 x137_67 fun T42 =>
        appEK 350135 T42 ro n41 5 1 1 x137_67 x138_68 fun x139_69 T43 n43 =>
        faK 350137 a0 0 fun x141_70 =>
        stK 350138 T43 x141_70 x139_69 fun T44 =>
        fldK 350140 T44 ro x129_65 0 fun x145_71 =>
        lenSK 350141 x145_71 fun x146_72 =>
        lpf6 350143 (g35_b2 ih ro) 100000 a0 a2 (.lit (.nilIface)) x145_71 x146_72 (.lit (.int .i64 (.ofNat 0))) T44 n43
       )
      )
      (
       .ok (.val (.iface 347 (.opq 3))) T1 nx
      )
     )
    )
   )
  )
 )
theorem g35_ok (ih : FuncId → List HT → List AV → HT → Nat → R) (hI : ∀ f ro args T nx, GOk Tryz.prog envE f args ro T nx (ih f ro args T nx)) (ro : List HT) (a0 a1 a2 : AV) (T : HT) (nx : Nat) : GOk Tryz.prog envE 35 [a0, a1, a2] ro T nx (g35 ih ro a0 a1 a2 T nx) := by
 refine GOk.of_body Tryz.func35 rfl Tryz.ntmps35 (by kernel_rfl) rfl fun r T' n' h1 w0 base ρ0 its hS hP => ?_
 have X : CtxW envE ρ0 ro r T' n' := trivial
 unfold g35 at h1
 refine sr ?_
 refine as_ ?_
 refine dn ?_
 refine CV.seq ?_
 refine sr ?_
 refine mv ?_
 refine fl hS h1 Vdf.fo89_1 Vdf.one3 fun x19_1 h2 => ?_
 refine vy (V.sub h2 rfl rfl) fun x20_2 h3 => ?_
 refine fa2 h3 Vdf.fo89_1 fun x22_3 h4 => ?_
 refine LV.st hS h4 rfl rfl rfl Vdf.siz3 rfl rfl fun T1 its h5 hS => ?_
 refine dn ?_
 refine sr ?_
 refine mv ?_
 refine fl hS h5 Vdf.fo89_1 Vdf.one3 fun x26_4 h6 => ?_
 refine vy (V.lt h6 rfl rfl) fun x27_5 h7 => ?_
 refine dn ?_
 refine CV.cond h7 rfl (fun e h8 => ?_) (fun e h8 => ?_)
 ·
  clear h1 h2 h3 h4 h5 h6 h7
  subst e
  cases h8
 ·
  clear h1 h2 h3 h4 h5 h6 h7
  subst e
  refine CV.skip ?_
  refine PV.thenN ?_
  refine cs2 X 0 6 [] (g35_k1 ih ro) ?_ ?_
  ·
   refine sr ?_
   refine mv ?_
   refine dn ?_
   refine CV.block ?_
   refine sr ?_
   refine vy (V.as h8 rfl Vdf.ni100 Vdf.za100) fun x31_10 h16 => ?_
   refine vy (V.ex h16 rfl) fun x32_11 h17 => ?_
   refine vy (V.ex h17 rfl) fun x33_12 h18 => ?_
   refine dn ?_
   refine CV.cond h18 rfl (fun e h19 => ?_) (fun e h19 => ?_)
   ·
    clear h8 h16 h17 h18
    subst e
    refine sr ?_
    refine LV.alloc hS h19 rfl Vdf.zr100 rfl rfl rfl fun x7_13 T7 n7 h20 ρ its hS hdr => ?_
    refine LV.st0 h20 rfl rfl rfl Vdf.agg100 rfl rfl fun h21 => ?_
    refine dn ?_
    refine CV.region ?_
    refine mv ?_
    refine mv ?_
    refine fl hS h21 Vdf.fo89_0 Vdf.one79 fun x38_14 h22 => ?_
    refine LV.bslice hS h22 rfl rfl Vdf.el79 rfl rfl rfl rfl fun x39_15 T8 n8 h23 ρ its hS hdr => ?_
    obtain ⟨T9, its1, h24, hS, hW⟩ := shrK_inv hS h23
    refine LV.world hW ?_
    refine LV.appE hS h24 rfl rfl rfl rfl Vdf.el79 rfl rfl rfl fun x40_16 T10 n10 h25 ρ its hS => ?_
    refine fa2 h25 Vdf.fo89_0 fun x42_17 h26 => ?_
    refine LV.st hS h26 rfl rfl rfl Vdf.siz79 rfl rfl fun T11 its h27 hS => ?_
    refine LV.done ?_
    refine PV.blockN ?_
    exact pa2 hS h27 ⟨rfl, rfl, trivial⟩
   ·
    clear h8 h16 h17 h18
    subst e
    refine sr ?_
    refine vy (V.as h19 rfl Vdf.ni123 Vdf.za123) fun x43_18 h28 => ?_
    refine vy (V.ex h28 rfl) fun x44_19 h29 => ?_
    refine vy (V.ex h29 rfl) fun x45_20 h30 => ?_
    refine dn ?_
    refine CV.cond h30 rfl (fun e h31 => ?_) (fun e h31 => ?_)
    ·
     clear h19 h28 h29 h30
     subst e
     refine sr ?_
     refine as_ ?_
     refine dn ?_
     refine sr ?_
     refine mv ?_
     refine mv ?_
     refine fl hS h31 Vdf.fo89_0 Vdf.one79 fun x50_21 h32 => ?_
     refine LV.bslice hS h32 rfl rfl Vdf.el79 rfl rfl rfl rfl fun x51_22 T12 n12 h33 ρ its hS hdr => ?_
     obtain ⟨T13, its1, h34, hS, hW⟩ := shrK_inv hS h33
     refine LV.world hW ?_
     refine LV.appE hS h34 rfl rfl rfl rfl Vdf.el79 rfl rfl rfl fun x52_23 T14 n14 h35 ρ its hS => ?_
     refine fa2 h35 Vdf.fo89_0 fun x54_24 h36 => ?_
     refine LV.st hS h36 rfl rfl rfl Vdf.siz79 rfl rfl fun T15 its h37 hS => ?_
     refine dn ?_
     refine CV.region ?_
     refine mv ?_
     refine mv ?_
     refine fl hS h37 Vdf.fo89_0 Vdf.one79 fun x59_25 h38 => ?_
     refine mv ?_
     refine LV.call hS h38 (g66_ok _ _ _ _ _ ) hP rfl rfl rfl rfl fun x61_26 T16 n16 h39 ρ its hS => ?_
     refine fa2 h39 Vdf.fo89_0 fun x63_27 h40 => ?_
     refine LV.st hS h40 rfl rfl rfl Vdf.siz79 rfl rfl fun T17 its h41 hS => ?_
     refine LV.done ?_
     refine PV.blockN ?_
     exact pa2 hS h41 ⟨rfl, rfl, trivial⟩
    ·
     clear h19 h28 h29 h30
     subst e
     refine sr ?_
     refine vy (V.as h31 rfl Vdf.ni67 Vdf.za67) fun x64_28 h42 => ?_
     refine vy (V.ex h42 rfl) fun x65_29 h43 => ?_
     refine vy (V.ex h43 rfl) fun x66_30 h44 => ?_
     refine dn ?_
     refine CV.cond h44 rfl (fun e h45 => ?_) (fun e h45 => ?_)
     ·
      clear h31 h42 h43 h44
      subst e
      refine sr ?_
      refine LV.alloc hS h45 rfl Vdf.zr67 rfl rfl rfl fun x9_31 T18 n18 h46 ρ its hS hdr => ?_
      refine LV.stA hS h46 rfl rfl rfl Vdf.agg67 rfl rfl rfl fun T19 its h47 hS => ?_
      refine dn ?_
      refine sr ?_
      refine mv ?_
      refine mv ?_
      refine fl hS h47 Vdf.fo89_0 Vdf.one79 fun x71_32 h48 => ?_
      refine LV.bslice hS h48 rfl rfl Vdf.el79 rfl rfl rfl rfl fun x72_33 T20 n20 h49 ρ its hS hdr => ?_
      obtain ⟨T21, its1, h50, hS, hW⟩ := shrK_inv hS h49
      refine LV.world hW ?_
      refine LV.appE hS h50 rfl rfl rfl rfl Vdf.el79 rfl rfl rfl fun x73_34 T22 n22 h51 ρ its hS => ?_
      refine fa2 h51 Vdf.fo89_0 fun x75_35 h52 => ?_
      refine LV.st hS h52 rfl rfl rfl Vdf.siz79 rfl rfl fun T23 its h53 hS => ?_
      refine dn ?_
      refine CV.regionMS hS [(a0, 0, 1), (x9_31, 0, 2)] [(0, .anywhere), (1, .anywhere), (2, .anywhere), (3, .anywhere), (4, .held), (5, .anywhere), (6, .held), (7, .alone), (8, .alone), (9, .alone), (10, .alone), (11, .alone)] rfl (fun c a a' w hd hq => PanicOk.root (P := Tryz.prog) (fn := Tryz.f35) (w0 := w0) (base := base) (E := envE) (ro := ro) (r := r) (T' := T') (n' := n') (ρ0 := ρ0) c a a' w hd hq) (by kernel_rfl) ?_
      have hK := KeepS.start [(a0, 0, 1), (x9_31, 0, 2)] hS
      have hR := hS
      have hP0 := hP
      replace hP := PK.up hR hP
      replace hS := hR.root
      refine MV.step0 (i := 0) rfl (VAL.move rfl) rfl rfl rfl ?_
      refine MV.step0 (i := 1) rfl (VAL.move rfl) rfl rfl rfl ?_
      refine MV.lift0 (i := 2) rfl (V.nc h53 rfl) rfl rfl rfl fun x78_36 h54 => ?_
      refine MV.lift0 (i := 3) rfl (V.fa h54 rfl Vdf.fo89_0) rfl rfl rfl fun x79_37 h55 => ?_
      refine MV.lift1 (i := 4) rfl hK (V.ldQ hS h55 rfl Vdf.one79) rfl rfl rfl [] (by kernel_rfl) fun x80_38 h56 => ?_
      refine MV.lift0 (i := 5) rfl (V.fa h56 rfl Vdf.fo67_1) rfl rfl rfl fun x81_39 h57 => ?_
      refine MV.lift1 (i := 6) rfl hK (V.ldAQ hS h57 rfl Vdf.agg29) rfl rfl rfl [4] (by kernel_rfl) fun x82_40 h58 => ?_
      refine MV.force (i := 7) rfl ?_
      refine LV.call hS h58 (g55_ok _ _ _ _ ) hP rfl rfl rfl rfl fun x83_41 T24 n24 h59 ρ its hS => ?_
      obtain ⟨hK, h60⟩ := KeepS.step hR hS h59
      refine LV.nextM [4] (by kernel_rfl) (fun _ => hK) ?_
      refine MV.force (i := 8) rfl ?_
      obtain ⟨T25, its1, h61, hS, hW⟩ := shrK_inv hS h60
      refine LV.world hW ?_
      refine LV.appT hS h61 rfl rfl rfl rfl Vdf.el79 Vdf.st9 rfl rfl rfl fun x84_42 T26 n26 h62 ρ its hS => ?_
      refine LV.nextM [] (by kernel_rfl) (fun z => absurd rfl z) ?_
      refine MV.force (i := 9) rfl ?_
      refine vy (V.nc h62 rfl) fun x85_43 h63 => ?_
      refine LV.nextM [] (by kernel_rfl) (fun z => absurd rfl z) ?_
      refine MV.force (i := 10) rfl ?_
      refine vy (V.fa h63 rfl Vdf.fo89_0) fun x86_44 h64 => ?_
      refine LV.nextM [] (by kernel_rfl) (fun z => absurd rfl z) ?_
      refine MV.force (i := 11) rfl ?_
      refine LV.st hS h64 rfl rfl rfl Vdf.siz79 rfl rfl fun T27 its h65 hS => ?_
      refine LV.nextM [] (by kernel_rfl) (fun z => absurd rfl z) ?_
      replace hS := hR.up hS
      replace hP := hP0
      refine MV.done ?_
      refine PV.blockN ?_
      exact pa2 hS h65 ⟨rfl, rfl, trivial⟩
     ·
      clear h31 h42 h43 h44
      subst e
      refine sr ?_
      refine vy (V.as h45 rfl Vdf.ni104 Vdf.za104) fun x87_45 h66 => ?_
      refine vy (V.ex h66 rfl) fun x88_46 h67 => ?_
      refine vy (V.ex h67 rfl) fun x89_47 h68 => ?_
      refine dn ?_
      refine CV.cond h68 rfl (fun e h69 => ?_) (fun e h69 => ?_)
      ·
       clear h45 h66 h67 h68
       subst e
       refine sr ?_
       refine as_ ?_
       refine dn ?_
       refine sr ?_
       refine mv ?_
       refine mv ?_
       refine fl hS h69 Vdf.fo89_0 Vdf.one79 fun x94_48 h70 => ?_
       refine LV.bslice hS h70 rfl rfl Vdf.el79 rfl rfl rfl rfl fun x95_49 T28 n28 h71 ρ its hS hdr => ?_
       obtain ⟨T29, its1, h72, hS, hW⟩ := shrK_inv hS h71
       refine LV.world hW ?_
       refine LV.appE hS h72 rfl rfl rfl rfl Vdf.el79 rfl rfl rfl fun x96_50 T30 n30 h73 ρ its hS => ?_
       refine fa2 h73 Vdf.fo89_0 fun x98_51 h74 => ?_
       refine LV.st hS h74 rfl rfl rfl Vdf.siz79 rfl rfl fun T31 its h75 hS => ?_
       refine dn ?_
       refine sr ?_
       refine mv ?_
       refine mv ?_
       refine fl hS h75 Vdf.fo89_0 Vdf.one79 fun x103_52 h76 => ?_
       refine mv ?_
       refine vy (V.lenT h76 rfl Vdf.ls104) fun x105_53 h77 => ?_
       refine LV.call hS h77 (g67_ok _ _ _ _ _ _ ) hP rfl rfl rfl rfl fun x106_54 T32 n32 h78 ρ its hS => ?_
       refine fa2 h78 Vdf.fo89_0 fun x108_55 h79 => ?_
       refine LV.st hS h79 rfl rfl rfl Vdf.siz79 rfl rfl fun T33 its h80 hS => ?_
       refine dn ?_
       refine sr ?_
       refine mv ?_
       refine mv ?_
       refine fl hS h80 Vdf.fo89_0 Vdf.one79 fun x113_56 h81 => ?_
       refine LV.bslice hS h81 rfl rfl Vdf.el79 rfl rfl rfl rfl fun x114_57 T34 n34 h82 ρ its hS hdr => ?_
       obtain ⟨T35, its1, h83, hS, hW⟩ := shrK_inv hS h82
       refine LV.world hW ?_
       refine LV.appE hS h83 rfl rfl rfl rfl Vdf.el79 rfl rfl rfl fun x115_58 T36 n36 h84 ρ its hS => ?_
       refine fa2 h84 Vdf.fo89_0 fun x117_59 h85 => ?_
       refine LV.st hS h85 rfl rfl rfl Vdf.siz79 rfl rfl fun T37 its h86 hS => ?_
       refine dn ?_
       refine CV.region ?_
       refine mv ?_
       refine mv ?_
       refine fl hS h86 Vdf.fo89_0 Vdf.one79 fun x122_60 h87 => ?_
       refine mv ?_
       obtain ⟨T38, its1, h88, hS, hW⟩ := shrK_inv hS h87
       refine LV.world hW ?_
       refine LV.appT hS h88 rfl rfl rfl rfl Vdf.el79 Vdf.st104 rfl rfl rfl fun x124_61 T39 n39 h89 ρ its hS => ?_
       refine fa2 h89 Vdf.fo89_0 fun x126_62 h90 => ?_
       refine LV.st hS h90 rfl rfl rfl Vdf.siz79 rfl rfl fun T40 its h91 hS => ?_
       refine LV.done ?_
       refine PV.blockN ?_
       exact pa2 hS h91 ⟨rfl, rfl, trivial⟩
      ·
       clear h45 h66 h67 h68
       subst e
       refine sr ?_
       refine vy (V.as h69 rfl Vdf.ni72 Vdf.za72) fun x127_63 h92 => ?_
       refine vy (V.ex h92 rfl) fun x128_64 h93 => ?_
       refine vy (V.ex h93 rfl) fun x129_65 h94 => ?_
       refine dn ?_
       refine CV.cond h94 rfl (fun e h95 => ?_) (fun e h95 => ?_)
       ·
        clear h69 h92 h93 h94
        subst e
        refine sr ?_
        refine as_ ?_
        refine dn ?_
        refine CV.seq ?_
        refine sr ?_
        refine mv ?_
        refine vy (V.ge h95 rfl rfl) fun x131_66 h96 => ?_
        refine dn ?_
        refine CV.cond h96 rfl (fun e h97 => ?_) (fun e h97 => ?_)
        ·
         clear h95 h96
         subst e
         refine sr ?_
         refine sv (VAL.ldG hS (by rfl) Vdf.one36) ?_
         refine as_ ?_
         refine dn ?_
         refine CV.ret ?_
         refine PV.thenR ?_
         refine PV.blockR ?_
         refine PV.thenR ?_
         cases h97
         exact PV.ret (by simp) Tryz.results35 hS (RS.tmp rfl RS.nil) rfl
        ·
         clear h95 h96
         subst e
         refine CV.skip ?_
         refine PV.thenN ?_
         refine sr ?_
         refine mv ?_
         refine mv ?_
         refine fl hS h97 Vdf.fo89_0 Vdf.one79 fun x137_67 h98 => ?_
         refine LV.bslice hS h98 rfl rfl Vdf.el79 rfl rfl rfl rfl fun x138_68 T41 n41 h99 ρ its hS hdr => ?_
         obtain ⟨T42, its1, h100, hS, hW⟩ := shrK_inv hS h99
         refine LV.world hW ?_
         refine LV.appE hS h100 rfl rfl rfl rfl Vdf.el79 rfl rfl rfl fun x139_69 T43 n43 h101 ρ its hS => ?_
         refine fa2 h101 Vdf.fo89_0 fun x141_70 h102 => ?_
         refine LV.st hS h102 rfl rfl rfl Vdf.siz79 rfl rfl fun T44 its h103 hS => ?_
         refine dn ?_
         refine CV.seq ?_
         refine sr ?_
         refine mv ?_
         refine fl hS h103 Vdf.fo75_1 Vdf.one71 fun x145_71 h104 => ?_
         refine vy (V.lenS h104 rfl Vdf.ls71) fun x146_72 h105 => ?_
         refine mv ?_
         refine dn ?_
         refine CV.block ?_
         refine cl6 X 0 2 6 145 146 147 [] hS h105 ⟨rfl, rfl, rfl, rfl, rfl, rfl, trivial⟩ ?_
         intro f2 y0 y2 y6 y145 y146 y147 T45 n45 ρ its hS h106
         unfold g35_b2 at h106
         clear h97 h98 h99 h100 h101 h102 h103 h104 h105
         refine sr ?_
         refine vy (V.lt h106 rfl rfl) fun x148_73 h107 => ?_
         refine dn ?_
         refine CV.seq ?_
         refine CV.cond h107 rfl (fun e h108 => ?_) (fun e h108 => ?_)
         ·
          clear h106 h107
          subst e
          refine CV.skip ?_
          refine PV.thenN ?_
          refine CV.seq ?_
          refine CV.block ?_
          refine sr ?_
          refine vy (V.ia h108 rfl rfl Vdf.el71) fun x149_74 h109 => ?_
          refine vy (V.ld hS h109 rfl Vdf.one25) fun x150_75 h110 => ?_
          refine as_ ?_
          refine dn ?_
          refine sr ?_
          refine mv ?_
          refine mv ?_
          refine mv ?_
          refine vy (V.add h110 rfl rfl) fun x154_76 h111 => ?_
          refine LV.call hS h111 (hI _ _ _ _ _) hP rfl rfl rfl rfl fun x155_77 T46 n46 h112 ρ its hS => ?_
          refine as_ ?_
          refine dn ?_
          refine sr ?_
          refine mv ?_
          refine vy (V.bin0 h112 rfl rfl) fun x157_78 h113 => ?_
          refine dn ?_
          refine CV.cond h113 rfl (fun e h114 => ?_) (fun e h114 => ?_)
          ·
           clear h108 h109 h110 h111 h112 h113
           subst e
           refine sr ?_
           refine mv ?_
           refine as_ ?_
           refine dn ?_
           refine CV.ret ?_
           refine PV.blockR ?_
           refine PV.thenR ?_
           refine PV.thenR ?_
           refine PV.blockR ?_
           refine PV.thenR ?_
           refine PV.blockR ?_
           refine PV.thenR ?_
           cases h114
           exact PV.ret (by simp) Tryz.results35 hS (RS.tmp rfl RS.nil) rfl
          ·
           clear h108 h109 h110 h111 h112 h113
           subst e
           refine CV.skip ?_
           refine PV.blockN ?_
           refine PV.thenN ?_
           refine CV.region ?_
           refine vy (V.add h114 rfl rfl) fun x159_79 h115 => ?_
           refine mv ?_
           refine LV.done ?_
           exact pb6 hS h115 ⟨rfl, rfl, rfl, rfl, rfl, rfl, trivial⟩
         ·
          clear h106 h107
          subst e
          refine CV.exit ?_
          refine PV.thenE ?_
          refine PV.thenE ?_
          refine PV.blockE ?_
          refine PV.thenN ?_
          refine CV.region ?_
          refine mv ?_
          refine mv ?_
          refine fl hS h108 Vdf.fo89_0 Vdf.one79 fun x164_80 h116 => ?_
          refine LV.bslice hS h116 rfl rfl Vdf.el79 rfl rfl rfl rfl fun x165_81 T47 n47 h117 ρ its hS hdr => ?_
          obtain ⟨T48, its1, h118, hS, hW⟩ := shrK_inv hS h117
          refine LV.world hW ?_
          refine LV.appE hS h118 rfl rfl rfl rfl Vdf.el79 rfl rfl rfl fun x166_82 T49 n49 h119 ρ its hS => ?_
          refine fa2 h119 Vdf.fo89_0 fun x168_83 h120 => ?_
          refine LV.st hS h120 rfl rfl rfl Vdf.siz79 rfl rfl fun T50 its h121 hS => ?_
          refine LV.done ?_
          refine PV.blockN ?_
          exact pa2 hS h121 ⟨rfl, rfl, trivial⟩
       ·
        clear h69 h92 h93 h94
        subst e
        refine sr ?_
        refine as_ ?_
        refine dn ?_
        refine sr ?_
        refine sv (VAL.ldG hS (by rfl) Vdf.one36) ?_
        refine as_ ?_
        refine dn ?_
        refine CV.ret ?_
        refine PV.blockR ?_
        refine PV.thenR ?_
        cases h95
        exact PV.ret (by simp) Tryz.results35 hS (RS.tmp rfl RS.nil) rfl
  ·
   intro y0 y6 T2 n2 ρ its hS h9
   unfold g35_k1 at h9
   clear h8
   refine sr ?_
   refine mv ?_
   refine mv ?_
   refine fl hS h9 Vdf.fo89_0 Vdf.one79 fun x173_6 h10 => ?_
   refine LV.bslice hS h10 rfl rfl Vdf.el79 rfl rfl rfl rfl fun x174_7 T3 n3 h11 ρ its hS hdr => ?_
   obtain ⟨T4, its1, h12, hS, hW⟩ := shrK_inv hS h11
   refine LV.world hW ?_
   refine LV.appE hS h12 rfl rfl rfl rfl Vdf.el79 rfl rfl rfl fun x175_8 T5 n5 h13 ρ its hS => ?_
   refine fa2 h13 Vdf.fo89_0 fun x177_9 h14 => ?_
   refine LV.st hS h14 rfl rfl rfl Vdf.siz79 rfl rfl fun T6 its h15 hS => ?_
   refine dn ?_
   refine sr ?_
   refine as_ ?_
   refine dn ?_
   refine CV.ret ?_
   cases h15
   exact PV.ret (by simp) Tryz.results35 hS (RS.tmp rfl RS.nil) rfl
noncomputable def ap4 (ih : FuncId → List HT → List AV → HT → Nat → R) (f : FuncId) (ro : List HT) (args : List AV) (T : HT) (nx : Nat) : R :=
  Bool.rec (motive := fun _ => R) (.bad 2) (List.rec (motive := fun _ => R) (.bad 1) (fun a0 l0 _ => List.rec (motive := fun _ => R) (.bad 1) (fun a1 l1 _ => List.rec (motive := fun _ => R) (.bad 1) (fun a2 l2 _ => List.rec (motive := fun _ => R) (g35 ih ro a0 a1 a2 T nx) (fun _ _ _ => .bad 1) l2) l1) l0) args) (Nat.beq f 35)
noncomputable def scc4 (fuel : Nat) : FuncId → List HT → List AV → HT → Nat → R :=
  Nat.rec (motive := fun _ => FuncId → List HT → List AV → HT → Nat → R) (fun _ _ _ _ _ => .bad 3) (fun _ ih => ap4 ih) fuel
theorem ap4_ok (ih : FuncId → List HT → List AV → HT → Nat → R) (hI : ∀ f ro args T nx, GOk Tryz.prog envE f args ro T nx (ih f ro args T nx)) (f : FuncId) (ro : List HT) (args : List AV) (T : HT) (nx : Nat) : GOk Tryz.prog envE f args ro T nx (ap4 ih f ro args T nx) := by
  unfold ap4
  refine recb_go (fun hb => ?_) (fun _ => ?_)
  · obtain rfl := beqT hb
    rcases args with _ | ⟨a0, l0⟩
    · exact GOk.bad
    rcases l0 with _ | ⟨a1, l1⟩
    · exact GOk.bad
    rcases l1 with _ | ⟨a2, l2⟩
    · exact GOk.bad
    rcases l2 with _ | ⟨_, _⟩
    · exact g35_ok _ hI _ _ _ _ _ _ 
    · exact GOk.bad
  · exact GOk.bad
theorem scc4_ok : ∀ (fuel : Nat) (f : FuncId) (ro : List HT) (args : List AV) (T : HT) (nx : Nat), GOk Tryz.prog envE f args ro T nx (scc4 fuel f ro args T nx)
  | 0, _, _, _, _, _ => GOk.bad
  | fuel + 1, f, ro, args, T, nx => ap4_ok (scc4 fuel) (scc4_ok fuel) f ro args T nx
noncomputable def g14 (ro : List HT) (a0 : AV) (T : HT) (nx : Nat) : R :=
 optK 140003 (bld89 [(1, (.lit (.int .i64 (.ofNat 4096))))]) fun x6_1 =>
 boxK 140004 T nx x6_1 89 fun x7_2 T1 n1 =>
 callK (scc4 4000 35 ro [x7_2, a0, (.lit (.int .i64 (.ofNat 0)))] T1 n1) fun x10_3 T2 n2 =>
 bin0 Tryz.prog .neq 36 (.tmp 11) (.const (.nilIface)) 140011 x10_3 (.lit (.nilIface)) fun x12_4 =>
 condK 140012 x12_4
 (
  .ok (.val (.tup [(.lit (.string ⟨⟨[]⟩⟩)), x10_3])) T2 n2
 )
 (
  fldK 140017 T2 ro x7_2 0 fun x17_5 =>
  strBK 140018 T2 5 x17_5 fun x18_6 =>
  .ok (.val (.tup [x18_6, (.lit (.nilIface))])) T2 n2
 )
theorem g14_ok (ro : List HT) (a0 : AV) (T : HT) (nx : Nat) : GOk Tryz.prog envE 14 [a0] ro T nx (g14 ro a0 T nx) := by
 refine GOk.of_body Tryz.func14 rfl Tryz.ntmps14 (by kernel_rfl) rfl fun r T' n' h1 w0 base ρ0 its hS hP => ?_
 have X : CtxW envE ρ0 ro r T' n' := trivial
 unfold g14 at h1
 refine sr ?_
 refine as_ ?_
 refine as_ ?_
 refine dn ?_
 refine sr ?_
 refine vy (V.bld h1 rfl) fun x6_1 h2 => ?_
 refine LV.box hS h2 rfl rfl rfl rfl rfl fun x7_2 T1 n1 h3 ρ its hS hdr => ?_
 refine as_ ?_
 refine dn ?_
 refine CV.seq ?_
 refine sr ?_
 refine mv ?_
 refine mv ?_
 refine LV.call hS h3 (scc4_ok _ _ _ _ _ _) hP rfl rfl rfl rfl fun x10_3 T2 n2 h4 ρ its hS => ?_
 refine as_ ?_
 refine dn ?_
 refine sr ?_
 refine mv ?_
 refine vy (V.bin0 h4 rfl rfl) fun x12_4 h5 => ?_
 refine dn ?_
 refine CV.cond h5 rfl (fun e h6 => ?_) (fun e h6 => ?_)
 ·
  clear h1 h2 h3 h4 h5
  subst e
  refine sr ?_
  refine mv ?_
  refine as_ ?_
  refine as_ ?_
  refine dn ?_
  refine CV.ret ?_
  refine PV.thenR ?_
  cases h6
  exact PV.ret (by simp) Tryz.results14 hS (RS.tmp rfl (RS.tmp rfl RS.nil)) rfl
 ·
  clear h1 h2 h3 h4 h5
  subst e
  refine CV.skip ?_
  refine PV.thenN ?_
  refine sr ?_
  refine mv ?_
  refine fl hS h6 Vdf.fo89_0 Vdf.one79 fun x17_5 h7 => ?_
  refine vy (V.strB hS h7 rfl Vdf.slt79 Vdf.u8t5 Vdf.st9) fun x18_6 h8 => ?_
  refine as_ ?_
  refine as_ ?_
  refine dn ?_
  refine CV.ret ?_
  cases h8
  exact PV.ret (by simp) Tryz.results14 hS (RS.tmp rfl (RS.tmp rfl RS.nil)) rfl
noncomputable def g38_k1 (ro : List HT) (y14 : AV) (T1 : HT) (n1 : Nat) : R :=
 .ok (.val y14) T1 n1
noncomputable def g38 (ro : List HT) (a0 : AV) (T : HT) (nx : Nat) : R :=
 fldK 380003 T ro a0 2 fun x6_1 =>
 notK 380004 x6_1 fun x7_2 =>
 condK 380007 x7_2
 (
  ncK 380009 a0 fun x10_3 =>
  faK 380010 x10_3 3 fun x11_4 =>
  ldK 380011 T ro x11_4 fun x12_5 =>
  eqK Tryz.prog 3 (.tmp 12) (.const (.int .i64 (.ofNat 0))) 380012 x12_5 (.lit (.int .i64 (.ofNat 0))) fun x13_6 =>
  g38_k1 ro x13_6 T nx
 )
 (
  g38_k1 ro (.lit (.bool false)) T nx
 )
theorem g38_ok (ro : List HT) (a0 : AV) (T : HT) (nx : Nat) : GOk Tryz.prog envE 38 [a0] ro T nx (g38 ro a0 T nx) := by
 refine GOk.of_body Tryz.func38 rfl Tryz.ntmps38 (by kernel_rfl) rfl fun r T' n' h1 w0 base ρ0 its hS hP => ?_
 have X : CtxW envE ρ0 ro r T' n' := trivial
 unfold g38 at h1
 refine sr ?_
 refine as_ ?_
 refine dn ?_
 refine sr ?_
 refine mv ?_
 refine fl hS h1 Vdf.fo98_3 Vdf.one4 fun x6_1 h2 => ?_
 refine vy (V.not h2 rfl) fun x7_2 h3 => ?_
 refine mv ?_
 refine ls1 X 14 [(2, (.lit (.bool false)))] (g38_k1 ro) 6 ?_ ?_
 ·
  rcases condK_inv h3 with ⟨e, h5⟩ | ⟨e, h5⟩
  ·
   clear h1 h2 h3
   subst e
   refine mv ?_
   refine vy (V.nc h5 rfl) fun x10_3 h6 => ?_
   refine vy (V.fa h6 rfl Vdf.fo98_4) fun x11_4 h7 => ?_
   refine vy (V.ld hS h7 rfl Vdf.one3) fun x12_5 h8 => ?_
   refine vy (V.eq h8 rfl rfl) fun x13_6 h9 => ?_
   refine pu ?_
   exact la1 hS h9 ⟨rfl, rfl, trivial⟩
  ·
   clear h1 h2 h3
   subst e
   refine sk ?_
   refine sk ?_
   refine sk ?_
   refine sk ?_
   refine sk ?_
   refine pu ?_
   exact la1 hS h5 ⟨rfl, rfl, trivial⟩
 ·
  intro y14 T1 n1 ρ its hS h4
  unfold g38_k1 at h4
  clear h1 h2 h3
  refine as_ ?_
  refine dn ?_
  refine CV.ret ?_
  cases h4
  exact PV.ret (by simp) Tryz.results38 hS (RS.tmp rfl RS.nil) rfl
noncomputable def g18 (ro : List HT) (a0 a1 a2 : AV) (T : HT) (nx : Nat) : R :=
 callK (g14 ro a1 T nx) fun x13_1 T1 n1 =>
 exK 180005 x13_1 0 fun x14_2 =>
 exK 180006 x13_1 1 fun x15_3 =>
 bin0 Tryz.prog .neq 36 (.tmp 16) (.const (.nilIface)) 180010 x15_3 (.lit (.nilIface)) fun x17_4 =>
 condK 180011 x17_4
 (
  .bad 180012
 )
 (
  callK (g38 ro a0 T1 n1) fun x20_5 T2 n2 =>
  notK 180015 x20_5 fun x21_6 =>
  condK 180016 x21_6
  (
   .bad 180017
  )
  (
   fldK 180019 T2 ro a0 1 fun x26_7 =>
   lkSK 180021 T2 ro x26_7 x14_2 (.lit (.pointer none)) false fun x28_8 =>
   bin0 Tryz.prog .neq 101 (.tmp 29) (.const (.pointer none)) 180024 x28_8 (.lit (.pointer none)) fun x30_9 =>
   condK 180025 x30_9
   (
    .bad 180026
   )
   (
    optK 180030 (bld103 [(0, x14_2), (1, a1), (2, a2)]) fun x38_10 =>
    boxK 180031 T2 n2 x38_10 103 fun x39_11 T3 n3 =>
    fldK 180034 T3 ro a0 1 fun x43_12 =>
    msSK 180037 T3 x43_12 x14_2 x39_11 fun T4 =>
    fldK 180040 T4 ro a0 0 fun x50_13 =>
    bsK 180042 T4 n3 1 101 1 [(0, x39_11)] fun x52_14 T5 n5 =>
    shrK 180044 T5 x50_13 fun T6 =>
    appEK 180043 T6 ro n5 101 1 8 x50_13 x52_14 fun x53_15 T7 n7 =>
    faK 180045 a0 0 fun x55_16 =>
    stK 180046 T7 x55_16 x53_15 fun T8 =>
    .ok (.val (.lit (.nilIface))) T8 n7
   )
  )
 )
theorem g18_ok (ro : List HT) (a0 a1 a2 : AV) (T : HT) (nx : Nat) : GOk Tryz.prog envE 18 [a0, a1, a2] ro T nx (g18 ro a0 a1 a2 T nx) := by
 refine GOk.of_body Tryz.func18 rfl Tryz.ntmps18 (by kernel_rfl) rfl fun r T' n' h1 w0 base ρ0 its hS hP => ?_
 have X : CtxW envE ρ0 ro r T' n' := trivial
 unfold g18 at h1
 refine sr ?_
 refine as_ ?_
 refine dn ?_
 refine sr ?_
 refine mv ?_
 refine LV.call hS h1 (g14_ok _ _ _ _ ) hP rfl rfl rfl rfl fun x13_1 T1 n1 h2 ρ its hS => ?_
 refine mv ?_
 refine vy (V.ex h2 rfl) fun x14_2 h3 => ?_
 refine vy (V.ex h3 rfl) fun x15_3 h4 => ?_
 refine as_ ?_
 refine as_ ?_
 refine dn ?_
 refine CV.seq ?_
 refine sr ?_
 refine mv ?_
 refine vy (V.bin0 h4 rfl rfl) fun x17_4 h5 => ?_
 refine dn ?_
 refine CV.cond h5 rfl (fun e h6 => ?_) (fun e h6 => ?_)
 ·
  clear h1 h2 h3 h4 h5
  subst e
  cases h6
 ·
  clear h1 h2 h3 h4 h5
  subst e
  refine CV.skip ?_
  refine PV.thenN ?_
  refine CV.seq ?_
  refine sr ?_
  refine mv ?_
  refine LV.call hS h6 (g38_ok _ _ _ _ ) hP rfl rfl rfl rfl fun x20_5 T2 n2 h7 ρ its hS => ?_
  refine vy (V.not h7 rfl) fun x21_6 h8 => ?_
  refine dn ?_
  refine CV.cond h8 rfl (fun e h9 => ?_) (fun e h9 => ?_)
  ·
   clear h6 h7 h8
   subst e
   cases h9
  ·
   clear h6 h7 h8
   subst e
   refine CV.skip ?_
   refine PV.thenN ?_
   refine CV.seq ?_
   refine sr ?_
   refine mv ?_
   refine fl hS h9 Vdf.fo98_2 Vdf.one95 fun x26_7 h10 => ?_
   refine mv ?_
   refine vy (V.lkS hS h10 rfl rfl Vdf.map95 Vdf.ud9 Vdf.zw101) fun x28_8 h11 => ?_
   refine as_ ?_
   refine dn ?_
   refine sr ?_
   refine mv ?_
   refine vy (V.bin0 h11 rfl rfl) fun x30_9 h12 => ?_
   refine dn ?_
   refine CV.cond h12 rfl (fun e h13 => ?_) (fun e h13 => ?_)
   ·
    clear h9 h10 h11 h12
    subst e
    cases h13
   ·
    clear h9 h10 h11 h12
    subst e
    refine CV.skip ?_
    refine PV.thenN ?_
    refine sr ?_
    refine mv ?_
    refine mv ?_
    refine mv ?_
    refine vy (V.bld h13 rfl) fun x38_10 h14 => ?_
    refine LV.box hS h14 rfl rfl rfl rfl rfl fun x39_11 T3 n3 h15 ρ its hS hdr => ?_
    refine as_ ?_
    refine dn ?_
    refine sr ?_
    refine mv ?_
    refine fl hS h15 Vdf.fo98_2 Vdf.one95 fun x43_12 h16 => ?_
    refine mv ?_
    refine mv ?_
    refine LV.msS hS h16 rfl rfl rfl (.inl rfl) Vdf.map95 Vdf.ud9 rfl rfl fun T4 its h17 hS => ?_
    refine dn ?_
    refine sr ?_
    refine mv ?_
    refine mv ?_
    refine fl hS h17 Vdf.fo98_1 Vdf.one96 fun x50_13 h18 => ?_
    refine mv ?_
    refine LV.bslice hS h18 rfl rfl Vdf.el96 rfl rfl rfl rfl fun x52_14 T5 n5 h19 ρ its hS hdr => ?_
    obtain ⟨T6, its1, h20, hS, hW⟩ := shrK_inv hS h19
    refine LV.world hW ?_
    refine LV.appE hS h20 rfl rfl rfl rfl Vdf.el96 rfl rfl rfl fun x53_15 T7 n7 h21 ρ its hS => ?_
    refine fa2 h21 Vdf.fo98_1 fun x55_16 h22 => ?_
    refine LV.st hS h22 rfl rfl rfl Vdf.siz96 rfl rfl fun T8 its h23 hS => ?_
    refine dn ?_
    refine sr ?_
    refine as_ ?_
    refine dn ?_
    refine CV.ret ?_
    cases h23
    exact PV.ret (by simp) Tryz.results18 hS (RS.tmp rfl RS.nil) rfl
noncomputable def g23 (ro : List HT) (a0 a1 : AV) (T : HT) (nx : Nat) : R :=
 callK (g14 ro a1 T nx) fun x12_1 T1 n1 =>
 exK 230007 x12_1 0 fun x13_2 =>
 exK 230008 x12_1 1 fun x14_3 =>
 bin0 Tryz.prog .neq 36 (.tmp 15) (.const (.nilIface)) 230012 x14_3 (.lit (.nilIface)) fun x16_4 =>
 condK 230013 x16_4
 (
  .bad 230014
 )
 (
  fldK 230016 T1 ro a0 1 fun x21_5 =>
  lkSK 230018 T1 ro x21_5 x13_2 (.lit (.pointer none)) false fun x23_6 =>
  bin0 Tryz.prog .eql 101 (.tmp 24) (.const (.pointer none)) 230021 x23_6 (.lit (.pointer none)) fun x25_7 =>
  condK 230022 x25_7
  (
   .ok (.val (.tup [(.lit (.nilIface)), (.lit (.bool false)), (.lit (.nilIface))])) T1 n1
  )
  (
   fldK 230027 T1 ro x23_6 2 fun x29_8 =>
   .ok (.val (.tup [x29_8, (.lit (.bool true)), (.lit (.nilIface))])) T1 n1
  )
 )
theorem g23_ok (ro : List HT) (a0 a1 : AV) (T : HT) (nx : Nat) : GOk Tryz.prog envE 23 [a0, a1] ro T nx (g23 ro a0 a1 T nx) := by
 refine GOk.of_body Tryz.func23 rfl Tryz.ntmps23 (by kernel_rfl) rfl fun r T' n' h1 w0 base ρ0 its hS hP => ?_
 have X : CtxW envE ρ0 ro r T' n' := trivial
 unfold g23 at h1
 refine sr ?_
 refine as_ ?_
 refine as_ ?_
 refine as_ ?_
 refine dn ?_
 refine sr ?_
 refine mv ?_
 refine LV.call hS h1 (g14_ok _ _ _ _ ) hP rfl rfl rfl rfl fun x12_1 T1 n1 h2 ρ its hS => ?_
 refine mv ?_
 refine vy (V.ex h2 rfl) fun x13_2 h3 => ?_
 refine vy (V.ex h3 rfl) fun x14_3 h4 => ?_
 refine as_ ?_
 refine as_ ?_
 refine dn ?_
 refine CV.seq ?_
 refine sr ?_
 refine mv ?_
 refine vy (V.bin0 h4 rfl rfl) fun x16_4 h5 => ?_
 refine dn ?_
 refine CV.cond h5 rfl (fun e h6 => ?_) (fun e h6 => ?_)
 ·
  clear h1 h2 h3 h4 h5
  subst e
  cases h6
 ·
  clear h1 h2 h3 h4 h5
  subst e
  refine CV.skip ?_
  refine PV.thenN ?_
  refine sr ?_
  refine mv ?_
  refine fl hS h6 Vdf.fo98_2 Vdf.one95 fun x21_5 h7 => ?_
  refine mv ?_
  refine vy (V.lkS hS h7 rfl rfl Vdf.map95 Vdf.ud9 Vdf.zw101) fun x23_6 h8 => ?_
  refine as_ ?_
  refine dn ?_
  refine CV.seq ?_
  refine sr ?_
  refine mv ?_
  refine vy (V.bin0 h8 rfl rfl) fun x25_7 h9 => ?_
  refine dn ?_
  refine CV.cond h9 rfl (fun e h10 => ?_) (fun e h10 => ?_)
  ·
   clear h6 h7 h8 h9
   subst e
   refine sr ?_
   refine as_ ?_
   refine as_ ?_
   refine as_ ?_
   refine dn ?_
   refine CV.ret ?_
   refine PV.thenR ?_
   cases h10
   exact PV.ret (by simp) Tryz.results23 hS (RS.tmp rfl (RS.tmp rfl (RS.tmp rfl RS.nil))) rfl
  ·
   clear h6 h7 h8 h9
   subst e
   refine CV.skip ?_
   refine PV.thenN ?_
   refine sr ?_
   refine mv ?_
   refine fl hS h10 Vdf.fo103_2 Vdf.one25 fun x29_8 h11 => ?_
   refine as_ ?_
   refine as_ ?_
   refine as_ ?_
   refine dn ?_
   refine CV.ret ?_
   cases h11
   exact PV.ret (by simp) Tryz.results23 hS (RS.tmp rfl (RS.tmp rfl (RS.tmp rfl RS.nil))) rfl
noncomputable def g126_b1 (ro : List HT) (lp1 : AV → AV → AV → AV → AV → HT → Nat → R) (y0 y2 y3 y4 y5 : AV) (T2 : HT) (n2 : Nat) : R :=
 lenSK 1260009 y0 fun x12_2 =>
 ltK Tryz.prog 3 (.tmp 10) (.tmp 12) 1260010 y5 x12_2 fun x13_3 =>
 condK 1260011 x13_3
 (
  iaK 1260015 y0 y5 1 fun x20_4 =>
  ldK 1260016 T2 ro x20_4 fun x21_5 =>
  callK (g23 ro y4 x21_5 T2 n2) fun x22_6 T3 n3 =>
  exK 1260019 x22_6 0 fun x23_7 =>
  exK 1260020 x22_6 1 fun x24_8 =>
  exK 1260021 x22_6 2 fun x25_9 =>
  bin0 Tryz.prog .neq 36 (.tmp 26) (.const (.nilIface)) 1260026 x25_9 (.lit (.nilIface)) fun x27_10 =>
  condK 1260027 x27_10
  (
   .bad 1260028
  )
  (
   condK 1260030 x24_8
   (
    .bad 1260031
   )
   (
    iaK 1260035 y0 y5 1 fun x34_11 =>
    ldK 1260036 T3 ro x34_11 fun x35_12 =>
    addK Tryz.prog 3 (.tmp 37) (.const (.int .i64 (.ofNat 1))) 1260039 y5 (.lit (.int .i64 (.ofNat 1))) fun x38_13 =>
    iaK 1260040 y0 x38_13 1 fun x39_14 =>
    ldK 1260041 T3 ro x39_14 fun x40_15 =>
    callK (g18 ro y4 x35_12 x40_15 T3 n3) fun x41_16 T4 n4 =>
    addK Tryz.prog 3 (.tmp 14) (.const (.int .i64 (.ofNat 2))) 1260044 y5 (.lit (.int .i64 (.ofNat 2))) fun x15_17 =>
    lp1 y0 y2 y3 y4 x15_17 T4 n4
   )
  )
 )
 (
  .ok (.val (.tup [(.iface 43 y4), (.lit (.nilIface))])) T2 n2
 )
noncomputable def g126 (ro : List HT) (a0 : AV) (T : HT) (nx : Nat) : R :=
 callK (g16 ro T nx) fun x9_1 T1 n1 =>
 lpf5 1260006 (g126_b1 ro) 100000 a0 (.lit (.nilIface)) (.lit (.nilIface)) x9_1 (.lit (.int .i64 (.ofNat 0))) T1 n1
theorem g126_ok (ro : List HT) (a0 : AV) (T : HT) (nx : Nat) : GOk Tryz.prog envE 126 [a0] ro T nx (g126 ro a0 T nx) := by
 refine GOk.of_body Tryz.func126 rfl Tryz.ntmps126 (by kernel_rfl) rfl fun r T' n' h1 w0 base ρ0 its hS hP => ?_
 have X : CtxW envE ρ0 ro r T' n' := trivial
 unfold g126 at h1
 refine sr ?_
 refine as_ ?_
 refine as_ ?_
 refine dn ?_
 refine sr ?_
 refine LV.call hS h1 (g16_ok _ _ _ ) hP rfl rfl rfl rfl fun x9_1 T1 n1 h2 ρ its hS => ?_
 refine as_ ?_
 refine dn ?_
 refine CV.seq ?_
 refine sr ?_
 refine as_ ?_
 refine dn ?_
 refine CV.block ?_
 refine cl5 X 0 2 3 4 5 [] hS h2 ⟨rfl, rfl, rfl, rfl, rfl, trivial⟩ ?_
 intro f1 y0 y2 y3 y4 y5 T2 n2 ρ its hS h3
 unfold g126_b1 at h3
 clear h1 h2
 refine CV.seq ?_
 refine sr ?_
 refine mv ?_
 refine mv ?_
 refine vy (V.lenS h3 rfl Vdf.ls71) fun x12_2 h4 => ?_
 refine vy (V.lt h4 rfl rfl) fun x13_3 h5 => ?_
 refine dn ?_
 refine CV.cond h5 rfl (fun e h6 => ?_) (fun e h6 => ?_)
 ·
  clear h3 h4 h5
  subst e
  refine CV.skip ?_
  refine PV.thenN ?_
  refine CV.seq ?_
  refine CV.block ?_
  refine sr ?_
  refine mv ?_
  refine mv ?_
  refine mv ?_
  refine vy (V.ia h6 rfl rfl Vdf.el71) fun x20_4 h7 => ?_
  refine vy (V.ld hS h7 rfl Vdf.one25) fun x21_5 h8 => ?_
  refine LV.call hS h8 (g23_ok _ _ _ _ _ ) hP rfl rfl rfl rfl fun x22_6 T3 n3 h9 ρ its hS => ?_
  refine mv ?_
  refine vy (V.ex h9 rfl) fun x23_7 h10 => ?_
  refine vy (V.ex h10 rfl) fun x24_8 h11 => ?_
  refine vy (V.ex h11 rfl) fun x25_9 h12 => ?_
  refine as_ ?_
  refine as_ ?_
  refine as_ ?_
  refine dn ?_
  refine CV.seq ?_
  refine sr ?_
  refine mv ?_
  refine vy (V.bin0 h12 rfl rfl) fun x27_10 h13 => ?_
  refine dn ?_
  refine CV.cond h13 rfl (fun e h14 => ?_) (fun e h14 => ?_)
  ·
   clear h6 h7 h8 h9 h10 h11 h12 h13
   subst e
   cases h14
  ·
   clear h6 h7 h8 h9 h10 h11 h12 h13
   subst e
   refine CV.skip ?_
   refine PV.thenN ?_
   refine CV.seq ?_
   refine sr ?_
   refine mv ?_
   refine dn ?_
   refine CV.cond h14 rfl (fun e h15 => ?_) (fun e h15 => ?_)
   ·
    clear h14
    subst e
    cases h15
   ·
    clear h14
    subst e
    refine CV.skip ?_
    refine PV.thenN ?_
    refine CV.regionM [(0, .anywhere), (1, .anywhere), (2, .anywhere), (3, .anywhere), (4, .held), (5, .anywhere), (6, .anywhere), (7, .anywhere), (8, .anywhere), (9, .held), (10, .alone)] rfl (fun c a a' w hd hq => PanicOk.root (P := Tryz.prog) (fn := Tryz.f126) (w0 := w0) (base := base) (E := envE) (ro := ro) (r := r) (T' := T') (n' := n') (ρ0 := ρ0) c a a' w hd hq) (by kernel_rfl) ?_
    refine MV.step0 (i := 0) rfl (VAL.move rfl) rfl rfl rfl ?_
    refine MV.step0 (i := 1) rfl (VAL.move rfl) rfl rfl rfl ?_
    refine MV.step0 (i := 2) rfl (VAL.move rfl) rfl rfl rfl ?_
    refine MV.lift0 (i := 3) rfl (V.ia h15 rfl rfl Vdf.el71) rfl rfl rfl fun x34_11 h16 => ?_
    refine MV.lift1 (i := 4) rfl (fun _ z => z) (V.ld hS h16 rfl Vdf.one25) rfl rfl rfl [] (by kernel_rfl) fun x35_12 h17 => ?_
    refine MV.step0 (i := 5) rfl (VAL.move rfl) rfl rfl rfl ?_
    refine MV.step0 (i := 6) rfl (VAL.move rfl) rfl rfl rfl ?_
    refine MV.lift0 (i := 7) rfl (V.add h17 rfl rfl) rfl rfl rfl fun x38_13 h18 => ?_
    refine MV.lift0 (i := 8) rfl (V.ia h18 rfl rfl Vdf.el71) rfl rfl rfl fun x39_14 h19 => ?_
    refine MV.lift1 (i := 9) rfl (fun _ z => z) (V.ld hS h19 rfl Vdf.one25) rfl rfl rfl [4] (by kernel_rfl) fun x40_15 h20 => ?_
    refine MV.force (i := 10) rfl ?_
    refine LV.call hS h20 (g18_ok _ _ _ _ _ _ ) hP rfl rfl rfl rfl fun x41_16 T4 n4 h21 ρ its hS => ?_
    refine LV.nextM [] (by kernel_rfl) (fun z => absurd rfl z) ?_
    refine MV.done ?_
    refine PV.blockN ?_
    refine PV.thenN ?_
    refine CV.region ?_
    refine mv ?_
    refine vy (V.add h21 rfl rfl) fun x15_17 h22 => ?_
    refine as_ ?_
    refine LV.done ?_
    exact pb5 hS h22 ⟨rfl, rfl, rfl, rfl, rfl, trivial⟩
 ·
  clear h3 h4 h5
  subst e
  refine CV.exit ?_
  refine PV.thenE ?_
  refine PV.thenE ?_
  refine PV.blockE ?_
  refine PV.thenN ?_
  refine sr ?_
  refine mv ?_
  refine sv (VAL.mkI rfl Vdf.ni43) ?_
  refine as_ ?_
  refine as_ ?_
  refine dn ?_
  refine CV.ret ?_
  cases h6
  exact PV.ret (by simp) Tryz.results126 hS (RS.tmp rfl (RS.tmp rfl RS.nil)) rfl

end Go.Proofs.YtlljgagoboapaaaGreatDoor.Vd
