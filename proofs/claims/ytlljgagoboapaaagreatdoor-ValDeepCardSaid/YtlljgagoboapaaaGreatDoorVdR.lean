/-
  Proved here: the statement called with any numbers returns true.
-/
import Derived.Test.YtlljgagoboapaaaGreatDoorVdRa
import Derived.Test.YtlljgagoboapaaaGreatDoorVdRb
import Derived.Test.YtlljgagoboapaaaGreatDoorVdRc
import Derived.Test.YtlljgagoboapaaaGreatDoorVdRd
import Derived.Test.YtlljgagoboapaaaGreatDoorVdRe
import Derived.Test.YtlljgagoboapaaaGreatDoorVdRf
import Derived.Test.YtlljgagoboapaaaGreatDoorEnvQ
import Derived.Test.YtlljgagoboapaaaGreatDoorNmc
namespace Go.Proofs.YtlljgagoboapaaaGreatDoor.VdR
open Go.EY Go.EX Go.SX Go.RowKit Env
theorem all (q0 : AV) (i0 : Nat) (h0 : i0 < 100) (b : Bool) : okT (Vd.g3 (.lit (.int .i64 (.ofNat i0))) (100) [] q0 (.lit (.bool b)) .nil 1) = true := by
  match i0, h0 with
  | 0, _ => cases b with
    | false => exact Vd.run_0_f q0
    | true => exact Vd.run_0_t q0
  | 1, _ => cases b with
    | false => exact Vd.run_1_f q0
    | true => exact Vd.run_1_t q0
  | 2, _ => cases b with
    | false => exact Vd.run_2_f q0
    | true => exact Vd.run_2_t q0
  | 3, _ => cases b with
    | false => exact Vd.run_3_f q0
    | true => exact Vd.run_3_t q0
  | 4, _ => cases b with
    | false => exact Vd.run_4_f q0
    | true => exact Vd.run_4_t q0
  | 5, _ => cases b with
    | false => exact Vd.run_5_f q0
    | true => exact Vd.run_5_t q0
  | 6, _ => cases b with
    | false => exact Vd.run_6_f q0
    | true => exact Vd.run_6_t q0
  | 7, _ => cases b with
    | false => exact Vd.run_7_f q0
    | true => exact Vd.run_7_t q0
  | 8, _ => cases b with
    | false => exact Vd.run_8_f q0
    | true => exact Vd.run_8_t q0
  | 9, _ => cases b with
    | false => exact Vd.run_9_f q0
    | true => exact Vd.run_9_t q0
  | 10, _ => cases b with
    | false => exact Vd.run_10_f q0
    | true => exact Vd.run_10_t q0
  | 11, _ => cases b with
    | false => exact Vd.run_11_f q0
    | true => exact Vd.run_11_t q0
  | 12, _ => cases b with
    | false => exact Vd.run_12_f q0
    | true => exact Vd.run_12_t q0
  | 13, _ => cases b with
    | false => exact Vd.run_13_f q0
    | true => exact Vd.run_13_t q0
  | 14, _ => cases b with
    | false => exact Vd.run_14_f q0
    | true => exact Vd.run_14_t q0
  | 15, _ => cases b with
    | false => exact Vd.run_15_f q0
    | true => exact Vd.run_15_t q0
  | 16, _ => cases b with
    | false => exact Vd.run_16_f q0
    | true => exact Vd.run_16_t q0
  | 17, _ => cases b with
    | false => exact Vd.run_17_f q0
    | true => exact Vd.run_17_t q0
  | 18, _ => cases b with
    | false => exact Vd.run_18_f q0
    | true => exact Vd.run_18_t q0
  | 19, _ => cases b with
    | false => exact Vd.run_19_f q0
    | true => exact Vd.run_19_t q0
  | 20, _ => cases b with
    | false => exact Vd.run_20_f q0
    | true => exact Vd.run_20_t q0
  | 21, _ => cases b with
    | false => exact Vd.run_21_f q0
    | true => exact Vd.run_21_t q0
  | 22, _ => cases b with
    | false => exact Vd.run_22_f q0
    | true => exact Vd.run_22_t q0
  | 23, _ => cases b with
    | false => exact Vd.run_23_f q0
    | true => exact Vd.run_23_t q0
  | 24, _ => cases b with
    | false => exact Vd.run_24_f q0
    | true => exact Vd.run_24_t q0
  | 25, _ => cases b with
    | false => exact Vd.run_25_f q0
    | true => exact Vd.run_25_t q0
  | 26, _ => cases b with
    | false => exact Vd.run_26_f q0
    | true => exact Vd.run_26_t q0
  | 27, _ => cases b with
    | false => exact Vd.run_27_f q0
    | true => exact Vd.run_27_t q0
  | 28, _ => cases b with
    | false => exact Vd.run_28_f q0
    | true => exact Vd.run_28_t q0
  | 29, _ => cases b with
    | false => exact Vd.run_29_f q0
    | true => exact Vd.run_29_t q0
  | 30, _ => cases b with
    | false => exact Vd.run_30_f q0
    | true => exact Vd.run_30_t q0
  | 31, _ => cases b with
    | false => exact Vd.run_31_f q0
    | true => exact Vd.run_31_t q0
  | 32, _ => cases b with
    | false => exact Vd.run_32_f q0
    | true => exact Vd.run_32_t q0
  | 33, _ => cases b with
    | false => exact Vd.run_33_f q0
    | true => exact Vd.run_33_t q0
  | 34, _ => cases b with
    | false => exact Vd.run_34_f q0
    | true => exact Vd.run_34_t q0
  | 35, _ => cases b with
    | false => exact Vd.run_35_f q0
    | true => exact Vd.run_35_t q0
  | 36, _ => cases b with
    | false => exact Vd.run_36_f q0
    | true => exact Vd.run_36_t q0
  | 37, _ => cases b with
    | false => exact Vd.run_37_f q0
    | true => exact Vd.run_37_t q0
  | 38, _ => cases b with
    | false => exact Vd.run_38_f q0
    | true => exact Vd.run_38_t q0
  | 39, _ => cases b with
    | false => exact Vd.run_39_f q0
    | true => exact Vd.run_39_t q0
  | 40, _ => cases b with
    | false => exact Vd.run_40_f q0
    | true => exact Vd.run_40_t q0
  | 41, _ => cases b with
    | false => exact Vd.run_41_f q0
    | true => exact Vd.run_41_t q0
  | 42, _ => cases b with
    | false => exact Vd.run_42_f q0
    | true => exact Vd.run_42_t q0
  | 43, _ => cases b with
    | false => exact Vd.run_43_f q0
    | true => exact Vd.run_43_t q0
  | 44, _ => cases b with
    | false => exact Vd.run_44_f q0
    | true => exact Vd.run_44_t q0
  | 45, _ => cases b with
    | false => exact Vd.run_45_f q0
    | true => exact Vd.run_45_t q0
  | 46, _ => cases b with
    | false => exact Vd.run_46_f q0
    | true => exact Vd.run_46_t q0
  | 47, _ => cases b with
    | false => exact Vd.run_47_f q0
    | true => exact Vd.run_47_t q0
  | 48, _ => cases b with
    | false => exact Vd.run_48_f q0
    | true => exact Vd.run_48_t q0
  | 49, _ => cases b with
    | false => exact Vd.run_49_f q0
    | true => exact Vd.run_49_t q0
  | 50, _ => cases b with
    | false => exact Vd.run_50_f q0
    | true => exact Vd.run_50_t q0
  | 51, _ => cases b with
    | false => exact Vd.run_51_f q0
    | true => exact Vd.run_51_t q0
  | 52, _ => cases b with
    | false => exact Vd.run_52_f q0
    | true => exact Vd.run_52_t q0
  | 53, _ => cases b with
    | false => exact Vd.run_53_f q0
    | true => exact Vd.run_53_t q0
  | 54, _ => cases b with
    | false => exact Vd.run_54_f q0
    | true => exact Vd.run_54_t q0
  | 55, _ => cases b with
    | false => exact Vd.run_55_f q0
    | true => exact Vd.run_55_t q0
  | 56, _ => cases b with
    | false => exact Vd.run_56_f q0
    | true => exact Vd.run_56_t q0
  | 57, _ => cases b with
    | false => exact Vd.run_57_f q0
    | true => exact Vd.run_57_t q0
  | 58, _ => cases b with
    | false => exact Vd.run_58_f q0
    | true => exact Vd.run_58_t q0
  | 59, _ => cases b with
    | false => exact Vd.run_59_f q0
    | true => exact Vd.run_59_t q0
  | 60, _ => cases b with
    | false => exact Vd.run_60_f q0
    | true => exact Vd.run_60_t q0
  | 61, _ => cases b with
    | false => exact Vd.run_61_f q0
    | true => exact Vd.run_61_t q0
  | 62, _ => cases b with
    | false => exact Vd.run_62_f q0
    | true => exact Vd.run_62_t q0
  | 63, _ => cases b with
    | false => exact Vd.run_63_f q0
    | true => exact Vd.run_63_t q0
  | 64, _ => cases b with
    | false => exact Vd.run_64_f q0
    | true => exact Vd.run_64_t q0
  | 65, _ => cases b with
    | false => exact Vd.run_65_f q0
    | true => exact Vd.run_65_t q0
  | 66, _ => cases b with
    | false => exact Vd.run_66_f q0
    | true => exact Vd.run_66_t q0
  | 67, _ => cases b with
    | false => exact Vd.run_67_f q0
    | true => exact Vd.run_67_t q0
  | 68, _ => cases b with
    | false => exact Vd.run_68_f q0
    | true => exact Vd.run_68_t q0
  | 69, _ => cases b with
    | false => exact Vd.run_69_f q0
    | true => exact Vd.run_69_t q0
  | 70, _ => cases b with
    | false => exact Vd.run_70_f q0
    | true => exact Vd.run_70_t q0
  | 71, _ => cases b with
    | false => exact Vd.run_71_f q0
    | true => exact Vd.run_71_t q0
  | 72, _ => cases b with
    | false => exact Vd.run_72_f q0
    | true => exact Vd.run_72_t q0
  | 73, _ => cases b with
    | false => exact Vd.run_73_f q0
    | true => exact Vd.run_73_t q0
  | 74, _ => cases b with
    | false => exact Vd.run_74_f q0
    | true => exact Vd.run_74_t q0
  | 75, _ => cases b with
    | false => exact Vd.run_75_f q0
    | true => exact Vd.run_75_t q0
  | 76, _ => cases b with
    | false => exact Vd.run_76_f q0
    | true => exact Vd.run_76_t q0
  | 77, _ => cases b with
    | false => exact Vd.run_77_f q0
    | true => exact Vd.run_77_t q0
  | 78, _ => cases b with
    | false => exact Vd.run_78_f q0
    | true => exact Vd.run_78_t q0
  | 79, _ => cases b with
    | false => exact Vd.run_79_f q0
    | true => exact Vd.run_79_t q0
  | 80, _ => cases b with
    | false => exact Vd.run_80_f q0
    | true => exact Vd.run_80_t q0
  | 81, _ => cases b with
    | false => exact Vd.run_81_f q0
    | true => exact Vd.run_81_t q0
  | 82, _ => cases b with
    | false => exact Vd.run_82_f q0
    | true => exact Vd.run_82_t q0
  | 83, _ => cases b with
    | false => exact Vd.run_83_f q0
    | true => exact Vd.run_83_t q0
  | 84, _ => cases b with
    | false => exact Vd.run_84_f q0
    | true => exact Vd.run_84_t q0
  | 85, _ => cases b with
    | false => exact Vd.run_85_f q0
    | true => exact Vd.run_85_t q0
  | 86, _ => cases b with
    | false => exact Vd.run_86_f q0
    | true => exact Vd.run_86_t q0
  | 87, _ => cases b with
    | false => exact Vd.run_87_f q0
    | true => exact Vd.run_87_t q0
  | 88, _ => cases b with
    | false => exact Vd.run_88_f q0
    | true => exact Vd.run_88_t q0
  | 89, _ => cases b with
    | false => exact Vd.run_89_f q0
    | true => exact Vd.run_89_t q0
  | 90, _ => cases b with
    | false => exact Vd.run_90_f q0
    | true => exact Vd.run_90_t q0
  | 91, _ => cases b with
    | false => exact Vd.run_91_f q0
    | true => exact Vd.run_91_t q0
  | 92, _ => cases b with
    | false => exact Vd.run_92_f q0
    | true => exact Vd.run_92_t q0
  | 93, _ => cases b with
    | false => exact Vd.run_93_f q0
    | true => exact Vd.run_93_t q0
  | 94, _ => cases b with
    | false => exact Vd.run_94_f q0
    | true => exact Vd.run_94_t q0
  | 95, _ => cases b with
    | false => exact Vd.run_95_f q0
    | true => exact Vd.run_95_t q0
  | 96, _ => cases b with
    | false => exact Vd.run_96_f q0
    | true => exact Vd.run_96_t q0
  | 97, _ => cases b with
    | false => exact Vd.run_97_f q0
    | true => exact Vd.run_97_t q0
  | 98, _ => cases b with
    | false => exact Vd.run_98_f q0
    | true => exact Vd.run_98_t q0
  | 99, _ => cases b with
    | false => exact Vd.run_99_f q0
    | true => exact Vd.run_99_t q0
  | _ + 100, h => exact absurd h (by omega)
/-- names for the errors that the variables hold -/
def errRho (aE : Nat → Addr) : Rho := ⟨[], fun i => .pointer (some (aE i))⟩
theorem errEE {w0 : World} {base : Nat} {aE : Nat → Addr} (hS : EnvS w0 base aE) : EE w0 base (errRho aE) Vd.envE := by
  have key : ∀ i g, sentG[i]? = some g → ∃ u, inst (errRho aE) (.iface 347 (.opq i)) = some u ∧ w0.cell? ⟨g, 0, none⟩ = some u ∧ g < base := fun i g hi => ⟨_, rfl, hS.at_ i g hi, hS.lt g (List.mem_of_getElem? hi)⟩
  intro g v hv
  unfold Vd.envE at hv
  simp only [lookE] at hv
  split at hv
  · rename_i hb
    cases hv
    obtain rfl := beqT hb
    exact key 0 _ rfl
  split at hv
  · rename_i hb
    cases hv
    obtain rfl := beqT hb
    exact key 1 _ rfl
  split at hv
  · rename_i hb
    cases hv
    obtain rfl := beqT hb
    exact key 2 _ rfl
  split at hv
  · rename_i hb
    cases hv
    obtain rfl := beqT hb
    exact key 3 _ rfl
  split at hv
  · rename_i hb
    cases hv
    obtain rfl := beqT hb
    exact key 4 _ rfl
  split at hv
  · rename_i hb
    cases hv
    obtain rfl := beqT hb
    exact key 5 _ rfl
  split at hv
  · rename_i hb
    cases hv
    obtain rfl := beqT hb
    exact key 6 _ rfl
  split at hv
  · rename_i hb
    cases hv
    obtain rfl := beqT hb
    exact key 7 _ rfl
  split at hv
  · rename_i hb
    cases hv
    obtain rfl := beqT hb
    exact key 8 _ rfl
  split at hv
  · rename_i hb
    cases hv
    obtain rfl := beqT hb
    exact key 9 _ rfl
  split at hv
  · rename_i hb
    cases hv
    obtain rfl := beqT hb
    exact key 10 _ rfl
  split at hv
  · rename_i hb
    cases hv
    obtain rfl := beqT hb
    exact key 11 _ rfl
  split at hv
  · rename_i hb
    cases hv
    obtain rfl := beqT hb
    exact key 12 _ rfl
  split at hv
  · rename_i hb
    cases hv
    obtain rfl := beqT hb
    exact key 13 _ rfl
  split at hv
  · rename_i hb
    cases hv
    obtain rfl := beqT hb
    exact key 14 _ rfl
  split at hv
  · rename_i hb
    cases hv
    obtain rfl := beqT hb
    exact key 15 _ rfl
  split at hv
  · rename_i hb
    cases hv
    obtain rfl := beqT hb
    exact key 16 _ rfl
  cases hv
theorem errOPQ {w0 : World} {base : Nat} {aE : Nat → Addr} (hS : EnvS w0 base aE) : OPQ w0 base (errRho aE) := ⟨aE, fun _ _ => rfl, hS.blk, hS.ne⟩
theorem first_run : okT (Vd.g6 [.nil] .nil 1) = true := by kernel_rfl
theorem law_c {w0 : World} {base : Nat} {aE : Nat → Addr} (hS : EnvS w0 base aE) (n0 : Int) (b : Bool) : FnC Tryz.prog 3 #[.int .i64 n0, .bool b] (WA w0 base []) (fun _ : Unit => .bool true) (fun _ => WA w0 base []) := by
  obtain ⟨i0, h0, e0⟩ := numI_ok n0 (show 0 < 100 by omega)
  obtain ⟨T2, n2, hF0⟩ := okT_eq first_run
  have hF1 := Vd.g6_ok [.nil] .nil 1
  rw [hF0] at hF1
  exact okT_c (vs := [.int .i64 n0, .bool b]) (Vd.g3_ok (.lit (.int .i64 (.ofNat i0))) (100) (.lit (.int .i64 n0)) (.lit (.bool b)) (fun z ro T nx => number_is _ n0 (by omega) (by omega) e0 z ro T nx) [] .nil 1 (GOk.quiet hF1 rfl)) (all (.lit (.int .i64 n0)) i0 h0 b) (errRho aE) (errEE hS) (errOPQ hS) (fun _ _ => rfl)
end Go.Proofs.YtlljgagoboapaaaGreatDoor.VdR
