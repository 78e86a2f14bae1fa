/-
  Proved here: the runs of AstTrees, from 0 to 8: each comes to 'true'.
-/
import Derived.Test.YtggoogbloaennaaDoorTre
namespace Go.Proofs.YtggoogbloaennaaDoor.Tr
open Go.EY Go.EX Go.SX Go.RowKit
theorem run0_0 (q0 q1 : AV) : okT (g3 (.int .i64 (.ofNat 0)) (.int .i64 (.ofNat 0)) [] q0 q1 .nil 1) = true := by kernel_rfl
theorem run0_1 (q0 q1 : AV) : okT (g3 (.int .i64 (.ofNat 0)) (.int .i64 (.ofNat 1)) [] q0 q1 .nil 1) = true := by kernel_rfl
theorem run0_2 (q0 q1 : AV) : okT (g3 (.int .i64 (.ofNat 0)) (.int .i64 (.ofNat 2)) [] q0 q1 .nil 1) = true := by kernel_rfl
theorem run0_3 (q0 q1 : AV) : okT (g3 (.int .i64 (.ofNat 0)) (.int .i64 (.ofNat 3)) [] q0 q1 .nil 1) = true := by kernel_rfl
theorem run0_4 (q0 q1 : AV) : okT (g3 (.int .i64 (.ofNat 0)) (.int .i64 (.ofNat 4)) [] q0 q1 .nil 1) = true := by kernel_rfl
theorem run0 (q0 q1 : AV) (j : Nat) (hj : j < 5) : okT (g3 (.int .i64 (.ofNat 0)) (.int .i64 (.ofNat j)) [] q0 q1 .nil 1) = true := by
  match j, hj with
  | 0, _ => exact run0_0 q0 q1
  | 1, _ => exact run0_1 q0 q1
  | 2, _ => exact run0_2 q0 q1
  | 3, _ => exact run0_3 q0 q1
  | 4, _ => exact run0_4 q0 q1
  | _ + 5, h => exact absurd h (by omega)
theorem run1_0 (q0 q1 : AV) : okT (g3 (.int .i64 (.ofNat 1)) (.int .i64 (.ofNat 0)) [] q0 q1 .nil 1) = true := by kernel_rfl
theorem run1_1 (q0 q1 : AV) : okT (g3 (.int .i64 (.ofNat 1)) (.int .i64 (.ofNat 1)) [] q0 q1 .nil 1) = true := by kernel_rfl
theorem run1_2 (q0 q1 : AV) : okT (g3 (.int .i64 (.ofNat 1)) (.int .i64 (.ofNat 2)) [] q0 q1 .nil 1) = true := by kernel_rfl
theorem run1_3 (q0 q1 : AV) : okT (g3 (.int .i64 (.ofNat 1)) (.int .i64 (.ofNat 3)) [] q0 q1 .nil 1) = true := by kernel_rfl
theorem run1_4 (q0 q1 : AV) : okT (g3 (.int .i64 (.ofNat 1)) (.int .i64 (.ofNat 4)) [] q0 q1 .nil 1) = true := by kernel_rfl
theorem run1 (q0 q1 : AV) (j : Nat) (hj : j < 5) : okT (g3 (.int .i64 (.ofNat 1)) (.int .i64 (.ofNat j)) [] q0 q1 .nil 1) = true := by
  match j, hj with
  | 0, _ => exact run1_0 q0 q1
  | 1, _ => exact run1_1 q0 q1
  | 2, _ => exact run1_2 q0 q1
  | 3, _ => exact run1_3 q0 q1
  | 4, _ => exact run1_4 q0 q1
  | _ + 5, h => exact absurd h (by omega)
theorem run2_0 (q0 q1 : AV) : okT (g3 (.int .i64 (.ofNat 2)) (.int .i64 (.ofNat 0)) [] q0 q1 .nil 1) = true := by kernel_rfl
theorem run2_1 (q0 q1 : AV) : okT (g3 (.int .i64 (.ofNat 2)) (.int .i64 (.ofNat 1)) [] q0 q1 .nil 1) = true := by kernel_rfl
theorem run2_2 (q0 q1 : AV) : okT (g3 (.int .i64 (.ofNat 2)) (.int .i64 (.ofNat 2)) [] q0 q1 .nil 1) = true := by kernel_rfl
theorem run2_3 (q0 q1 : AV) : okT (g3 (.int .i64 (.ofNat 2)) (.int .i64 (.ofNat 3)) [] q0 q1 .nil 1) = true := by kernel_rfl
theorem run2_4 (q0 q1 : AV) : okT (g3 (.int .i64 (.ofNat 2)) (.int .i64 (.ofNat 4)) [] q0 q1 .nil 1) = true := by kernel_rfl
theorem run2 (q0 q1 : AV) (j : Nat) (hj : j < 5) : okT (g3 (.int .i64 (.ofNat 2)) (.int .i64 (.ofNat j)) [] q0 q1 .nil 1) = true := by
  match j, hj with
  | 0, _ => exact run2_0 q0 q1
  | 1, _ => exact run2_1 q0 q1
  | 2, _ => exact run2_2 q0 q1
  | 3, _ => exact run2_3 q0 q1
  | 4, _ => exact run2_4 q0 q1
  | _ + 5, h => exact absurd h (by omega)
theorem run3_0 (q0 q1 : AV) : okT (g3 (.int .i64 (.ofNat 3)) (.int .i64 (.ofNat 0)) [] q0 q1 .nil 1) = true := by kernel_rfl
theorem run3_1 (q0 q1 : AV) : okT (g3 (.int .i64 (.ofNat 3)) (.int .i64 (.ofNat 1)) [] q0 q1 .nil 1) = true := by kernel_rfl
theorem run3_2 (q0 q1 : AV) : okT (g3 (.int .i64 (.ofNat 3)) (.int .i64 (.ofNat 2)) [] q0 q1 .nil 1) = true := by kernel_rfl
theorem run3_3 (q0 q1 : AV) : okT (g3 (.int .i64 (.ofNat 3)) (.int .i64 (.ofNat 3)) [] q0 q1 .nil 1) = true := by kernel_rfl
theorem run3_4 (q0 q1 : AV) : okT (g3 (.int .i64 (.ofNat 3)) (.int .i64 (.ofNat 4)) [] q0 q1 .nil 1) = true := by kernel_rfl
theorem run3 (q0 q1 : AV) (j : Nat) (hj : j < 5) : okT (g3 (.int .i64 (.ofNat 3)) (.int .i64 (.ofNat j)) [] q0 q1 .nil 1) = true := by
  match j, hj with
  | 0, _ => exact run3_0 q0 q1
  | 1, _ => exact run3_1 q0 q1
  | 2, _ => exact run3_2 q0 q1
  | 3, _ => exact run3_3 q0 q1
  | 4, _ => exact run3_4 q0 q1
  | _ + 5, h => exact absurd h (by omega)
theorem run4_0 (q0 q1 : AV) : okT (g3 (.int .i64 (.ofNat 4)) (.int .i64 (.ofNat 0)) [] q0 q1 .nil 1) = true := by kernel_rfl
theorem run4_1 (q0 q1 : AV) : okT (g3 (.int .i64 (.ofNat 4)) (.int .i64 (.ofNat 1)) [] q0 q1 .nil 1) = true := by kernel_rfl
theorem run4_2 (q0 q1 : AV) : okT (g3 (.int .i64 (.ofNat 4)) (.int .i64 (.ofNat 2)) [] q0 q1 .nil 1) = true := by kernel_rfl
theorem run4_3 (q0 q1 : AV) : okT (g3 (.int .i64 (.ofNat 4)) (.int .i64 (.ofNat 3)) [] q0 q1 .nil 1) = true := by kernel_rfl
theorem run4_4 (q0 q1 : AV) : okT (g3 (.int .i64 (.ofNat 4)) (.int .i64 (.ofNat 4)) [] q0 q1 .nil 1) = true := by kernel_rfl
theorem run4 (q0 q1 : AV) (j : Nat) (hj : j < 5) : okT (g3 (.int .i64 (.ofNat 4)) (.int .i64 (.ofNat j)) [] q0 q1 .nil 1) = true := by
  match j, hj with
  | 0, _ => exact run4_0 q0 q1
  | 1, _ => exact run4_1 q0 q1
  | 2, _ => exact run4_2 q0 q1
  | 3, _ => exact run4_3 q0 q1
  | 4, _ => exact run4_4 q0 q1
  | _ + 5, h => exact absurd h (by omega)
theorem run5_0 (q0 q1 : AV) : okT (g3 (.int .i64 (.ofNat 5)) (.int .i64 (.ofNat 0)) [] q0 q1 .nil 1) = true := by kernel_rfl
theorem run5_1 (q0 q1 : AV) : okT (g3 (.int .i64 (.ofNat 5)) (.int .i64 (.ofNat 1)) [] q0 q1 .nil 1) = true := by kernel_rfl
theorem run5_2 (q0 q1 : AV) : okT (g3 (.int .i64 (.ofNat 5)) (.int .i64 (.ofNat 2)) [] q0 q1 .nil 1) = true := by kernel_rfl
theorem run5_3 (q0 q1 : AV) : okT (g3 (.int .i64 (.ofNat 5)) (.int .i64 (.ofNat 3)) [] q0 q1 .nil 1) = true := by kernel_rfl
theorem run5_4 (q0 q1 : AV) : okT (g3 (.int .i64 (.ofNat 5)) (.int .i64 (.ofNat 4)) [] q0 q1 .nil 1) = true := by kernel_rfl
theorem run5 (q0 q1 : AV) (j : Nat) (hj : j < 5) : okT (g3 (.int .i64 (.ofNat 5)) (.int .i64 (.ofNat j)) [] q0 q1 .nil 1) = true := by
  match j, hj with
  | 0, _ => exact run5_0 q0 q1
  | 1, _ => exact run5_1 q0 q1
  | 2, _ => exact run5_2 q0 q1
  | 3, _ => exact run5_3 q0 q1
  | 4, _ => exact run5_4 q0 q1
  | _ + 5, h => exact absurd h (by omega)
theorem run6_0 (q0 q1 : AV) : okT (g3 (.int .i64 (.ofNat 6)) (.int .i64 (.ofNat 0)) [] q0 q1 .nil 1) = true := by kernel_rfl
theorem run6_1 (q0 q1 : AV) : okT (g3 (.int .i64 (.ofNat 6)) (.int .i64 (.ofNat 1)) [] q0 q1 .nil 1) = true := by kernel_rfl
theorem run6_2 (q0 q1 : AV) : okT (g3 (.int .i64 (.ofNat 6)) (.int .i64 (.ofNat 2)) [] q0 q1 .nil 1) = true := by kernel_rfl
theorem run6_3 (q0 q1 : AV) : okT (g3 (.int .i64 (.ofNat 6)) (.int .i64 (.ofNat 3)) [] q0 q1 .nil 1) = true := by kernel_rfl
theorem run6_4 (q0 q1 : AV) : okT (g3 (.int .i64 (.ofNat 6)) (.int .i64 (.ofNat 4)) [] q0 q1 .nil 1) = true := by kernel_rfl
theorem run6 (q0 q1 : AV) (j : Nat) (hj : j < 5) : okT (g3 (.int .i64 (.ofNat 6)) (.int .i64 (.ofNat j)) [] q0 q1 .nil 1) = true := by
  match j, hj with
  | 0, _ => exact run6_0 q0 q1
  | 1, _ => exact run6_1 q0 q1
  | 2, _ => exact run6_2 q0 q1
  | 3, _ => exact run6_3 q0 q1
  | 4, _ => exact run6_4 q0 q1
  | _ + 5, h => exact absurd h (by omega)
theorem run7_0 (q0 q1 : AV) : okT (g3 (.int .i64 (.ofNat 7)) (.int .i64 (.ofNat 0)) [] q0 q1 .nil 1) = true := by kernel_rfl
theorem run7_1 (q0 q1 : AV) : okT (g3 (.int .i64 (.ofNat 7)) (.int .i64 (.ofNat 1)) [] q0 q1 .nil 1) = true := by kernel_rfl
theorem run7_2 (q0 q1 : AV) : okT (g3 (.int .i64 (.ofNat 7)) (.int .i64 (.ofNat 2)) [] q0 q1 .nil 1) = true := by kernel_rfl
theorem run7_3 (q0 q1 : AV) : okT (g3 (.int .i64 (.ofNat 7)) (.int .i64 (.ofNat 3)) [] q0 q1 .nil 1) = true := by kernel_rfl
theorem run7_4 (q0 q1 : AV) : okT (g3 (.int .i64 (.ofNat 7)) (.int .i64 (.ofNat 4)) [] q0 q1 .nil 1) = true := by kernel_rfl
theorem run7 (q0 q1 : AV) (j : Nat) (hj : j < 5) : okT (g3 (.int .i64 (.ofNat 7)) (.int .i64 (.ofNat j)) [] q0 q1 .nil 1) = true := by
  match j, hj with
  | 0, _ => exact run7_0 q0 q1
  | 1, _ => exact run7_1 q0 q1
  | 2, _ => exact run7_2 q0 q1
  | 3, _ => exact run7_3 q0 q1
  | 4, _ => exact run7_4 q0 q1
  | _ + 5, h => exact absurd h (by omega)
theorem run8_0 (q0 q1 : AV) : okT (g3 (.int .i64 (.ofNat 8)) (.int .i64 (.ofNat 0)) [] q0 q1 .nil 1) = true := by kernel_rfl
theorem run8_1 (q0 q1 : AV) : okT (g3 (.int .i64 (.ofNat 8)) (.int .i64 (.ofNat 1)) [] q0 q1 .nil 1) = true := by kernel_rfl
theorem run8_2 (q0 q1 : AV) : okT (g3 (.int .i64 (.ofNat 8)) (.int .i64 (.ofNat 2)) [] q0 q1 .nil 1) = true := by kernel_rfl
theorem run8_3 (q0 q1 : AV) : okT (g3 (.int .i64 (.ofNat 8)) (.int .i64 (.ofNat 3)) [] q0 q1 .nil 1) = true := by kernel_rfl
theorem run8_4 (q0 q1 : AV) : okT (g3 (.int .i64 (.ofNat 8)) (.int .i64 (.ofNat 4)) [] q0 q1 .nil 1) = true := by kernel_rfl
theorem run8 (q0 q1 : AV) (j : Nat) (hj : j < 5) : okT (g3 (.int .i64 (.ofNat 8)) (.int .i64 (.ofNat j)) [] q0 q1 .nil 1) = true := by
  match j, hj with
  | 0, _ => exact run8_0 q0 q1
  | 1, _ => exact run8_1 q0 q1
  | 2, _ => exact run8_2 q0 q1
  | 3, _ => exact run8_3 q0 q1
  | 4, _ => exact run8_4 q0 q1
  | _ + 5, h => exact absurd h (by omega)
end Go.Proofs.YtggoogbloaennaaDoor.Tr
