/-
  Proved here: the runs of AstTrees, from 14 to 17: each comes to 'true'.
-/
import Derived.Test.YtggoogbloaennaaDoorTre
namespace Go.Proofs.YtggoogbloaennaaDoor.Tr
open Go.EY Go.EX Go.SX Go.RowKit
theorem run14_0 (q0 q1 : AV) : okT (g3 (.int .i64 (.ofNat 14)) (.int .i64 (.ofNat 0)) [] q0 q1 .nil 1) = true := by kernel_rfl
theorem run14_1 (q0 q1 : AV) : okT (g3 (.int .i64 (.ofNat 14)) (.int .i64 (.ofNat 1)) [] q0 q1 .nil 1) = true := by kernel_rfl
theorem run14_2 (q0 q1 : AV) : okT (g3 (.int .i64 (.ofNat 14)) (.int .i64 (.ofNat 2)) [] q0 q1 .nil 1) = true := by kernel_rfl
theorem run14_3 (q0 q1 : AV) : okT (g3 (.int .i64 (.ofNat 14)) (.int .i64 (.ofNat 3)) [] q0 q1 .nil 1) = true := by kernel_rfl
theorem run14_4 (q0 q1 : AV) : okT (g3 (.int .i64 (.ofNat 14)) (.int .i64 (.ofNat 4)) [] q0 q1 .nil 1) = true := by kernel_rfl
theorem run14 (q0 q1 : AV) (j : Nat) (hj : j < 5) : okT (g3 (.int .i64 (.ofNat 14)) (.int .i64 (.ofNat j)) [] q0 q1 .nil 1) = true := by
  match j, hj with
  | 0, _ => exact run14_0 q0 q1
  | 1, _ => exact run14_1 q0 q1
  | 2, _ => exact run14_2 q0 q1
  | 3, _ => exact run14_3 q0 q1
  | 4, _ => exact run14_4 q0 q1
  | _ + 5, h => exact absurd h (by omega)
theorem run15_0 (q0 q1 : AV) : okT (g3 (.int .i64 (.ofNat 15)) (.int .i64 (.ofNat 0)) [] q0 q1 .nil 1) = true := by kernel_rfl
theorem run15_1 (q0 q1 : AV) : okT (g3 (.int .i64 (.ofNat 15)) (.int .i64 (.ofNat 1)) [] q0 q1 .nil 1) = true := by kernel_rfl
theorem run15_2 (q0 q1 : AV) : okT (g3 (.int .i64 (.ofNat 15)) (.int .i64 (.ofNat 2)) [] q0 q1 .nil 1) = true := by kernel_rfl
theorem run15_3 (q0 q1 : AV) : okT (g3 (.int .i64 (.ofNat 15)) (.int .i64 (.ofNat 3)) [] q0 q1 .nil 1) = true := by kernel_rfl
theorem run15_4 (q0 q1 : AV) : okT (g3 (.int .i64 (.ofNat 15)) (.int .i64 (.ofNat 4)) [] q0 q1 .nil 1) = true := by kernel_rfl
theorem run15 (q0 q1 : AV) (j : Nat) (hj : j < 5) : okT (g3 (.int .i64 (.ofNat 15)) (.int .i64 (.ofNat j)) [] q0 q1 .nil 1) = true := by
  match j, hj with
  | 0, _ => exact run15_0 q0 q1
  | 1, _ => exact run15_1 q0 q1
  | 2, _ => exact run15_2 q0 q1
  | 3, _ => exact run15_3 q0 q1
  | 4, _ => exact run15_4 q0 q1
  | _ + 5, h => exact absurd h (by omega)
theorem run16_0 (q0 q1 : AV) : okT (g3 (.int .i64 (.ofNat 16)) (.int .i64 (.ofNat 0)) [] q0 q1 .nil 1) = true := by kernel_rfl
theorem run16_1 (q0 q1 : AV) : okT (g3 (.int .i64 (.ofNat 16)) (.int .i64 (.ofNat 1)) [] q0 q1 .nil 1) = true := by kernel_rfl
theorem run16_2 (q0 q1 : AV) : okT (g3 (.int .i64 (.ofNat 16)) (.int .i64 (.ofNat 2)) [] q0 q1 .nil 1) = true := by kernel_rfl
theorem run16_3 (q0 q1 : AV) : okT (g3 (.int .i64 (.ofNat 16)) (.int .i64 (.ofNat 3)) [] q0 q1 .nil 1) = true := by kernel_rfl
theorem run16_4 (q0 q1 : AV) : okT (g3 (.int .i64 (.ofNat 16)) (.int .i64 (.ofNat 4)) [] q0 q1 .nil 1) = true := by kernel_rfl
theorem run16 (q0 q1 : AV) (j : Nat) (hj : j < 5) : okT (g3 (.int .i64 (.ofNat 16)) (.int .i64 (.ofNat j)) [] q0 q1 .nil 1) = true := by
  match j, hj with
  | 0, _ => exact run16_0 q0 q1
  | 1, _ => exact run16_1 q0 q1
  | 2, _ => exact run16_2 q0 q1
  | 3, _ => exact run16_3 q0 q1
  | 4, _ => exact run16_4 q0 q1
  | _ + 5, h => exact absurd h (by omega)
theorem run17_0 (q0 q1 : AV) : okT (g3 (.int .i64 (.ofNat 17)) (.int .i64 (.ofNat 0)) [] q0 q1 .nil 1) = true := by kernel_rfl
theorem run17_1 (q0 q1 : AV) : okT (g3 (.int .i64 (.ofNat 17)) (.int .i64 (.ofNat 1)) [] q0 q1 .nil 1) = true := by kernel_rfl
theorem run17_2 (q0 q1 : AV) : okT (g3 (.int .i64 (.ofNat 17)) (.int .i64 (.ofNat 2)) [] q0 q1 .nil 1) = true := by kernel_rfl
theorem run17_3 (q0 q1 : AV) : okT (g3 (.int .i64 (.ofNat 17)) (.int .i64 (.ofNat 3)) [] q0 q1 .nil 1) = true := by kernel_rfl
theorem run17_4 (q0 q1 : AV) : okT (g3 (.int .i64 (.ofNat 17)) (.int .i64 (.ofNat 4)) [] q0 q1 .nil 1) = true := by kernel_rfl
theorem run17 (q0 q1 : AV) (j : Nat) (hj : j < 5) : okT (g3 (.int .i64 (.ofNat 17)) (.int .i64 (.ofNat j)) [] q0 q1 .nil 1) = true := by
  match j, hj with
  | 0, _ => exact run17_0 q0 q1
  | 1, _ => exact run17_1 q0 q1
  | 2, _ => exact run17_2 q0 q1
  | 3, _ => exact run17_3 q0 q1
  | 4, _ => exact run17_4 q0 q1
  | _ + 5, h => exact absurd h (by omega)
end Go.Proofs.YtggoogbloaennaaDoor.Tr
