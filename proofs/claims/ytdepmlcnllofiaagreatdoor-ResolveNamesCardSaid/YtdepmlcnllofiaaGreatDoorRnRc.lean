/-
  Proved here: runs of the statement, each comes to true.
-/
import Derived.Test.YtdepmlcnllofiaaGreatDoorRni
namespace Go.Proofs.YtdepmlcnllofiaaGreatDoor.Rn
open Go.EY Go.EX Go.SX Go.RowKit
theorem run_8_2_t (q0 q1 : AV) : okT (g7 (.lit (.int .i64 (.ofNat 8))) (20) (.lit (.int .i64 (.ofNat 2))) (8+1) [] q0 q1 (.lit (.bool true)) .nil 1) = true := by kernel_rfl
theorem run_8_3_f (q0 q1 : AV) : okT (g7 (.lit (.int .i64 (.ofNat 8))) (20) (.lit (.int .i64 (.ofNat 3))) (8+1) [] q0 q1 (.lit (.bool false)) .nil 1) = true := by kernel_rfl
theorem run_8_3_t (q0 q1 : AV) : okT (g7 (.lit (.int .i64 (.ofNat 8))) (20) (.lit (.int .i64 (.ofNat 3))) (8+1) [] q0 q1 (.lit (.bool true)) .nil 1) = true := by kernel_rfl
theorem run_8_4_f (q0 q1 : AV) : okT (g7 (.lit (.int .i64 (.ofNat 8))) (20) (.lit (.int .i64 (.ofNat 4))) (8+1) [] q0 q1 (.lit (.bool false)) .nil 1) = true := by kernel_rfl
theorem run_8_4_t (q0 q1 : AV) : okT (g7 (.lit (.int .i64 (.ofNat 8))) (20) (.lit (.int .i64 (.ofNat 4))) (8+1) [] q0 q1 (.lit (.bool true)) .nil 1) = true := by kernel_rfl
theorem run_8_5_f (q0 q1 : AV) : okT (g7 (.lit (.int .i64 (.ofNat 8))) (20) (.lit (.int .i64 (.ofNat 5))) (8+1) [] q0 q1 (.lit (.bool false)) .nil 1) = true := by kernel_rfl
theorem run_8_5_t (q0 q1 : AV) : okT (g7 (.lit (.int .i64 (.ofNat 8))) (20) (.lit (.int .i64 (.ofNat 5))) (8+1) [] q0 q1 (.lit (.bool true)) .nil 1) = true := by kernel_rfl
theorem run_8_6_f (q0 q1 : AV) : okT (g7 (.lit (.int .i64 (.ofNat 8))) (20) (.lit (.int .i64 (.ofNat 6))) (8+1) [] q0 q1 (.lit (.bool false)) .nil 1) = true := by kernel_rfl
theorem run_8_6_t (q0 q1 : AV) : okT (g7 (.lit (.int .i64 (.ofNat 8))) (20) (.lit (.int .i64 (.ofNat 6))) (8+1) [] q0 q1 (.lit (.bool true)) .nil 1) = true := by kernel_rfl
theorem run_8_7_f (q0 q1 : AV) : okT (g7 (.lit (.int .i64 (.ofNat 8))) (20) (.lit (.int .i64 (.ofNat 7))) (8+1) [] q0 q1 (.lit (.bool false)) .nil 1) = true := by kernel_rfl
theorem run_8_7_t (q0 q1 : AV) : okT (g7 (.lit (.int .i64 (.ofNat 8))) (20) (.lit (.int .i64 (.ofNat 7))) (8+1) [] q0 q1 (.lit (.bool true)) .nil 1) = true := by kernel_rfl
theorem run_8_8_f (q0 q1 : AV) : okT (g7 (.lit (.int .i64 (.ofNat 8))) (20) (.lit (.int .i64 (.ofNat 8))) (8+1) [] q0 q1 (.lit (.bool false)) .nil 1) = true := by kernel_rfl
theorem run_8_8_t (q0 q1 : AV) : okT (g7 (.lit (.int .i64 (.ofNat 8))) (20) (.lit (.int .i64 (.ofNat 8))) (8+1) [] q0 q1 (.lit (.bool true)) .nil 1) = true := by kernel_rfl
theorem run_9_0_f (q0 q1 : AV) : okT (g7 (.lit (.int .i64 (.ofNat 9))) (20) (.lit (.int .i64 (.ofNat 0))) (9+1) [] q0 q1 (.lit (.bool false)) .nil 1) = true := by kernel_rfl
theorem run_9_0_t (q0 q1 : AV) : okT (g7 (.lit (.int .i64 (.ofNat 9))) (20) (.lit (.int .i64 (.ofNat 0))) (9+1) [] q0 q1 (.lit (.bool true)) .nil 1) = true := by kernel_rfl
theorem run_9_1_f (q0 q1 : AV) : okT (g7 (.lit (.int .i64 (.ofNat 9))) (20) (.lit (.int .i64 (.ofNat 1))) (9+1) [] q0 q1 (.lit (.bool false)) .nil 1) = true := by kernel_rfl
theorem run_9_1_t (q0 q1 : AV) : okT (g7 (.lit (.int .i64 (.ofNat 9))) (20) (.lit (.int .i64 (.ofNat 1))) (9+1) [] q0 q1 (.lit (.bool true)) .nil 1) = true := by kernel_rfl
theorem run_9_2_f (q0 q1 : AV) : okT (g7 (.lit (.int .i64 (.ofNat 9))) (20) (.lit (.int .i64 (.ofNat 2))) (9+1) [] q0 q1 (.lit (.bool false)) .nil 1) = true := by kernel_rfl
theorem run_9_2_t (q0 q1 : AV) : okT (g7 (.lit (.int .i64 (.ofNat 9))) (20) (.lit (.int .i64 (.ofNat 2))) (9+1) [] q0 q1 (.lit (.bool true)) .nil 1) = true := by kernel_rfl
theorem run_9_3_f (q0 q1 : AV) : okT (g7 (.lit (.int .i64 (.ofNat 9))) (20) (.lit (.int .i64 (.ofNat 3))) (9+1) [] q0 q1 (.lit (.bool false)) .nil 1) = true := by kernel_rfl
theorem run_9_3_t (q0 q1 : AV) : okT (g7 (.lit (.int .i64 (.ofNat 9))) (20) (.lit (.int .i64 (.ofNat 3))) (9+1) [] q0 q1 (.lit (.bool true)) .nil 1) = true := by kernel_rfl
theorem run_9_4_f (q0 q1 : AV) : okT (g7 (.lit (.int .i64 (.ofNat 9))) (20) (.lit (.int .i64 (.ofNat 4))) (9+1) [] q0 q1 (.lit (.bool false)) .nil 1) = true := by kernel_rfl
theorem run_9_4_t (q0 q1 : AV) : okT (g7 (.lit (.int .i64 (.ofNat 9))) (20) (.lit (.int .i64 (.ofNat 4))) (9+1) [] q0 q1 (.lit (.bool true)) .nil 1) = true := by kernel_rfl
theorem run_9_5_f (q0 q1 : AV) : okT (g7 (.lit (.int .i64 (.ofNat 9))) (20) (.lit (.int .i64 (.ofNat 5))) (9+1) [] q0 q1 (.lit (.bool false)) .nil 1) = true := by kernel_rfl
theorem run_9_5_t (q0 q1 : AV) : okT (g7 (.lit (.int .i64 (.ofNat 9))) (20) (.lit (.int .i64 (.ofNat 5))) (9+1) [] q0 q1 (.lit (.bool true)) .nil 1) = true := by kernel_rfl
theorem run_9_6_f (q0 q1 : AV) : okT (g7 (.lit (.int .i64 (.ofNat 9))) (20) (.lit (.int .i64 (.ofNat 6))) (9+1) [] q0 q1 (.lit (.bool false)) .nil 1) = true := by kernel_rfl
theorem run_9_6_t (q0 q1 : AV) : okT (g7 (.lit (.int .i64 (.ofNat 9))) (20) (.lit (.int .i64 (.ofNat 6))) (9+1) [] q0 q1 (.lit (.bool true)) .nil 1) = true := by kernel_rfl
end Go.Proofs.YtdepmlcnllofiaaGreatDoor.Rn
