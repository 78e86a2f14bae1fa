/-
  Proved here: runs of the statement, each comes to true.
-/
import Derived.Test.YtdepmlcnllofiaaGreatDoorRni
namespace Go.Proofs.YtdepmlcnllofiaaGreatDoor.Rn
open Go.EY Go.EX Go.SX Go.RowKit
theorem run_9_7_f (q0 q1 : AV) : okT (g7 (.lit (.int .i64 (.ofNat 9))) (20) (.lit (.int .i64 (.ofNat 7))) (9+1) [] q0 q1 (.lit (.bool false)) .nil 1) = true := by kernel_rfl
theorem run_9_7_t (q0 q1 : AV) : okT (g7 (.lit (.int .i64 (.ofNat 9))) (20) (.lit (.int .i64 (.ofNat 7))) (9+1) [] q0 q1 (.lit (.bool true)) .nil 1) = true := by kernel_rfl
theorem run_9_8_f (q0 q1 : AV) : okT (g7 (.lit (.int .i64 (.ofNat 9))) (20) (.lit (.int .i64 (.ofNat 8))) (9+1) [] q0 q1 (.lit (.bool false)) .nil 1) = true := by kernel_rfl
theorem run_9_8_t (q0 q1 : AV) : okT (g7 (.lit (.int .i64 (.ofNat 9))) (20) (.lit (.int .i64 (.ofNat 8))) (9+1) [] q0 q1 (.lit (.bool true)) .nil 1) = true := by kernel_rfl
theorem run_9_9_f (q0 q1 : AV) : okT (g7 (.lit (.int .i64 (.ofNat 9))) (20) (.lit (.int .i64 (.ofNat 9))) (9+1) [] q0 q1 (.lit (.bool false)) .nil 1) = true := by kernel_rfl
theorem run_9_9_t (q0 q1 : AV) : okT (g7 (.lit (.int .i64 (.ofNat 9))) (20) (.lit (.int .i64 (.ofNat 9))) (9+1) [] q0 q1 (.lit (.bool true)) .nil 1) = true := by kernel_rfl
theorem run_10_0_f (q0 q1 : AV) : okT (g7 (.lit (.int .i64 (.ofNat 10))) (20) (.lit (.int .i64 (.ofNat 0))) (10+1) [] q0 q1 (.lit (.bool false)) .nil 1) = true := by kernel_rfl
theorem run_10_0_t (q0 q1 : AV) : okT (g7 (.lit (.int .i64 (.ofNat 10))) (20) (.lit (.int .i64 (.ofNat 0))) (10+1) [] q0 q1 (.lit (.bool true)) .nil 1) = true := by kernel_rfl
theorem run_10_1_f (q0 q1 : AV) : okT (g7 (.lit (.int .i64 (.ofNat 10))) (20) (.lit (.int .i64 (.ofNat 1))) (10+1) [] q0 q1 (.lit (.bool false)) .nil 1) = true := by kernel_rfl
theorem run_10_1_t (q0 q1 : AV) : okT (g7 (.lit (.int .i64 (.ofNat 10))) (20) (.lit (.int .i64 (.ofNat 1))) (10+1) [] q0 q1 (.lit (.bool true)) .nil 1) = true := by kernel_rfl
theorem run_10_2_f (q0 q1 : AV) : okT (g7 (.lit (.int .i64 (.ofNat 10))) (20) (.lit (.int .i64 (.ofNat 2))) (10+1) [] q0 q1 (.lit (.bool false)) .nil 1) = true := by kernel_rfl
theorem run_10_2_t (q0 q1 : AV) : okT (g7 (.lit (.int .i64 (.ofNat 10))) (20) (.lit (.int .i64 (.ofNat 2))) (10+1) [] q0 q1 (.lit (.bool true)) .nil 1) = true := by kernel_rfl
theorem run_10_3_f (q0 q1 : AV) : okT (g7 (.lit (.int .i64 (.ofNat 10))) (20) (.lit (.int .i64 (.ofNat 3))) (10+1) [] q0 q1 (.lit (.bool false)) .nil 1) = true := by kernel_rfl
theorem run_10_3_t (q0 q1 : AV) : okT (g7 (.lit (.int .i64 (.ofNat 10))) (20) (.lit (.int .i64 (.ofNat 3))) (10+1) [] q0 q1 (.lit (.bool true)) .nil 1) = true := by kernel_rfl
theorem run_10_4_f (q0 q1 : AV) : okT (g7 (.lit (.int .i64 (.ofNat 10))) (20) (.lit (.int .i64 (.ofNat 4))) (10+1) [] q0 q1 (.lit (.bool false)) .nil 1) = true := by kernel_rfl
theorem run_10_4_t (q0 q1 : AV) : okT (g7 (.lit (.int .i64 (.ofNat 10))) (20) (.lit (.int .i64 (.ofNat 4))) (10+1) [] q0 q1 (.lit (.bool true)) .nil 1) = true := by kernel_rfl
theorem run_10_5_f (q0 q1 : AV) : okT (g7 (.lit (.int .i64 (.ofNat 10))) (20) (.lit (.int .i64 (.ofNat 5))) (10+1) [] q0 q1 (.lit (.bool false)) .nil 1) = true := by kernel_rfl
theorem run_10_5_t (q0 q1 : AV) : okT (g7 (.lit (.int .i64 (.ofNat 10))) (20) (.lit (.int .i64 (.ofNat 5))) (10+1) [] q0 q1 (.lit (.bool true)) .nil 1) = true := by kernel_rfl
theorem run_10_6_f (q0 q1 : AV) : okT (g7 (.lit (.int .i64 (.ofNat 10))) (20) (.lit (.int .i64 (.ofNat 6))) (10+1) [] q0 q1 (.lit (.bool false)) .nil 1) = true := by kernel_rfl
theorem run_10_6_t (q0 q1 : AV) : okT (g7 (.lit (.int .i64 (.ofNat 10))) (20) (.lit (.int .i64 (.ofNat 6))) (10+1) [] q0 q1 (.lit (.bool true)) .nil 1) = true := by kernel_rfl
theorem run_10_7_f (q0 q1 : AV) : okT (g7 (.lit (.int .i64 (.ofNat 10))) (20) (.lit (.int .i64 (.ofNat 7))) (10+1) [] q0 q1 (.lit (.bool false)) .nil 1) = true := by kernel_rfl
theorem run_10_7_t (q0 q1 : AV) : okT (g7 (.lit (.int .i64 (.ofNat 10))) (20) (.lit (.int .i64 (.ofNat 7))) (10+1) [] q0 q1 (.lit (.bool true)) .nil 1) = true := by kernel_rfl
theorem run_10_8_f (q0 q1 : AV) : okT (g7 (.lit (.int .i64 (.ofNat 10))) (20) (.lit (.int .i64 (.ofNat 8))) (10+1) [] q0 q1 (.lit (.bool false)) .nil 1) = true := by kernel_rfl
theorem run_10_8_t (q0 q1 : AV) : okT (g7 (.lit (.int .i64 (.ofNat 10))) (20) (.lit (.int .i64 (.ofNat 8))) (10+1) [] q0 q1 (.lit (.bool true)) .nil 1) = true := by kernel_rfl
end Go.Proofs.YtdepmlcnllofiaaGreatDoor.Rn
