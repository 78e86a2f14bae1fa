/-
  Proved here: runs of the statement, each comes to true.
-/
import Derived.Test.YtdepmlcnllofiaaGreatDoorRni
namespace Go.Proofs.YtdepmlcnllofiaaGreatDoor.Rn
open Go.EY Go.EX Go.SX Go.RowKit
theorem run_17_3_f (q0 q1 : AV) : okT (g7 (.lit (.int .i64 (.ofNat 17))) (20) (.lit (.int .i64 (.ofNat 3))) (17+1) [] q0 q1 (.lit (.bool false)) .nil 1) = true := by kernel_rfl
theorem run_17_3_t (q0 q1 : AV) : okT (g7 (.lit (.int .i64 (.ofNat 17))) (20) (.lit (.int .i64 (.ofNat 3))) (17+1) [] q0 q1 (.lit (.bool true)) .nil 1) = true := by kernel_rfl
theorem run_17_4_f (q0 q1 : AV) : okT (g7 (.lit (.int .i64 (.ofNat 17))) (20) (.lit (.int .i64 (.ofNat 4))) (17+1) [] q0 q1 (.lit (.bool false)) .nil 1) = true := by kernel_rfl
theorem run_17_4_t (q0 q1 : AV) : okT (g7 (.lit (.int .i64 (.ofNat 17))) (20) (.lit (.int .i64 (.ofNat 4))) (17+1) [] q0 q1 (.lit (.bool true)) .nil 1) = true := by kernel_rfl
theorem run_17_5_f (q0 q1 : AV) : okT (g7 (.lit (.int .i64 (.ofNat 17))) (20) (.lit (.int .i64 (.ofNat 5))) (17+1) [] q0 q1 (.lit (.bool false)) .nil 1) = true := by kernel_rfl
theorem run_17_5_t (q0 q1 : AV) : okT (g7 (.lit (.int .i64 (.ofNat 17))) (20) (.lit (.int .i64 (.ofNat 5))) (17+1) [] q0 q1 (.lit (.bool true)) .nil 1) = true := by kernel_rfl
theorem run_17_6_f (q0 q1 : AV) : okT (g7 (.lit (.int .i64 (.ofNat 17))) (20) (.lit (.int .i64 (.ofNat 6))) (17+1) [] q0 q1 (.lit (.bool false)) .nil 1) = true := by kernel_rfl
theorem run_17_6_t (q0 q1 : AV) : okT (g7 (.lit (.int .i64 (.ofNat 17))) (20) (.lit (.int .i64 (.ofNat 6))) (17+1) [] q0 q1 (.lit (.bool true)) .nil 1) = true := by kernel_rfl
theorem run_17_7_f (q0 q1 : AV) : okT (g7 (.lit (.int .i64 (.ofNat 17))) (20) (.lit (.int .i64 (.ofNat 7))) (17+1) [] q0 q1 (.lit (.bool false)) .nil 1) = true := by kernel_rfl
theorem run_17_7_t (q0 q1 : AV) : okT (g7 (.lit (.int .i64 (.ofNat 17))) (20) (.lit (.int .i64 (.ofNat 7))) (17+1) [] q0 q1 (.lit (.bool true)) .nil 1) = true := by kernel_rfl
theorem run_17_8_f (q0 q1 : AV) : okT (g7 (.lit (.int .i64 (.ofNat 17))) (20) (.lit (.int .i64 (.ofNat 8))) (17+1) [] q0 q1 (.lit (.bool false)) .nil 1) = true := by kernel_rfl
theorem run_17_8_t (q0 q1 : AV) : okT (g7 (.lit (.int .i64 (.ofNat 17))) (20) (.lit (.int .i64 (.ofNat 8))) (17+1) [] q0 q1 (.lit (.bool true)) .nil 1) = true := by kernel_rfl
theorem run_17_9_f (q0 q1 : AV) : okT (g7 (.lit (.int .i64 (.ofNat 17))) (20) (.lit (.int .i64 (.ofNat 9))) (17+1) [] q0 q1 (.lit (.bool false)) .nil 1) = true := by kernel_rfl
theorem run_17_9_t (q0 q1 : AV) : okT (g7 (.lit (.int .i64 (.ofNat 17))) (20) (.lit (.int .i64 (.ofNat 9))) (17+1) [] q0 q1 (.lit (.bool true)) .nil 1) = true := by kernel_rfl
theorem run_17_10_f (q0 q1 : AV) : okT (g7 (.lit (.int .i64 (.ofNat 17))) (20) (.lit (.int .i64 (.ofNat 10))) (17+1) [] q0 q1 (.lit (.bool false)) .nil 1) = true := by kernel_rfl
theorem run_17_10_t (q0 q1 : AV) : okT (g7 (.lit (.int .i64 (.ofNat 17))) (20) (.lit (.int .i64 (.ofNat 10))) (17+1) [] q0 q1 (.lit (.bool true)) .nil 1) = true := by kernel_rfl
end Go.Proofs.YtdepmlcnllofiaaGreatDoor.Rn
