/-
  Proved here: runs of the statement, each comes to true.
-/
import Derived.Test.YtdepmlcnllofiaaGreatDoorRni
namespace Go.Proofs.YtdepmlcnllofiaaGreatDoor.Rn
open Go.EY Go.EX Go.SX Go.RowKit
theorem run_14_0_f (q0 q1 : AV) : okT (g7 (.lit (.int .i64 (.ofNat 14))) (20) (.lit (.int .i64 (.ofNat 0))) (14+1) [] q0 q1 (.lit (.bool false)) .nil 1) = true := by kernel_rfl
theorem run_14_0_t (q0 q1 : AV) : okT (g7 (.lit (.int .i64 (.ofNat 14))) (20) (.lit (.int .i64 (.ofNat 0))) (14+1) [] q0 q1 (.lit (.bool true)) .nil 1) = true := by kernel_rfl
theorem run_14_1_f (q0 q1 : AV) : okT (g7 (.lit (.int .i64 (.ofNat 14))) (20) (.lit (.int .i64 (.ofNat 1))) (14+1) [] q0 q1 (.lit (.bool false)) .nil 1) = true := by kernel_rfl
theorem run_14_1_t (q0 q1 : AV) : okT (g7 (.lit (.int .i64 (.ofNat 14))) (20) (.lit (.int .i64 (.ofNat 1))) (14+1) [] q0 q1 (.lit (.bool true)) .nil 1) = true := by kernel_rfl
theorem run_14_2_f (q0 q1 : AV) : okT (g7 (.lit (.int .i64 (.ofNat 14))) (20) (.lit (.int .i64 (.ofNat 2))) (14+1) [] q0 q1 (.lit (.bool false)) .nil 1) = true := by kernel_rfl
theorem run_14_2_t (q0 q1 : AV) : okT (g7 (.lit (.int .i64 (.ofNat 14))) (20) (.lit (.int .i64 (.ofNat 2))) (14+1) [] q0 q1 (.lit (.bool true)) .nil 1) = true := by kernel_rfl
theorem run_14_3_f (q0 q1 : AV) : okT (g7 (.lit (.int .i64 (.ofNat 14))) (20) (.lit (.int .i64 (.ofNat 3))) (14+1) [] q0 q1 (.lit (.bool false)) .nil 1) = true := by kernel_rfl
theorem run_14_3_t (q0 q1 : AV) : okT (g7 (.lit (.int .i64 (.ofNat 14))) (20) (.lit (.int .i64 (.ofNat 3))) (14+1) [] q0 q1 (.lit (.bool true)) .nil 1) = true := by kernel_rfl
theorem run_14_4_f (q0 q1 : AV) : okT (g7 (.lit (.int .i64 (.ofNat 14))) (20) (.lit (.int .i64 (.ofNat 4))) (14+1) [] q0 q1 (.lit (.bool false)) .nil 1) = true := by kernel_rfl
theorem run_14_4_t (q0 q1 : AV) : okT (g7 (.lit (.int .i64 (.ofNat 14))) (20) (.lit (.int .i64 (.ofNat 4))) (14+1) [] q0 q1 (.lit (.bool true)) .nil 1) = true := by kernel_rfl
theorem run_14_5_f (q0 q1 : AV) : okT (g7 (.lit (.int .i64 (.ofNat 14))) (20) (.lit (.int .i64 (.ofNat 5))) (14+1) [] q0 q1 (.lit (.bool false)) .nil 1) = true := by kernel_rfl
theorem run_14_5_t (q0 q1 : AV) : okT (g7 (.lit (.int .i64 (.ofNat 14))) (20) (.lit (.int .i64 (.ofNat 5))) (14+1) [] q0 q1 (.lit (.bool true)) .nil 1) = true := by kernel_rfl
theorem run_14_6_f (q0 q1 : AV) : okT (g7 (.lit (.int .i64 (.ofNat 14))) (20) (.lit (.int .i64 (.ofNat 6))) (14+1) [] q0 q1 (.lit (.bool false)) .nil 1) = true := by kernel_rfl
theorem run_14_6_t (q0 q1 : AV) : okT (g7 (.lit (.int .i64 (.ofNat 14))) (20) (.lit (.int .i64 (.ofNat 6))) (14+1) [] q0 q1 (.lit (.bool true)) .nil 1) = true := by kernel_rfl
theorem run_14_7_f (q0 q1 : AV) : okT (g7 (.lit (.int .i64 (.ofNat 14))) (20) (.lit (.int .i64 (.ofNat 7))) (14+1) [] q0 q1 (.lit (.bool false)) .nil 1) = true := by kernel_rfl
theorem run_14_7_t (q0 q1 : AV) : okT (g7 (.lit (.int .i64 (.ofNat 14))) (20) (.lit (.int .i64 (.ofNat 7))) (14+1) [] q0 q1 (.lit (.bool true)) .nil 1) = true := by kernel_rfl
theorem run_14_8_f (q0 q1 : AV) : okT (g7 (.lit (.int .i64 (.ofNat 14))) (20) (.lit (.int .i64 (.ofNat 8))) (14+1) [] q0 q1 (.lit (.bool false)) .nil 1) = true := by kernel_rfl
theorem run_14_8_t (q0 q1 : AV) : okT (g7 (.lit (.int .i64 (.ofNat 14))) (20) (.lit (.int .i64 (.ofNat 8))) (14+1) [] q0 q1 (.lit (.bool true)) .nil 1) = true := by kernel_rfl
end Go.Proofs.YtdepmlcnllofiaaGreatDoor.Rn
