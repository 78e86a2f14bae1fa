/-
  Proved here: runs of the statement, each comes to true.
-/
import Derived.Test.YtdepmlcnllofiaaGreatDoorRni
namespace Go.Proofs.YtdepmlcnllofiaaGreatDoor.Rn
open Go.EY Go.EX Go.SX Go.RowKit
theorem run_14_9_f (q0 q1 : AV) : okT (g7 (.lit (.int .i64 (.ofNat 14))) (20) (.lit (.int .i64 (.ofNat 9))) (14+1) [] q0 q1 (.lit (.bool false)) .nil 1) = true := by kernel_rfl
theorem run_14_9_t (q0 q1 : AV) : okT (g7 (.lit (.int .i64 (.ofNat 14))) (20) (.lit (.int .i64 (.ofNat 9))) (14+1) [] q0 q1 (.lit (.bool true)) .nil 1) = true := by kernel_rfl
theorem run_14_10_f (q0 q1 : AV) : okT (g7 (.lit (.int .i64 (.ofNat 14))) (20) (.lit (.int .i64 (.ofNat 10))) (14+1) [] q0 q1 (.lit (.bool false)) .nil 1) = true := by kernel_rfl
theorem run_14_10_t (q0 q1 : AV) : okT (g7 (.lit (.int .i64 (.ofNat 14))) (20) (.lit (.int .i64 (.ofNat 10))) (14+1) [] q0 q1 (.lit (.bool true)) .nil 1) = true := by kernel_rfl
theorem run_14_11_f (q0 q1 : AV) : okT (g7 (.lit (.int .i64 (.ofNat 14))) (20) (.lit (.int .i64 (.ofNat 11))) (14+1) [] q0 q1 (.lit (.bool false)) .nil 1) = true := by kernel_rfl
theorem run_14_11_t (q0 q1 : AV) : okT (g7 (.lit (.int .i64 (.ofNat 14))) (20) (.lit (.int .i64 (.ofNat 11))) (14+1) [] q0 q1 (.lit (.bool true)) .nil 1) = true := by kernel_rfl
theorem run_14_12_f (q0 q1 : AV) : okT (g7 (.lit (.int .i64 (.ofNat 14))) (20) (.lit (.int .i64 (.ofNat 12))) (14+1) [] q0 q1 (.lit (.bool false)) .nil 1) = true := by kernel_rfl
theorem run_14_12_t (q0 q1 : AV) : okT (g7 (.lit (.int .i64 (.ofNat 14))) (20) (.lit (.int .i64 (.ofNat 12))) (14+1) [] q0 q1 (.lit (.bool true)) .nil 1) = true := by kernel_rfl
theorem run_14_13_f (q0 q1 : AV) : okT (g7 (.lit (.int .i64 (.ofNat 14))) (20) (.lit (.int .i64 (.ofNat 13))) (14+1) [] q0 q1 (.lit (.bool false)) .nil 1) = true := by kernel_rfl
theorem run_14_13_t (q0 q1 : AV) : okT (g7 (.lit (.int .i64 (.ofNat 14))) (20) (.lit (.int .i64 (.ofNat 13))) (14+1) [] q0 q1 (.lit (.bool true)) .nil 1) = true := by kernel_rfl
theorem run_14_14_f (q0 q1 : AV) : okT (g7 (.lit (.int .i64 (.ofNat 14))) (20) (.lit (.int .i64 (.ofNat 14))) (14+1) [] q0 q1 (.lit (.bool false)) .nil 1) = true := by kernel_rfl
theorem run_14_14_t (q0 q1 : AV) : okT (g7 (.lit (.int .i64 (.ofNat 14))) (20) (.lit (.int .i64 (.ofNat 14))) (14+1) [] q0 q1 (.lit (.bool true)) .nil 1) = true := by kernel_rfl
theorem run_15_0_f (q0 q1 : AV) : okT (g7 (.lit (.int .i64 (.ofNat 15))) (20) (.lit (.int .i64 (.ofNat 0))) (15+1) [] q0 q1 (.lit (.bool false)) .nil 1) = true := by kernel_rfl
theorem run_15_0_t (q0 q1 : AV) : okT (g7 (.lit (.int .i64 (.ofNat 15))) (20) (.lit (.int .i64 (.ofNat 0))) (15+1) [] q0 q1 (.lit (.bool true)) .nil 1) = true := by kernel_rfl
theorem run_15_1_f (q0 q1 : AV) : okT (g7 (.lit (.int .i64 (.ofNat 15))) (20) (.lit (.int .i64 (.ofNat 1))) (15+1) [] q0 q1 (.lit (.bool false)) .nil 1) = true := by kernel_rfl
theorem run_15_1_t (q0 q1 : AV) : okT (g7 (.lit (.int .i64 (.ofNat 15))) (20) (.lit (.int .i64 (.ofNat 1))) (15+1) [] q0 q1 (.lit (.bool true)) .nil 1) = true := by kernel_rfl
theorem run_15_2_f (q0 q1 : AV) : okT (g7 (.lit (.int .i64 (.ofNat 15))) (20) (.lit (.int .i64 (.ofNat 2))) (15+1) [] q0 q1 (.lit (.bool false)) .nil 1) = true := by kernel_rfl
theorem run_15_2_t (q0 q1 : AV) : okT (g7 (.lit (.int .i64 (.ofNat 15))) (20) (.lit (.int .i64 (.ofNat 2))) (15+1) [] q0 q1 (.lit (.bool true)) .nil 1) = true := by kernel_rfl
end Go.Proofs.YtdepmlcnllofiaaGreatDoor.Rn
