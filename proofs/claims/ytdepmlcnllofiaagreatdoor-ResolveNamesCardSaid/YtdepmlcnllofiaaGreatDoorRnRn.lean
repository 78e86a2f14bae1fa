/-
  Proved here: runs of the statement, each comes to true.
-/
import Derived.Test.YtdepmlcnllofiaaGreatDoorRni
namespace Go.Proofs.YtdepmlcnllofiaaGreatDoor.Rn
open Go.EY Go.EX Go.SX Go.RowKit
theorem run_16_12_f (q0 q1 : AV) : okT (g7 (.lit (.int .i64 (.ofNat 16))) (20) (.lit (.int .i64 (.ofNat 12))) (16+1) [] q0 q1 (.lit (.bool false)) .nil 1) = true := by kernel_rfl
theorem run_16_12_t (q0 q1 : AV) : okT (g7 (.lit (.int .i64 (.ofNat 16))) (20) (.lit (.int .i64 (.ofNat 12))) (16+1) [] q0 q1 (.lit (.bool true)) .nil 1) = true := by kernel_rfl
theorem run_16_13_f (q0 q1 : AV) : okT (g7 (.lit (.int .i64 (.ofNat 16))) (20) (.lit (.int .i64 (.ofNat 13))) (16+1) [] q0 q1 (.lit (.bool false)) .nil 1) = true := by kernel_rfl
theorem run_16_13_t (q0 q1 : AV) : okT (g7 (.lit (.int .i64 (.ofNat 16))) (20) (.lit (.int .i64 (.ofNat 13))) (16+1) [] q0 q1 (.lit (.bool true)) .nil 1) = true := by kernel_rfl
theorem run_16_14_f (q0 q1 : AV) : okT (g7 (.lit (.int .i64 (.ofNat 16))) (20) (.lit (.int .i64 (.ofNat 14))) (16+1) [] q0 q1 (.lit (.bool false)) .nil 1) = true := by kernel_rfl
theorem run_16_14_t (q0 q1 : AV) : okT (g7 (.lit (.int .i64 (.ofNat 16))) (20) (.lit (.int .i64 (.ofNat 14))) (16+1) [] q0 q1 (.lit (.bool true)) .nil 1) = true := by kernel_rfl
theorem run_16_15_f (q0 q1 : AV) : okT (g7 (.lit (.int .i64 (.ofNat 16))) (20) (.lit (.int .i64 (.ofNat 15))) (16+1) [] q0 q1 (.lit (.bool false)) .nil 1) = true := by kernel_rfl
theorem run_16_15_t (q0 q1 : AV) : okT (g7 (.lit (.int .i64 (.ofNat 16))) (20) (.lit (.int .i64 (.ofNat 15))) (16+1) [] q0 q1 (.lit (.bool true)) .nil 1) = true := by kernel_rfl
theorem run_16_16_f (q0 q1 : AV) : okT (g7 (.lit (.int .i64 (.ofNat 16))) (20) (.lit (.int .i64 (.ofNat 16))) (16+1) [] q0 q1 (.lit (.bool false)) .nil 1) = true := by kernel_rfl
theorem run_16_16_t (q0 q1 : AV) : okT (g7 (.lit (.int .i64 (.ofNat 16))) (20) (.lit (.int .i64 (.ofNat 16))) (16+1) [] q0 q1 (.lit (.bool true)) .nil 1) = true := by kernel_rfl
theorem run_17_0_f (q0 q1 : AV) : okT (g7 (.lit (.int .i64 (.ofNat 17))) (20) (.lit (.int .i64 (.ofNat 0))) (17+1) [] q0 q1 (.lit (.bool false)) .nil 1) = true := by kernel_rfl
theorem run_17_0_t (q0 q1 : AV) : okT (g7 (.lit (.int .i64 (.ofNat 17))) (20) (.lit (.int .i64 (.ofNat 0))) (17+1) [] q0 q1 (.lit (.bool true)) .nil 1) = true := by kernel_rfl
theorem run_17_1_f (q0 q1 : AV) : okT (g7 (.lit (.int .i64 (.ofNat 17))) (20) (.lit (.int .i64 (.ofNat 1))) (17+1) [] q0 q1 (.lit (.bool false)) .nil 1) = true := by kernel_rfl
theorem run_17_1_t (q0 q1 : AV) : okT (g7 (.lit (.int .i64 (.ofNat 17))) (20) (.lit (.int .i64 (.ofNat 1))) (17+1) [] q0 q1 (.lit (.bool true)) .nil 1) = true := by kernel_rfl
theorem run_17_2_f (q0 q1 : AV) : okT (g7 (.lit (.int .i64 (.ofNat 17))) (20) (.lit (.int .i64 (.ofNat 2))) (17+1) [] q0 q1 (.lit (.bool false)) .nil 1) = true := by kernel_rfl
theorem run_17_2_t (q0 q1 : AV) : okT (g7 (.lit (.int .i64 (.ofNat 17))) (20) (.lit (.int .i64 (.ofNat 2))) (17+1) [] q0 q1 (.lit (.bool true)) .nil 1) = true := by kernel_rfl
end Go.Proofs.YtdepmlcnllofiaaGreatDoor.Rn
