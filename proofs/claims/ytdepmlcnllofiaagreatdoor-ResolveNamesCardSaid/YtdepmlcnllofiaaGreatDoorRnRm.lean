/-
  Proved here: runs of the statement, each comes to true.
-/
import Derived.Test.YtdepmlcnllofiaaGreatDoorRni
namespace Go.Proofs.YtdepmlcnllofiaaGreatDoor.Rn
open Go.EY Go.EX Go.SX Go.RowKit
theorem run_16_4_f (q0 q1 : AV) : okT (g7 (.lit (.int .i64 (.ofNat 16))) (20) (.lit (.int .i64 (.ofNat 4))) (16+1) [] q0 q1 (.lit (.bool false)) .nil 1) = true := by kernel_rfl
theorem run_16_4_t (q0 q1 : AV) : okT (g7 (.lit (.int .i64 (.ofNat 16))) (20) (.lit (.int .i64 (.ofNat 4))) (16+1) [] q0 q1 (.lit (.bool true)) .nil 1) = true := by kernel_rfl
theorem run_16_5_f (q0 q1 : AV) : okT (g7 (.lit (.int .i64 (.ofNat 16))) (20) (.lit (.int .i64 (.ofNat 5))) (16+1) [] q0 q1 (.lit (.bool false)) .nil 1) = true := by kernel_rfl
theorem run_16_5_t (q0 q1 : AV) : okT (g7 (.lit (.int .i64 (.ofNat 16))) (20) (.lit (.int .i64 (.ofNat 5))) (16+1) [] q0 q1 (.lit (.bool true)) .nil 1) = true := by kernel_rfl
theorem run_16_6_f (q0 q1 : AV) : okT (g7 (.lit (.int .i64 (.ofNat 16))) (20) (.lit (.int .i64 (.ofNat 6))) (16+1) [] q0 q1 (.lit (.bool false)) .nil 1) = true := by kernel_rfl
theorem run_16_6_t (q0 q1 : AV) : okT (g7 (.lit (.int .i64 (.ofNat 16))) (20) (.lit (.int .i64 (.ofNat 6))) (16+1) [] q0 q1 (.lit (.bool true)) .nil 1) = true := by kernel_rfl
theorem run_16_7_f (q0 q1 : AV) : okT (g7 (.lit (.int .i64 (.ofNat 16))) (20) (.lit (.int .i64 (.ofNat 7))) (16+1) [] q0 q1 (.lit (.bool false)) .nil 1) = true := by kernel_rfl
theorem run_16_7_t (q0 q1 : AV) : okT (g7 (.lit (.int .i64 (.ofNat 16))) (20) (.lit (.int .i64 (.ofNat 7))) (16+1) [] q0 q1 (.lit (.bool true)) .nil 1) = true := by kernel_rfl
theorem run_16_8_f (q0 q1 : AV) : okT (g7 (.lit (.int .i64 (.ofNat 16))) (20) (.lit (.int .i64 (.ofNat 8))) (16+1) [] q0 q1 (.lit (.bool false)) .nil 1) = true := by kernel_rfl
theorem run_16_8_t (q0 q1 : AV) : okT (g7 (.lit (.int .i64 (.ofNat 16))) (20) (.lit (.int .i64 (.ofNat 8))) (16+1) [] q0 q1 (.lit (.bool true)) .nil 1) = true := by kernel_rfl
theorem run_16_9_f (q0 q1 : AV) : okT (g7 (.lit (.int .i64 (.ofNat 16))) (20) (.lit (.int .i64 (.ofNat 9))) (16+1) [] q0 q1 (.lit (.bool false)) .nil 1) = true := by kernel_rfl
theorem run_16_9_t (q0 q1 : AV) : okT (g7 (.lit (.int .i64 (.ofNat 16))) (20) (.lit (.int .i64 (.ofNat 9))) (16+1) [] q0 q1 (.lit (.bool true)) .nil 1) = true := by kernel_rfl
theorem run_16_10_f (q0 q1 : AV) : okT (g7 (.lit (.int .i64 (.ofNat 16))) (20) (.lit (.int .i64 (.ofNat 10))) (16+1) [] q0 q1 (.lit (.bool false)) .nil 1) = true := by kernel_rfl
theorem run_16_10_t (q0 q1 : AV) : okT (g7 (.lit (.int .i64 (.ofNat 16))) (20) (.lit (.int .i64 (.ofNat 10))) (16+1) [] q0 q1 (.lit (.bool true)) .nil 1) = true := by kernel_rfl
theorem run_16_11_f (q0 q1 : AV) : okT (g7 (.lit (.int .i64 (.ofNat 16))) (20) (.lit (.int .i64 (.ofNat 11))) (16+1) [] q0 q1 (.lit (.bool false)) .nil 1) = true := by kernel_rfl
theorem run_16_11_t (q0 q1 : AV) : okT (g7 (.lit (.int .i64 (.ofNat 16))) (20) (.lit (.int .i64 (.ofNat 11))) (16+1) [] q0 q1 (.lit (.bool true)) .nil 1) = true := by kernel_rfl
end Go.Proofs.YtdepmlcnllofiaaGreatDoor.Rn
