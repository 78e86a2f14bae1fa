/-
  Proved here: runs of the statement, each comes to true.
-/
import Derived.Test.YtdepmlcnllofiaaGreatDoorRni
namespace Go.Proofs.YtdepmlcnllofiaaGreatDoor.Rn
open Go.EY Go.EX Go.SX Go.RowKit
theorem run_10_9_f (q0 q1 : AV) : okT (g7 (.lit (.int .i64 (.ofNat 10))) (20) (.lit (.int .i64 (.ofNat 9))) (10+1) [] q0 q1 (.lit (.bool false)) .nil 1) = true := by kernel_rfl
theorem run_10_9_t (q0 q1 : AV) : okT (g7 (.lit (.int .i64 (.ofNat 10))) (20) (.lit (.int .i64 (.ofNat 9))) (10+1) [] q0 q1 (.lit (.bool true)) .nil 1) = true := by kernel_rfl
theorem run_10_10_f (q0 q1 : AV) : okT (g7 (.lit (.int .i64 (.ofNat 10))) (20) (.lit (.int .i64 (.ofNat 10))) (10+1) [] q0 q1 (.lit (.bool false)) .nil 1) = true := by kernel_rfl
theorem run_10_10_t (q0 q1 : AV) : okT (g7 (.lit (.int .i64 (.ofNat 10))) (20) (.lit (.int .i64 (.ofNat 10))) (10+1) [] q0 q1 (.lit (.bool true)) .nil 1) = true := by kernel_rfl
theorem run_11_0_f (q0 q1 : AV) : okT (g7 (.lit (.int .i64 (.ofNat 11))) (20) (.lit (.int .i64 (.ofNat 0))) (11+1) [] q0 q1 (.lit (.bool false)) .nil 1) = true := by kernel_rfl
theorem run_11_0_t (q0 q1 : AV) : okT (g7 (.lit (.int .i64 (.ofNat 11))) (20) (.lit (.int .i64 (.ofNat 0))) (11+1) [] q0 q1 (.lit (.bool true)) .nil 1) = true := by kernel_rfl
theorem run_11_1_f (q0 q1 : AV) : okT (g7 (.lit (.int .i64 (.ofNat 11))) (20) (.lit (.int .i64 (.ofNat 1))) (11+1) [] q0 q1 (.lit (.bool false)) .nil 1) = true := by kernel_rfl
theorem run_11_1_t (q0 q1 : AV) : okT (g7 (.lit (.int .i64 (.ofNat 11))) (20) (.lit (.int .i64 (.ofNat 1))) (11+1) [] q0 q1 (.lit (.bool true)) .nil 1) = true := by kernel_rfl
theorem run_11_2_f (q0 q1 : AV) : okT (g7 (.lit (.int .i64 (.ofNat 11))) (20) (.lit (.int .i64 (.ofNat 2))) (11+1) [] q0 q1 (.lit (.bool false)) .nil 1) = true := by kernel_rfl
theorem run_11_2_t (q0 q1 : AV) : okT (g7 (.lit (.int .i64 (.ofNat 11))) (20) (.lit (.int .i64 (.ofNat 2))) (11+1) [] q0 q1 (.lit (.bool true)) .nil 1) = true := by kernel_rfl
theorem run_11_3_f (q0 q1 : AV) : okT (g7 (.lit (.int .i64 (.ofNat 11))) (20) (.lit (.int .i64 (.ofNat 3))) (11+1) [] q0 q1 (.lit (.bool false)) .nil 1) = true := by kernel_rfl
theorem run_11_3_t (q0 q1 : AV) : okT (g7 (.lit (.int .i64 (.ofNat 11))) (20) (.lit (.int .i64 (.ofNat 3))) (11+1) [] q0 q1 (.lit (.bool true)) .nil 1) = true := by kernel_rfl
theorem run_11_4_f (q0 q1 : AV) : okT (g7 (.lit (.int .i64 (.ofNat 11))) (20) (.lit (.int .i64 (.ofNat 4))) (11+1) [] q0 q1 (.lit (.bool false)) .nil 1) = true := by kernel_rfl
theorem run_11_4_t (q0 q1 : AV) : okT (g7 (.lit (.int .i64 (.ofNat 11))) (20) (.lit (.int .i64 (.ofNat 4))) (11+1) [] q0 q1 (.lit (.bool true)) .nil 1) = true := by kernel_rfl
theorem run_11_5_f (q0 q1 : AV) : okT (g7 (.lit (.int .i64 (.ofNat 11))) (20) (.lit (.int .i64 (.ofNat 5))) (11+1) [] q0 q1 (.lit (.bool false)) .nil 1) = true := by kernel_rfl
theorem run_11_5_t (q0 q1 : AV) : okT (g7 (.lit (.int .i64 (.ofNat 11))) (20) (.lit (.int .i64 (.ofNat 5))) (11+1) [] q0 q1 (.lit (.bool true)) .nil 1) = true := by kernel_rfl
theorem run_11_6_f (q0 q1 : AV) : okT (g7 (.lit (.int .i64 (.ofNat 11))) (20) (.lit (.int .i64 (.ofNat 6))) (11+1) [] q0 q1 (.lit (.bool false)) .nil 1) = true := by kernel_rfl
theorem run_11_6_t (q0 q1 : AV) : okT (g7 (.lit (.int .i64 (.ofNat 11))) (20) (.lit (.int .i64 (.ofNat 6))) (11+1) [] q0 q1 (.lit (.bool true)) .nil 1) = true := by kernel_rfl
theorem run_11_7_f (q0 q1 : AV) : okT (g7 (.lit (.int .i64 (.ofNat 11))) (20) (.lit (.int .i64 (.ofNat 7))) (11+1) [] q0 q1 (.lit (.bool false)) .nil 1) = true := by kernel_rfl
theorem run_11_7_t (q0 q1 : AV) : okT (g7 (.lit (.int .i64 (.ofNat 11))) (20) (.lit (.int .i64 (.ofNat 7))) (11+1) [] q0 q1 (.lit (.bool true)) .nil 1) = true := by kernel_rfl
theorem run_11_8_f (q0 q1 : AV) : okT (g7 (.lit (.int .i64 (.ofNat 11))) (20) (.lit (.int .i64 (.ofNat 8))) (11+1) [] q0 q1 (.lit (.bool false)) .nil 1) = true := by kernel_rfl
theorem run_11_8_t (q0 q1 : AV) : okT (g7 (.lit (.int .i64 (.ofNat 11))) (20) (.lit (.int .i64 (.ofNat 8))) (11+1) [] q0 q1 (.lit (.bool true)) .nil 1) = true := by kernel_rfl
end Go.Proofs.YtdepmlcnllofiaaGreatDoor.Rn
