/-
  Proved here: runs of the statement, each comes to true.
-/
import Derived.Test.YtdepmlcnllofiaaGreatDoorRni
namespace Go.Proofs.YtdepmlcnllofiaaGreatDoor.Rn
open Go.EY Go.EX Go.SX Go.RowKit
theorem run_6_2_f (q0 q1 : AV) : okT (g7 (.lit (.int .i64 (.ofNat 6))) (20) (.lit (.int .i64 (.ofNat 2))) (6+1) [] q0 q1 (.lit (.bool false)) .nil 1) = true := by kernel_rfl
theorem run_6_2_t (q0 q1 : AV) : okT (g7 (.lit (.int .i64 (.ofNat 6))) (20) (.lit (.int .i64 (.ofNat 2))) (6+1) [] q0 q1 (.lit (.bool true)) .nil 1) = true := by kernel_rfl
theorem run_6_3_f (q0 q1 : AV) : okT (g7 (.lit (.int .i64 (.ofNat 6))) (20) (.lit (.int .i64 (.ofNat 3))) (6+1) [] q0 q1 (.lit (.bool false)) .nil 1) = true := by kernel_rfl
theorem run_6_3_t (q0 q1 : AV) : okT (g7 (.lit (.int .i64 (.ofNat 6))) (20) (.lit (.int .i64 (.ofNat 3))) (6+1) [] q0 q1 (.lit (.bool true)) .nil 1) = true := by kernel_rfl
theorem run_6_4_f (q0 q1 : AV) : okT (g7 (.lit (.int .i64 (.ofNat 6))) (20) (.lit (.int .i64 (.ofNat 4))) (6+1) [] q0 q1 (.lit (.bool false)) .nil 1) = true := by kernel_rfl
theorem run_6_4_t (q0 q1 : AV) : okT (g7 (.lit (.int .i64 (.ofNat 6))) (20) (.lit (.int .i64 (.ofNat 4))) (6+1) [] q0 q1 (.lit (.bool true)) .nil 1) = true := by kernel_rfl
theorem run_6_5_f (q0 q1 : AV) : okT (g7 (.lit (.int .i64 (.ofNat 6))) (20) (.lit (.int .i64 (.ofNat 5))) (6+1) [] q0 q1 (.lit (.bool false)) .nil 1) = true := by kernel_rfl
theorem run_6_5_t (q0 q1 : AV) : okT (g7 (.lit (.int .i64 (.ofNat 6))) (20) (.lit (.int .i64 (.ofNat 5))) (6+1) [] q0 q1 (.lit (.bool true)) .nil 1) = true := by kernel_rfl
theorem run_6_6_f (q0 q1 : AV) : okT (g7 (.lit (.int .i64 (.ofNat 6))) (20) (.lit (.int .i64 (.ofNat 6))) (6+1) [] q0 q1 (.lit (.bool false)) .nil 1) = true := by kernel_rfl
theorem run_6_6_t (q0 q1 : AV) : okT (g7 (.lit (.int .i64 (.ofNat 6))) (20) (.lit (.int .i64 (.ofNat 6))) (6+1) [] q0 q1 (.lit (.bool true)) .nil 1) = true := by kernel_rfl
theorem run_7_0_f (q0 q1 : AV) : okT (g7 (.lit (.int .i64 (.ofNat 7))) (20) (.lit (.int .i64 (.ofNat 0))) (7+1) [] q0 q1 (.lit (.bool false)) .nil 1) = true := by kernel_rfl
theorem run_7_0_t (q0 q1 : AV) : okT (g7 (.lit (.int .i64 (.ofNat 7))) (20) (.lit (.int .i64 (.ofNat 0))) (7+1) [] q0 q1 (.lit (.bool true)) .nil 1) = true := by kernel_rfl
theorem run_7_1_f (q0 q1 : AV) : okT (g7 (.lit (.int .i64 (.ofNat 7))) (20) (.lit (.int .i64 (.ofNat 1))) (7+1) [] q0 q1 (.lit (.bool false)) .nil 1) = true := by kernel_rfl
theorem run_7_1_t (q0 q1 : AV) : okT (g7 (.lit (.int .i64 (.ofNat 7))) (20) (.lit (.int .i64 (.ofNat 1))) (7+1) [] q0 q1 (.lit (.bool true)) .nil 1) = true := by kernel_rfl
theorem run_7_2_f (q0 q1 : AV) : okT (g7 (.lit (.int .i64 (.ofNat 7))) (20) (.lit (.int .i64 (.ofNat 2))) (7+1) [] q0 q1 (.lit (.bool false)) .nil 1) = true := by kernel_rfl
theorem run_7_2_t (q0 q1 : AV) : okT (g7 (.lit (.int .i64 (.ofNat 7))) (20) (.lit (.int .i64 (.ofNat 2))) (7+1) [] q0 q1 (.lit (.bool true)) .nil 1) = true := by kernel_rfl
theorem run_7_3_f (q0 q1 : AV) : okT (g7 (.lit (.int .i64 (.ofNat 7))) (20) (.lit (.int .i64 (.ofNat 3))) (7+1) [] q0 q1 (.lit (.bool false)) .nil 1) = true := by kernel_rfl
theorem run_7_3_t (q0 q1 : AV) : okT (g7 (.lit (.int .i64 (.ofNat 7))) (20) (.lit (.int .i64 (.ofNat 3))) (7+1) [] q0 q1 (.lit (.bool true)) .nil 1) = true := by kernel_rfl
theorem run_7_4_f (q0 q1 : AV) : okT (g7 (.lit (.int .i64 (.ofNat 7))) (20) (.lit (.int .i64 (.ofNat 4))) (7+1) [] q0 q1 (.lit (.bool false)) .nil 1) = true := by kernel_rfl
theorem run_7_4_t (q0 q1 : AV) : okT (g7 (.lit (.int .i64 (.ofNat 7))) (20) (.lit (.int .i64 (.ofNat 4))) (7+1) [] q0 q1 (.lit (.bool true)) .nil 1) = true := by kernel_rfl
theorem run_7_5_f (q0 q1 : AV) : okT (g7 (.lit (.int .i64 (.ofNat 7))) (20) (.lit (.int .i64 (.ofNat 5))) (7+1) [] q0 q1 (.lit (.bool false)) .nil 1) = true := by kernel_rfl
theorem run_7_5_t (q0 q1 : AV) : okT (g7 (.lit (.int .i64 (.ofNat 7))) (20) (.lit (.int .i64 (.ofNat 5))) (7+1) [] q0 q1 (.lit (.bool true)) .nil 1) = true := by kernel_rfl
theorem run_7_6_f (q0 q1 : AV) : okT (g7 (.lit (.int .i64 (.ofNat 7))) (20) (.lit (.int .i64 (.ofNat 6))) (7+1) [] q0 q1 (.lit (.bool false)) .nil 1) = true := by kernel_rfl
theorem run_7_6_t (q0 q1 : AV) : okT (g7 (.lit (.int .i64 (.ofNat 7))) (20) (.lit (.int .i64 (.ofNat 6))) (7+1) [] q0 q1 (.lit (.bool true)) .nil 1) = true := by kernel_rfl
theorem run_7_7_f (q0 q1 : AV) : okT (g7 (.lit (.int .i64 (.ofNat 7))) (20) (.lit (.int .i64 (.ofNat 7))) (7+1) [] q0 q1 (.lit (.bool false)) .nil 1) = true := by kernel_rfl
theorem run_7_7_t (q0 q1 : AV) : okT (g7 (.lit (.int .i64 (.ofNat 7))) (20) (.lit (.int .i64 (.ofNat 7))) (7+1) [] q0 q1 (.lit (.bool true)) .nil 1) = true := by kernel_rfl
theorem run_8_0_f (q0 q1 : AV) : okT (g7 (.lit (.int .i64 (.ofNat 8))) (20) (.lit (.int .i64 (.ofNat 0))) (8+1) [] q0 q1 (.lit (.bool false)) .nil 1) = true := by kernel_rfl
theorem run_8_0_t (q0 q1 : AV) : okT (g7 (.lit (.int .i64 (.ofNat 8))) (20) (.lit (.int .i64 (.ofNat 0))) (8+1) [] q0 q1 (.lit (.bool true)) .nil 1) = true := by kernel_rfl
theorem run_8_1_f (q0 q1 : AV) : okT (g7 (.lit (.int .i64 (.ofNat 8))) (20) (.lit (.int .i64 (.ofNat 1))) (8+1) [] q0 q1 (.lit (.bool false)) .nil 1) = true := by kernel_rfl
theorem run_8_1_t (q0 q1 : AV) : okT (g7 (.lit (.int .i64 (.ofNat 8))) (20) (.lit (.int .i64 (.ofNat 1))) (8+1) [] q0 q1 (.lit (.bool true)) .nil 1) = true := by kernel_rfl
theorem run_8_2_f (q0 q1 : AV) : okT (g7 (.lit (.int .i64 (.ofNat 8))) (20) (.lit (.int .i64 (.ofNat 2))) (8+1) [] q0 q1 (.lit (.bool false)) .nil 1) = true := by kernel_rfl
end Go.Proofs.YtdepmlcnllofiaaGreatDoor.Rn
