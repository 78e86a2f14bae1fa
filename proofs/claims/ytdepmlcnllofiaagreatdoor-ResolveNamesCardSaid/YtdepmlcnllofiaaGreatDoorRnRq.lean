/-
  Proved here: runs of the statement, each comes to true.
-/
import Derived.Test.YtdepmlcnllofiaaGreatDoorRni
namespace Go.Proofs.YtdepmlcnllofiaaGreatDoor.Rn
open Go.EY Go.EX Go.SX Go.RowKit
theorem run_18_0_t (q0 q1 : AV) : okT (g7 (.lit (.int .i64 (.ofNat 18))) (20) (.lit (.int .i64 (.ofNat 0))) (18+1) [] q0 q1 (.lit (.bool true)) .nil 1) = true := by kernel_rfl
theorem run_18_1_f (q0 q1 : AV) : okT (g7 (.lit (.int .i64 (.ofNat 18))) (20) (.lit (.int .i64 (.ofNat 1))) (18+1) [] q0 q1 (.lit (.bool false)) .nil 1) = true := by kernel_rfl
theorem run_18_1_t (q0 q1 : AV) : okT (g7 (.lit (.int .i64 (.ofNat 18))) (20) (.lit (.int .i64 (.ofNat 1))) (18+1) [] q0 q1 (.lit (.bool true)) .nil 1) = true := by kernel_rfl
theorem run_18_2_f (q0 q1 : AV) : okT (g7 (.lit (.int .i64 (.ofNat 18))) (20) (.lit (.int .i64 (.ofNat 2))) (18+1) [] q0 q1 (.lit (.bool false)) .nil 1) = true := by kernel_rfl
theorem run_18_2_t (q0 q1 : AV) : okT (g7 (.lit (.int .i64 (.ofNat 18))) (20) (.lit (.int .i64 (.ofNat 2))) (18+1) [] q0 q1 (.lit (.bool true)) .nil 1) = true := by kernel_rfl
theorem run_18_3_f (q0 q1 : AV) : okT (g7 (.lit (.int .i64 (.ofNat 18))) (20) (.lit (.int .i64 (.ofNat 3))) (18+1) [] q0 q1 (.lit (.bool false)) .nil 1) = true := by kernel_rfl
theorem run_18_3_t (q0 q1 : AV) : okT (g7 (.lit (.int .i64 (.ofNat 18))) (20) (.lit (.int .i64 (.ofNat 3))) (18+1) [] q0 q1 (.lit (.bool true)) .nil 1) = true := by kernel_rfl
theorem run_18_4_f (q0 q1 : AV) : okT (g7 (.lit (.int .i64 (.ofNat 18))) (20) (.lit (.int .i64 (.ofNat 4))) (18+1) [] q0 q1 (.lit (.bool false)) .nil 1) = true := by kernel_rfl
theorem run_18_4_t (q0 q1 : AV) : okT (g7 (.lit (.int .i64 (.ofNat 18))) (20) (.lit (.int .i64 (.ofNat 4))) (18+1) [] q0 q1 (.lit (.bool true)) .nil 1) = true := by kernel_rfl
theorem run_18_5_f (q0 q1 : AV) : okT (g7 (.lit (.int .i64 (.ofNat 18))) (20) (.lit (.int .i64 (.ofNat 5))) (18+1) [] q0 q1 (.lit (.bool false)) .nil 1) = true := by kernel_rfl
theorem run_18_5_t (q0 q1 : AV) : okT (g7 (.lit (.int .i64 (.ofNat 18))) (20) (.lit (.int .i64 (.ofNat 5))) (18+1) [] q0 q1 (.lit (.bool true)) .nil 1) = true := by kernel_rfl
theorem run_18_6_f (q0 q1 : AV) : okT (g7 (.lit (.int .i64 (.ofNat 18))) (20) (.lit (.int .i64 (.ofNat 6))) (18+1) [] q0 q1 (.lit (.bool false)) .nil 1) = true := by kernel_rfl
theorem run_18_6_t (q0 q1 : AV) : okT (g7 (.lit (.int .i64 (.ofNat 18))) (20) (.lit (.int .i64 (.ofNat 6))) (18+1) [] q0 q1 (.lit (.bool true)) .nil 1) = true := by kernel_rfl
theorem run_18_7_f (q0 q1 : AV) : okT (g7 (.lit (.int .i64 (.ofNat 18))) (20) (.lit (.int .i64 (.ofNat 7))) (18+1) [] q0 q1 (.lit (.bool false)) .nil 1) = true := by kernel_rfl
theorem run_18_7_t (q0 q1 : AV) : okT (g7 (.lit (.int .i64 (.ofNat 18))) (20) (.lit (.int .i64 (.ofNat 7))) (18+1) [] q0 q1 (.lit (.bool true)) .nil 1) = true := by kernel_rfl
end Go.Proofs.YtdepmlcnllofiaaGreatDoor.Rn
