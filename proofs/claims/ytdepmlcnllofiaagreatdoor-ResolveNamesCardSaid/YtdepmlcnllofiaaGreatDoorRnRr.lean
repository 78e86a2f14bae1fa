/-
  Proved here: runs of the statement, each comes to true.
-/
import Derived.Test.YtdepmlcnllofiaaGreatDoorRni
namespace Go.Proofs.YtdepmlcnllofiaaGreatDoor.Rn
open Go.EY Go.EX Go.SX Go.RowKit
theorem run_18_8_f (q0 q1 : AV) : okT (g7 (.lit (.int .i64 (.ofNat 18))) (20) (.lit (.int .i64 (.ofNat 8))) (18+1) [] q0 q1 (.lit (.bool false)) .nil 1) = true := by kernel_rfl
theorem run_18_8_t (q0 q1 : AV) : okT (g7 (.lit (.int .i64 (.ofNat 18))) (20) (.lit (.int .i64 (.ofNat 8))) (18+1) [] q0 q1 (.lit (.bool true)) .nil 1) = true := by kernel_rfl
theorem run_18_9_f (q0 q1 : AV) : okT (g7 (.lit (.int .i64 (.ofNat 18))) (20) (.lit (.int .i64 (.ofNat 9))) (18+1) [] q0 q1 (.lit (.bool false)) .nil 1) = true := by kernel_rfl
theorem run_18_9_t (q0 q1 : AV) : okT (g7 (.lit (.int .i64 (.ofNat 18))) (20) (.lit (.int .i64 (.ofNat 9))) (18+1) [] q0 q1 (.lit (.bool true)) .nil 1) = true := by kernel_rfl
theorem run_18_10_f (q0 q1 : AV) : okT (g7 (.lit (.int .i64 (.ofNat 18))) (20) (.lit (.int .i64 (.ofNat 10))) (18+1) [] q0 q1 (.lit (.bool false)) .nil 1) = true := by kernel_rfl
theorem run_18_10_t (q0 q1 : AV) : okT (g7 (.lit (.int .i64 (.ofNat 18))) (20) (.lit (.int .i64 (.ofNat 10))) (18+1) [] q0 q1 (.lit (.bool true)) .nil 1) = true := by kernel_rfl
theorem run_18_11_f (q0 q1 : AV) : okT (g7 (.lit (.int .i64 (.ofNat 18))) (20) (.lit (.int .i64 (.ofNat 11))) (18+1) [] q0 q1 (.lit (.bool false)) .nil 1) = true := by kernel_rfl
theorem run_18_11_t (q0 q1 : AV) : okT (g7 (.lit (.int .i64 (.ofNat 18))) (20) (.lit (.int .i64 (.ofNat 11))) (18+1) [] q0 q1 (.lit (.bool true)) .nil 1) = true := by kernel_rfl
theorem run_18_12_f (q0 q1 : AV) : okT (g7 (.lit (.int .i64 (.ofNat 18))) (20) (.lit (.int .i64 (.ofNat 12))) (18+1) [] q0 q1 (.lit (.bool false)) .nil 1) = true := by kernel_rfl
theorem run_18_12_t (q0 q1 : AV) : okT (g7 (.lit (.int .i64 (.ofNat 18))) (20) (.lit (.int .i64 (.ofNat 12))) (18+1) [] q0 q1 (.lit (.bool true)) .nil 1) = true := by kernel_rfl
theorem run_18_13_f (q0 q1 : AV) : okT (g7 (.lit (.int .i64 (.ofNat 18))) (20) (.lit (.int .i64 (.ofNat 13))) (18+1) [] q0 q1 (.lit (.bool false)) .nil 1) = true := by kernel_rfl
theorem run_18_13_t (q0 q1 : AV) : okT (g7 (.lit (.int .i64 (.ofNat 18))) (20) (.lit (.int .i64 (.ofNat 13))) (18+1) [] q0 q1 (.lit (.bool true)) .nil 1) = true := by kernel_rfl
theorem run_18_14_f (q0 q1 : AV) : okT (g7 (.lit (.int .i64 (.ofNat 18))) (20) (.lit (.int .i64 (.ofNat 14))) (18+1) [] q0 q1 (.lit (.bool false)) .nil 1) = true := by kernel_rfl
theorem run_18_14_t (q0 q1 : AV) : okT (g7 (.lit (.int .i64 (.ofNat 18))) (20) (.lit (.int .i64 (.ofNat 14))) (18+1) [] q0 q1 (.lit (.bool true)) .nil 1) = true := by kernel_rfl
theorem run_18_15_f (q0 q1 : AV) : okT (g7 (.lit (.int .i64 (.ofNat 18))) (20) (.lit (.int .i64 (.ofNat 15))) (18+1) [] q0 q1 (.lit (.bool false)) .nil 1) = true := by kernel_rfl
end Go.Proofs.YtdepmlcnllofiaaGreatDoor.Rn
