/-
  Proved here: runs of the statement, each comes to true.
-/
import Derived.Test.YtdepmlcnllofiaaGreatDoorRni
namespace Go.Proofs.YtdepmlcnllofiaaGreatDoor.Rn
open Go.EY Go.EX Go.SX Go.RowKit
theorem run_13_4_t (q0 q1 : AV) : okT (g7 (.lit (.int .i64 (.ofNat 13))) (20) (.lit (.int .i64 (.ofNat 4))) (13+1) [] q0 q1 (.lit (.bool true)) .nil 1) = true := by kernel_rfl
theorem run_13_5_f (q0 q1 : AV) : okT (g7 (.lit (.int .i64 (.ofNat 13))) (20) (.lit (.int .i64 (.ofNat 5))) (13+1) [] q0 q1 (.lit (.bool false)) .nil 1) = true := by kernel_rfl
theorem run_13_5_t (q0 q1 : AV) : okT (g7 (.lit (.int .i64 (.ofNat 13))) (20) (.lit (.int .i64 (.ofNat 5))) (13+1) [] q0 q1 (.lit (.bool true)) .nil 1) = true := by kernel_rfl
theorem run_13_6_f (q0 q1 : AV) : okT (g7 (.lit (.int .i64 (.ofNat 13))) (20) (.lit (.int .i64 (.ofNat 6))) (13+1) [] q0 q1 (.lit (.bool false)) .nil 1) = true := by kernel_rfl
theorem run_13_6_t (q0 q1 : AV) : okT (g7 (.lit (.int .i64 (.ofNat 13))) (20) (.lit (.int .i64 (.ofNat 6))) (13+1) [] q0 q1 (.lit (.bool true)) .nil 1) = true := by kernel_rfl
theorem run_13_7_f (q0 q1 : AV) : okT (g7 (.lit (.int .i64 (.ofNat 13))) (20) (.lit (.int .i64 (.ofNat 7))) (13+1) [] q0 q1 (.lit (.bool false)) .nil 1) = true := by kernel_rfl
theorem run_13_7_t (q0 q1 : AV) : okT (g7 (.lit (.int .i64 (.ofNat 13))) (20) (.lit (.int .i64 (.ofNat 7))) (13+1) [] q0 q1 (.lit (.bool true)) .nil 1) = true := by kernel_rfl
theorem run_13_8_f (q0 q1 : AV) : okT (g7 (.lit (.int .i64 (.ofNat 13))) (20) (.lit (.int .i64 (.ofNat 8))) (13+1) [] q0 q1 (.lit (.bool false)) .nil 1) = true := by kernel_rfl
theorem run_13_8_t (q0 q1 : AV) : okT (g7 (.lit (.int .i64 (.ofNat 13))) (20) (.lit (.int .i64 (.ofNat 8))) (13+1) [] q0 q1 (.lit (.bool true)) .nil 1) = true := by kernel_rfl
theorem run_13_9_f (q0 q1 : AV) : okT (g7 (.lit (.int .i64 (.ofNat 13))) (20) (.lit (.int .i64 (.ofNat 9))) (13+1) [] q0 q1 (.lit (.bool false)) .nil 1) = true := by kernel_rfl
theorem run_13_9_t (q0 q1 : AV) : okT (g7 (.lit (.int .i64 (.ofNat 13))) (20) (.lit (.int .i64 (.ofNat 9))) (13+1) [] q0 q1 (.lit (.bool true)) .nil 1) = true := by kernel_rfl
theorem run_13_10_f (q0 q1 : AV) : okT (g7 (.lit (.int .i64 (.ofNat 13))) (20) (.lit (.int .i64 (.ofNat 10))) (13+1) [] q0 q1 (.lit (.bool false)) .nil 1) = true := by kernel_rfl
theorem run_13_10_t (q0 q1 : AV) : okT (g7 (.lit (.int .i64 (.ofNat 13))) (20) (.lit (.int .i64 (.ofNat 10))) (13+1) [] q0 q1 (.lit (.bool true)) .nil 1) = true := by kernel_rfl
theorem run_13_11_f (q0 q1 : AV) : okT (g7 (.lit (.int .i64 (.ofNat 13))) (20) (.lit (.int .i64 (.ofNat 11))) (13+1) [] q0 q1 (.lit (.bool false)) .nil 1) = true := by kernel_rfl
theorem run_13_11_t (q0 q1 : AV) : okT (g7 (.lit (.int .i64 (.ofNat 13))) (20) (.lit (.int .i64 (.ofNat 11))) (13+1) [] q0 q1 (.lit (.bool true)) .nil 1) = true := by kernel_rfl
theorem run_13_12_f (q0 q1 : AV) : okT (g7 (.lit (.int .i64 (.ofNat 13))) (20) (.lit (.int .i64 (.ofNat 12))) (13+1) [] q0 q1 (.lit (.bool false)) .nil 1) = true := by kernel_rfl
theorem run_13_12_t (q0 q1 : AV) : okT (g7 (.lit (.int .i64 (.ofNat 13))) (20) (.lit (.int .i64 (.ofNat 12))) (13+1) [] q0 q1 (.lit (.bool true)) .nil 1) = true := by kernel_rfl
theorem run_13_13_f (q0 q1 : AV) : okT (g7 (.lit (.int .i64 (.ofNat 13))) (20) (.lit (.int .i64 (.ofNat 13))) (13+1) [] q0 q1 (.lit (.bool false)) .nil 1) = true := by kernel_rfl
theorem run_13_13_t (q0 q1 : AV) : okT (g7 (.lit (.int .i64 (.ofNat 13))) (20) (.lit (.int .i64 (.ofNat 13))) (13+1) [] q0 q1 (.lit (.bool true)) .nil 1) = true := by kernel_rfl
end Go.Proofs.YtdepmlcnllofiaaGreatDoor.Rn
