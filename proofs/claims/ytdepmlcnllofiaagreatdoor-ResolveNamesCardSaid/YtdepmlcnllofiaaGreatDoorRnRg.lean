/-
  Proved here: runs of the statement, each comes to true.
-/
import Derived.Test.YtdepmlcnllofiaaGreatDoorRni
namespace Go.Proofs.YtdepmlcnllofiaaGreatDoor.Rn
open Go.EY Go.EX Go.SX Go.RowKit
theorem run_12_7_t (q0 q1 : AV) : okT (g7 (.lit (.int .i64 (.ofNat 12))) (20) (.lit (.int .i64 (.ofNat 7))) (12+1) [] q0 q1 (.lit (.bool true)) .nil 1) = true := by kernel_rfl
theorem run_12_8_f (q0 q1 : AV) : okT (g7 (.lit (.int .i64 (.ofNat 12))) (20) (.lit (.int .i64 (.ofNat 8))) (12+1) [] q0 q1 (.lit (.bool false)) .nil 1) = true := by kernel_rfl
theorem run_12_8_t (q0 q1 : AV) : okT (g7 (.lit (.int .i64 (.ofNat 12))) (20) (.lit (.int .i64 (.ofNat 8))) (12+1) [] q0 q1 (.lit (.bool true)) .nil 1) = true := by kernel_rfl
theorem run_12_9_f (q0 q1 : AV) : okT (g7 (.lit (.int .i64 (.ofNat 12))) (20) (.lit (.int .i64 (.ofNat 9))) (12+1) [] q0 q1 (.lit (.bool false)) .nil 1) = true := by kernel_rfl
theorem run_12_9_t (q0 q1 : AV) : okT (g7 (.lit (.int .i64 (.ofNat 12))) (20) (.lit (.int .i64 (.ofNat 9))) (12+1) [] q0 q1 (.lit (.bool true)) .nil 1) = true := by kernel_rfl
theorem run_12_10_f (q0 q1 : AV) : okT (g7 (.lit (.int .i64 (.ofNat 12))) (20) (.lit (.int .i64 (.ofNat 10))) (12+1) [] q0 q1 (.lit (.bool false)) .nil 1) = true := by kernel_rfl
theorem run_12_10_t (q0 q1 : AV) : okT (g7 (.lit (.int .i64 (.ofNat 12))) (20) (.lit (.int .i64 (.ofNat 10))) (12+1) [] q0 q1 (.lit (.bool true)) .nil 1) = true := by kernel_rfl
theorem run_12_11_f (q0 q1 : AV) : okT (g7 (.lit (.int .i64 (.ofNat 12))) (20) (.lit (.int .i64 (.ofNat 11))) (12+1) [] q0 q1 (.lit (.bool false)) .nil 1) = true := by kernel_rfl
theorem run_12_11_t (q0 q1 : AV) : okT (g7 (.lit (.int .i64 (.ofNat 12))) (20) (.lit (.int .i64 (.ofNat 11))) (12+1) [] q0 q1 (.lit (.bool true)) .nil 1) = true := by kernel_rfl
theorem run_12_12_f (q0 q1 : AV) : okT (g7 (.lit (.int .i64 (.ofNat 12))) (20) (.lit (.int .i64 (.ofNat 12))) (12+1) [] q0 q1 (.lit (.bool false)) .nil 1) = true := by kernel_rfl
theorem run_12_12_t (q0 q1 : AV) : okT (g7 (.lit (.int .i64 (.ofNat 12))) (20) (.lit (.int .i64 (.ofNat 12))) (12+1) [] q0 q1 (.lit (.bool true)) .nil 1) = true := by kernel_rfl
theorem run_13_0_f (q0 q1 : AV) : okT (g7 (.lit (.int .i64 (.ofNat 13))) (20) (.lit (.int .i64 (.ofNat 0))) (13+1) [] q0 q1 (.lit (.bool false)) .nil 1) = true := by kernel_rfl
theorem run_13_0_t (q0 q1 : AV) : okT (g7 (.lit (.int .i64 (.ofNat 13))) (20) (.lit (.int .i64 (.ofNat 0))) (13+1) [] q0 q1 (.lit (.bool true)) .nil 1) = true := by kernel_rfl
theorem run_13_1_f (q0 q1 : AV) : okT (g7 (.lit (.int .i64 (.ofNat 13))) (20) (.lit (.int .i64 (.ofNat 1))) (13+1) [] q0 q1 (.lit (.bool false)) .nil 1) = true := by kernel_rfl
theorem run_13_1_t (q0 q1 : AV) : okT (g7 (.lit (.int .i64 (.ofNat 13))) (20) (.lit (.int .i64 (.ofNat 1))) (13+1) [] q0 q1 (.lit (.bool true)) .nil 1) = true := by kernel_rfl
theorem run_13_2_f (q0 q1 : AV) : okT (g7 (.lit (.int .i64 (.ofNat 13))) (20) (.lit (.int .i64 (.ofNat 2))) (13+1) [] q0 q1 (.lit (.bool false)) .nil 1) = true := by kernel_rfl
theorem run_13_2_t (q0 q1 : AV) : okT (g7 (.lit (.int .i64 (.ofNat 13))) (20) (.lit (.int .i64 (.ofNat 2))) (13+1) [] q0 q1 (.lit (.bool true)) .nil 1) = true := by kernel_rfl
theorem run_13_3_f (q0 q1 : AV) : okT (g7 (.lit (.int .i64 (.ofNat 13))) (20) (.lit (.int .i64 (.ofNat 3))) (13+1) [] q0 q1 (.lit (.bool false)) .nil 1) = true := by kernel_rfl
theorem run_13_3_t (q0 q1 : AV) : okT (g7 (.lit (.int .i64 (.ofNat 13))) (20) (.lit (.int .i64 (.ofNat 3))) (13+1) [] q0 q1 (.lit (.bool true)) .nil 1) = true := by kernel_rfl
theorem run_13_4_f (q0 q1 : AV) : okT (g7 (.lit (.int .i64 (.ofNat 13))) (20) (.lit (.int .i64 (.ofNat 4))) (13+1) [] q0 q1 (.lit (.bool false)) .nil 1) = true := by kernel_rfl
end Go.Proofs.YtdepmlcnllofiaaGreatDoor.Rn
