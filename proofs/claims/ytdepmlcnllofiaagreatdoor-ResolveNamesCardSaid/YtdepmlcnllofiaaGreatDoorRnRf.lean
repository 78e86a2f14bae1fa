/-
  Proved here: runs of the statement, each comes to true.
-/
import Derived.Test.YtdepmlcnllofiaaGreatDoorRni
namespace Go.Proofs.YtdepmlcnllofiaaGreatDoor.Rn
open Go.EY Go.EX Go.SX Go.RowKit
theorem run_11_9_f (q0 q1 : AV) : okT (g7 (.lit (.int .i64 (.ofNat 11))) (20) (.lit (.int .i64 (.ofNat 9))) (11+1) [] q0 q1 (.lit (.bool false)) .nil 1) = true := by kernel_rfl
theorem run_11_9_t (q0 q1 : AV) : okT (g7 (.lit (.int .i64 (.ofNat 11))) (20) (.lit (.int .i64 (.ofNat 9))) (11+1) [] q0 q1 (.lit (.bool true)) .nil 1) = true := by kernel_rfl
theorem run_11_10_f (q0 q1 : AV) : okT (g7 (.lit (.int .i64 (.ofNat 11))) (20) (.lit (.int .i64 (.ofNat 10))) (11+1) [] q0 q1 (.lit (.bool false)) .nil 1) = true := by kernel_rfl
theorem run_11_10_t (q0 q1 : AV) : okT (g7 (.lit (.int .i64 (.ofNat 11))) (20) (.lit (.int .i64 (.ofNat 10))) (11+1) [] q0 q1 (.lit (.bool true)) .nil 1) = true := by kernel_rfl
theorem run_11_11_f (q0 q1 : AV) : okT (g7 (.lit (.int .i64 (.ofNat 11))) (20) (.lit (.int .i64 (.ofNat 11))) (11+1) [] q0 q1 (.lit (.bool false)) .nil 1) = true := by kernel_rfl
theorem run_11_11_t (q0 q1 : AV) : okT (g7 (.lit (.int .i64 (.ofNat 11))) (20) (.lit (.int .i64 (.ofNat 11))) (11+1) [] q0 q1 (.lit (.bool true)) .nil 1) = true := by kernel_rfl
theorem run_12_0_f (q0 q1 : AV) : okT (g7 (.lit (.int .i64 (.ofNat 12))) (20) (.lit (.int .i64 (.ofNat 0))) (12+1) [] q0 q1 (.lit (.bool false)) .nil 1) = true := by kernel_rfl
theorem run_12_0_t (q0 q1 : AV) : okT (g7 (.lit (.int .i64 (.ofNat 12))) (20) (.lit (.int .i64 (.ofNat 0))) (12+1) [] q0 q1 (.lit (.bool true)) .nil 1) = true := by kernel_rfl
theorem run_12_1_f (q0 q1 : AV) : okT (g7 (.lit (.int .i64 (.ofNat 12))) (20) (.lit (.int .i64 (.ofNat 1))) (12+1) [] q0 q1 (.lit (.bool false)) .nil 1) = true := by kernel_rfl
theorem run_12_1_t (q0 q1 : AV) : okT (g7 (.lit (.int .i64 (.ofNat 12))) (20) (.lit (.int .i64 (.ofNat 1))) (12+1) [] q0 q1 (.lit (.bool true)) .nil 1) = true := by kernel_rfl
theorem run_12_2_f (q0 q1 : AV) : okT (g7 (.lit (.int .i64 (.ofNat 12))) (20) (.lit (.int .i64 (.ofNat 2))) (12+1) [] q0 q1 (.lit (.bool false)) .nil 1) = true := by kernel_rfl
theorem run_12_2_t (q0 q1 : AV) : okT (g7 (.lit (.int .i64 (.ofNat 12))) (20) (.lit (.int .i64 (.ofNat 2))) (12+1) [] q0 q1 (.lit (.bool true)) .nil 1) = true := by kernel_rfl
theorem run_12_3_f (q0 q1 : AV) : okT (g7 (.lit (.int .i64 (.ofNat 12))) (20) (.lit (.int .i64 (.ofNat 3))) (12+1) [] q0 q1 (.lit (.bool false)) .nil 1) = true := by kernel_rfl
theorem run_12_3_t (q0 q1 : AV) : okT (g7 (.lit (.int .i64 (.ofNat 12))) (20) (.lit (.int .i64 (.ofNat 3))) (12+1) [] q0 q1 (.lit (.bool true)) .nil 1) = true := by kernel_rfl
theorem run_12_4_f (q0 q1 : AV) : okT (g7 (.lit (.int .i64 (.ofNat 12))) (20) (.lit (.int .i64 (.ofNat 4))) (12+1) [] q0 q1 (.lit (.bool false)) .nil 1) = true := by kernel_rfl
theorem run_12_4_t (q0 q1 : AV) : okT (g7 (.lit (.int .i64 (.ofNat 12))) (20) (.lit (.int .i64 (.ofNat 4))) (12+1) [] q0 q1 (.lit (.bool true)) .nil 1) = true := by kernel_rfl
theorem run_12_5_f (q0 q1 : AV) : okT (g7 (.lit (.int .i64 (.ofNat 12))) (20) (.lit (.int .i64 (.ofNat 5))) (12+1) [] q0 q1 (.lit (.bool false)) .nil 1) = true := by kernel_rfl
theorem run_12_5_t (q0 q1 : AV) : okT (g7 (.lit (.int .i64 (.ofNat 12))) (20) (.lit (.int .i64 (.ofNat 5))) (12+1) [] q0 q1 (.lit (.bool true)) .nil 1) = true := by kernel_rfl
theorem run_12_6_f (q0 q1 : AV) : okT (g7 (.lit (.int .i64 (.ofNat 12))) (20) (.lit (.int .i64 (.ofNat 6))) (12+1) [] q0 q1 (.lit (.bool false)) .nil 1) = true := by kernel_rfl
theorem run_12_6_t (q0 q1 : AV) : okT (g7 (.lit (.int .i64 (.ofNat 12))) (20) (.lit (.int .i64 (.ofNat 6))) (12+1) [] q0 q1 (.lit (.bool true)) .nil 1) = true := by kernel_rfl
theorem run_12_7_f (q0 q1 : AV) : okT (g7 (.lit (.int .i64 (.ofNat 12))) (20) (.lit (.int .i64 (.ofNat 7))) (12+1) [] q0 q1 (.lit (.bool false)) .nil 1) = true := by kernel_rfl
end Go.Proofs.YtdepmlcnllofiaaGreatDoor.Rn
