/-
  Proved here: runs of the statement, each comes to true.
-/
import Derived.Test.YtdepmlcnllofiaaGreatDoorRni
namespace Go.Proofs.YtdepmlcnllofiaaGreatDoor.Rn
open Go.EY Go.EX Go.SX Go.RowKit
theorem run_17_11_f (q0 q1 : AV) : okT (g7 (.lit (.int .i64 (.ofNat 17))) (20) (.lit (.int .i64 (.ofNat 11))) (17+1) [] q0 q1 (.lit (.bool false)) .nil 1) = true := by kernel_rfl
theorem run_17_11_t (q0 q1 : AV) : okT (g7 (.lit (.int .i64 (.ofNat 17))) (20) (.lit (.int .i64 (.ofNat 11))) (17+1) [] q0 q1 (.lit (.bool true)) .nil 1) = true := by kernel_rfl
theorem run_17_12_f (q0 q1 : AV) : okT (g7 (.lit (.int .i64 (.ofNat 17))) (20) (.lit (.int .i64 (.ofNat 12))) (17+1) [] q0 q1 (.lit (.bool false)) .nil 1) = true := by kernel_rfl
theorem run_17_12_t (q0 q1 : AV) : okT (g7 (.lit (.int .i64 (.ofNat 17))) (20) (.lit (.int .i64 (.ofNat 12))) (17+1) [] q0 q1 (.lit (.bool true)) .nil 1) = true := by kernel_rfl
theorem run_17_13_f (q0 q1 : AV) : okT (g7 (.lit (.int .i64 (.ofNat 17))) (20) (.lit (.int .i64 (.ofNat 13))) (17+1) [] q0 q1 (.lit (.bool false)) .nil 1) = true := by kernel_rfl
theorem run_17_13_t (q0 q1 : AV) : okT (g7 (.lit (.int .i64 (.ofNat 17))) (20) (.lit (.int .i64 (.ofNat 13))) (17+1) [] q0 q1 (.lit (.bool true)) .nil 1) = true := by kernel_rfl
theorem run_17_14_f (q0 q1 : AV) : okT (g7 (.lit (.int .i64 (.ofNat 17))) (20) (.lit (.int .i64 (.ofNat 14))) (17+1) [] q0 q1 (.lit (.bool false)) .nil 1) = true := by kernel_rfl
theorem run_17_14_t (q0 q1 : AV) : okT (g7 (.lit (.int .i64 (.ofNat 17))) (20) (.lit (.int .i64 (.ofNat 14))) (17+1) [] q0 q1 (.lit (.bool true)) .nil 1) = true := by kernel_rfl
theorem run_17_15_f (q0 q1 : AV) : okT (g7 (.lit (.int .i64 (.ofNat 17))) (20) (.lit (.int .i64 (.ofNat 15))) (17+1) [] q0 q1 (.lit (.bool false)) .nil 1) = true := by kernel_rfl
theorem run_17_15_t (q0 q1 : AV) : okT (g7 (.lit (.int .i64 (.ofNat 17))) (20) (.lit (.int .i64 (.ofNat 15))) (17+1) [] q0 q1 (.lit (.bool true)) .nil 1) = true := by kernel_rfl
theorem run_17_16_f (q0 q1 : AV) : okT (g7 (.lit (.int .i64 (.ofNat 17))) (20) (.lit (.int .i64 (.ofNat 16))) (17+1) [] q0 q1 (.lit (.bool false)) .nil 1) = true := by kernel_rfl
theorem run_17_16_t (q0 q1 : AV) : okT (g7 (.lit (.int .i64 (.ofNat 17))) (20) (.lit (.int .i64 (.ofNat 16))) (17+1) [] q0 q1 (.lit (.bool true)) .nil 1) = true := by kernel_rfl
theorem run_17_17_f (q0 q1 : AV) : okT (g7 (.lit (.int .i64 (.ofNat 17))) (20) (.lit (.int .i64 (.ofNat 17))) (17+1) [] q0 q1 (.lit (.bool false)) .nil 1) = true := by kernel_rfl
theorem run_17_17_t (q0 q1 : AV) : okT (g7 (.lit (.int .i64 (.ofNat 17))) (20) (.lit (.int .i64 (.ofNat 17))) (17+1) [] q0 q1 (.lit (.bool true)) .nil 1) = true := by kernel_rfl
theorem run_18_0_f (q0 q1 : AV) : okT (g7 (.lit (.int .i64 (.ofNat 18))) (20) (.lit (.int .i64 (.ofNat 0))) (18+1) [] q0 q1 (.lit (.bool false)) .nil 1) = true := by kernel_rfl
end Go.Proofs.YtdepmlcnllofiaaGreatDoor.Rn
