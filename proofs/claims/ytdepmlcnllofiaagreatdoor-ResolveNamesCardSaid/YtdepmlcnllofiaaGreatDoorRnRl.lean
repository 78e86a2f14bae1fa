/-
  Proved here: runs of the statement, each comes to true.
-/
import Derived.Test.YtdepmlcnllofiaaGreatDoorRni
namespace Go.Proofs.YtdepmlcnllofiaaGreatDoor.Rn
open Go.EY Go.EX Go.SX Go.RowKit
theorem run_15_11_t (q0 q1 : AV) : okT (g7 (.lit (.int .i64 (.ofNat 15))) (20) (.lit (.int .i64 (.ofNat 11))) (15+1) [] q0 q1 (.lit (.bool true)) .nil 1) = true := by kernel_rfl
theorem run_15_12_f (q0 q1 : AV) : okT (g7 (.lit (.int .i64 (.ofNat 15))) (20) (.lit (.int .i64 (.ofNat 12))) (15+1) [] q0 q1 (.lit (.bool false)) .nil 1) = true := by kernel_rfl
theorem run_15_12_t (q0 q1 : AV) : okT (g7 (.lit (.int .i64 (.ofNat 15))) (20) (.lit (.int .i64 (.ofNat 12))) (15+1) [] q0 q1 (.lit (.bool true)) .nil 1) = true := by kernel_rfl
theorem run_15_13_f (q0 q1 : AV) : okT (g7 (.lit (.int .i64 (.ofNat 15))) (20) (.lit (.int .i64 (.ofNat 13))) (15+1) [] q0 q1 (.lit (.bool false)) .nil 1) = true := by kernel_rfl
theorem run_15_13_t (q0 q1 : AV) : okT (g7 (.lit (.int .i64 (.ofNat 15))) (20) (.lit (.int .i64 (.ofNat 13))) (15+1) [] q0 q1 (.lit (.bool true)) .nil 1) = true := by kernel_rfl
theorem run_15_14_f (q0 q1 : AV) : okT (g7 (.lit (.int .i64 (.ofNat 15))) (20) (.lit (.int .i64 (.ofNat 14))) (15+1) [] q0 q1 (.lit (.bool false)) .nil 1) = true := by kernel_rfl
theorem run_15_14_t (q0 q1 : AV) : okT (g7 (.lit (.int .i64 (.ofNat 15))) (20) (.lit (.int .i64 (.ofNat 14))) (15+1) [] q0 q1 (.lit (.bool true)) .nil 1) = true := by kernel_rfl
theorem run_15_15_f (q0 q1 : AV) : okT (g7 (.lit (.int .i64 (.ofNat 15))) (20) (.lit (.int .i64 (.ofNat 15))) (15+1) [] q0 q1 (.lit (.bool false)) .nil 1) = true := by kernel_rfl
theorem run_15_15_t (q0 q1 : AV) : okT (g7 (.lit (.int .i64 (.ofNat 15))) (20) (.lit (.int .i64 (.ofNat 15))) (15+1) [] q0 q1 (.lit (.bool true)) .nil 1) = true := by kernel_rfl
theorem run_16_0_f (q0 q1 : AV) : okT (g7 (.lit (.int .i64 (.ofNat 16))) (20) (.lit (.int .i64 (.ofNat 0))) (16+1) [] q0 q1 (.lit (.bool false)) .nil 1) = true := by kernel_rfl
theorem run_16_0_t (q0 q1 : AV) : okT (g7 (.lit (.int .i64 (.ofNat 16))) (20) (.lit (.int .i64 (.ofNat 0))) (16+1) [] q0 q1 (.lit (.bool true)) .nil 1) = true := by kernel_rfl
theorem run_16_1_f (q0 q1 : AV) : okT (g7 (.lit (.int .i64 (.ofNat 16))) (20) (.lit (.int .i64 (.ofNat 1))) (16+1) [] q0 q1 (.lit (.bool false)) .nil 1) = true := by kernel_rfl
theorem run_16_1_t (q0 q1 : AV) : okT (g7 (.lit (.int .i64 (.ofNat 16))) (20) (.lit (.int .i64 (.ofNat 1))) (16+1) [] q0 q1 (.lit (.bool true)) .nil 1) = true := by kernel_rfl
theorem run_16_2_f (q0 q1 : AV) : okT (g7 (.lit (.int .i64 (.ofNat 16))) (20) (.lit (.int .i64 (.ofNat 2))) (16+1) [] q0 q1 (.lit (.bool false)) .nil 1) = true := by kernel_rfl
theorem run_16_2_t (q0 q1 : AV) : okT (g7 (.lit (.int .i64 (.ofNat 16))) (20) (.lit (.int .i64 (.ofNat 2))) (16+1) [] q0 q1 (.lit (.bool true)) .nil 1) = true := by kernel_rfl
theorem run_16_3_f (q0 q1 : AV) : okT (g7 (.lit (.int .i64 (.ofNat 16))) (20) (.lit (.int .i64 (.ofNat 3))) (16+1) [] q0 q1 (.lit (.bool false)) .nil 1) = true := by kernel_rfl
theorem run_16_3_t (q0 q1 : AV) : okT (g7 (.lit (.int .i64 (.ofNat 16))) (20) (.lit (.int .i64 (.ofNat 3))) (16+1) [] q0 q1 (.lit (.bool true)) .nil 1) = true := by kernel_rfl
end Go.Proofs.YtdepmlcnllofiaaGreatDoor.Rn
