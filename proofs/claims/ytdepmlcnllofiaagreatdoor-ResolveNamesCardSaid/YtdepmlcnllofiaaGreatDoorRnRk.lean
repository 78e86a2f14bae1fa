/-
  Proved here: runs of the statement, each comes to true.
-/
import Derived.Test.YtdepmlcnllofiaaGreatDoorRni
namespace Go.Proofs.YtdepmlcnllofiaaGreatDoor.Rn
open Go.EY Go.EX Go.SX Go.RowKit
theorem run_15_3_f (q0 q1 : AV) : okT (g7 (.lit (.int .i64 (.ofNat 15))) (20) (.lit (.int .i64 (.ofNat 3))) (15+1) [] q0 q1 (.lit (.bool false)) .nil 1) = true := by kernel_rfl
theorem run_15_3_t (q0 q1 : AV) : okT (g7 (.lit (.int .i64 (.ofNat 15))) (20) (.lit (.int .i64 (.ofNat 3))) (15+1) [] q0 q1 (.lit (.bool true)) .nil 1) = true := by kernel_rfl
theorem run_15_4_f (q0 q1 : AV) : okT (g7 (.lit (.int .i64 (.ofNat 15))) (20) (.lit (.int .i64 (.ofNat 4))) (15+1) [] q0 q1 (.lit (.bool false)) .nil 1) = true := by kernel_rfl
theorem run_15_4_t (q0 q1 : AV) : okT (g7 (.lit (.int .i64 (.ofNat 15))) (20) (.lit (.int .i64 (.ofNat 4))) (15+1) [] q0 q1 (.lit (.bool true)) .nil 1) = true := by kernel_rfl
theorem run_15_5_f (q0 q1 : AV) : okT (g7 (.lit (.int .i64 (.ofNat 15))) (20) (.lit (.int .i64 (.ofNat 5))) (15+1) [] q0 q1 (.lit (.bool false)) .nil 1) = true := by kernel_rfl
theorem run_15_5_t (q0 q1 : AV) : okT (g7 (.lit (.int .i64 (.ofNat 15))) (20) (.lit (.int .i64 (.ofNat 5))) (15+1) [] q0 q1 (.lit (.bool true)) .nil 1) = true := by kernel_rfl
theorem run_15_6_f (q0 q1 : AV) : okT (g7 (.lit (.int .i64 (.ofNat 15))) (20) (.lit (.int .i64 (.ofNat 6))) (15+1) [] q0 q1 (.lit (.bool false)) .nil 1) = true := by kernel_rfl
theorem run_15_6_t (q0 q1 : AV) : okT (g7 (.lit (.int .i64 (.ofNat 15))) (20) (.lit (.int .i64 (.ofNat 6))) (15+1) [] q0 q1 (.lit (.bool true)) .nil 1) = true := by kernel_rfl
theorem run_15_7_f (q0 q1 : AV) : okT (g7 (.lit (.int .i64 (.ofNat 15))) (20) (.lit (.int .i64 (.ofNat 7))) (15+1) [] q0 q1 (.lit (.bool false)) .nil 1) = true := by kernel_rfl
theorem run_15_7_t (q0 q1 : AV) : okT (g7 (.lit (.int .i64 (.ofNat 15))) (20) (.lit (.int .i64 (.ofNat 7))) (15+1) [] q0 q1 (.lit (.bool true)) .nil 1) = true := by kernel_rfl
theorem run_15_8_f (q0 q1 : AV) : okT (g7 (.lit (.int .i64 (.ofNat 15))) (20) (.lit (.int .i64 (.ofNat 8))) (15+1) [] q0 q1 (.lit (.bool false)) .nil 1) = true := by kernel_rfl
theorem run_15_8_t (q0 q1 : AV) : okT (g7 (.lit (.int .i64 (.ofNat 15))) (20) (.lit (.int .i64 (.ofNat 8))) (15+1) [] q0 q1 (.lit (.bool true)) .nil 1) = true := by kernel_rfl
theorem run_15_9_f (q0 q1 : AV) : okT (g7 (.lit (.int .i64 (.ofNat 15))) (20) (.lit (.int .i64 (.ofNat 9))) (15+1) [] q0 q1 (.lit (.bool false)) .nil 1) = true := by kernel_rfl
theorem run_15_9_t (q0 q1 : AV) : okT (g7 (.lit (.int .i64 (.ofNat 15))) (20) (.lit (.int .i64 (.ofNat 9))) (15+1) [] q0 q1 (.lit (.bool true)) .nil 1) = true := by kernel_rfl
theorem run_15_10_f (q0 q1 : AV) : okT (g7 (.lit (.int .i64 (.ofNat 15))) (20) (.lit (.int .i64 (.ofNat 10))) (15+1) [] q0 q1 (.lit (.bool false)) .nil 1) = true := by kernel_rfl
theorem run_15_10_t (q0 q1 : AV) : okT (g7 (.lit (.int .i64 (.ofNat 15))) (20) (.lit (.int .i64 (.ofNat 10))) (15+1) [] q0 q1 (.lit (.bool true)) .nil 1) = true := by kernel_rfl
theorem run_15_11_f (q0 q1 : AV) : okT (g7 (.lit (.int .i64 (.ofNat 15))) (20) (.lit (.int .i64 (.ofNat 11))) (15+1) [] q0 q1 (.lit (.bool false)) .nil 1) = true := by kernel_rfl
end Go.Proofs.YtdepmlcnllofiaaGreatDoor.Rn
