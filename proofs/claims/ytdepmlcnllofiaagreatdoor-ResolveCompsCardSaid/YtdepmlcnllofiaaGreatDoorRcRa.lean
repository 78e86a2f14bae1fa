/-
  Proved here: runs of the statement, each comes to true.
-/
import Derived.Test.YtdepmlcnllofiaaGreatDoorRci
namespace Go.Proofs.YtdepmlcnllofiaaGreatDoor.Rc
open Go.EY Go.EX Go.SX Go.RowKit
theorem run_0_f (q0 : AV) : okT (g8 (.lit (.int .i64 (.ofNat 0))) (12) [] q0 (.lit (.bool false)) .nil 1) = true := by kernel_rfl
theorem run_0_t (q0 : AV) : okT (g8 (.lit (.int .i64 (.ofNat 0))) (12) [] q0 (.lit (.bool true)) .nil 1) = true := by kernel_rfl
theorem run_1_f (q0 : AV) : okT (g8 (.lit (.int .i64 (.ofNat 1))) (12) [] q0 (.lit (.bool false)) .nil 1) = true := by kernel_rfl
theorem run_1_t (q0 : AV) : okT (g8 (.lit (.int .i64 (.ofNat 1))) (12) [] q0 (.lit (.bool true)) .nil 1) = true := by kernel_rfl
theorem run_2_f (q0 : AV) : okT (g8 (.lit (.int .i64 (.ofNat 2))) (12) [] q0 (.lit (.bool false)) .nil 1) = true := by kernel_rfl
theorem run_2_t (q0 : AV) : okT (g8 (.lit (.int .i64 (.ofNat 2))) (12) [] q0 (.lit (.bool true)) .nil 1) = true := by kernel_rfl
theorem run_3_f (q0 : AV) : okT (g8 (.lit (.int .i64 (.ofNat 3))) (12) [] q0 (.lit (.bool false)) .nil 1) = true := by kernel_rfl
theorem run_3_t (q0 : AV) : okT (g8 (.lit (.int .i64 (.ofNat 3))) (12) [] q0 (.lit (.bool true)) .nil 1) = true := by kernel_rfl
theorem run_4_f (q0 : AV) : okT (g8 (.lit (.int .i64 (.ofNat 4))) (12) [] q0 (.lit (.bool false)) .nil 1) = true := by kernel_rfl
theorem run_4_t (q0 : AV) : okT (g8 (.lit (.int .i64 (.ofNat 4))) (12) [] q0 (.lit (.bool true)) .nil 1) = true := by kernel_rfl
theorem run_5_f (q0 : AV) : okT (g8 (.lit (.int .i64 (.ofNat 5))) (12) [] q0 (.lit (.bool false)) .nil 1) = true := by kernel_rfl
theorem run_5_t (q0 : AV) : okT (g8 (.lit (.int .i64 (.ofNat 5))) (12) [] q0 (.lit (.bool true)) .nil 1) = true := by kernel_rfl
theorem run_6_f (q0 : AV) : okT (g8 (.lit (.int .i64 (.ofNat 6))) (12) [] q0 (.lit (.bool false)) .nil 1) = true := by kernel_rfl
theorem run_6_t (q0 : AV) : okT (g8 (.lit (.int .i64 (.ofNat 6))) (12) [] q0 (.lit (.bool true)) .nil 1) = true := by kernel_rfl
theorem run_7_f (q0 : AV) : okT (g8 (.lit (.int .i64 (.ofNat 7))) (12) [] q0 (.lit (.bool false)) .nil 1) = true := by kernel_rfl
theorem run_7_t (q0 : AV) : okT (g8 (.lit (.int .i64 (.ofNat 7))) (12) [] q0 (.lit (.bool true)) .nil 1) = true := by kernel_rfl
theorem run_8_f (q0 : AV) : okT (g8 (.lit (.int .i64 (.ofNat 8))) (12) [] q0 (.lit (.bool false)) .nil 1) = true := by kernel_rfl
end Go.Proofs.YtdepmlcnllofiaaGreatDoor.Rc
