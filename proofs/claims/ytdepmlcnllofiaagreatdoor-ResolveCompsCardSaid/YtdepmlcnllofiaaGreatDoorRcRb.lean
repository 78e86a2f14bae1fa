/-
  Proved here: runs of the statement, each comes to true.
-/
import Derived.Test.YtdepmlcnllofiaaGreatDoorRci
namespace Go.Proofs.YtdepmlcnllofiaaGreatDoor.Rc
open Go.EY Go.EX Go.SX Go.RowKit
theorem run_8_t (q0 : AV) : okT (g8 (.lit (.int .i64 (.ofNat 8))) (12) [] q0 (.lit (.bool true)) .nil 1) = true := by kernel_rfl
theorem run_9_f (q0 : AV) : okT (g8 (.lit (.int .i64 (.ofNat 9))) (12) [] q0 (.lit (.bool false)) .nil 1) = true := by kernel_rfl
theorem run_9_t (q0 : AV) : okT (g8 (.lit (.int .i64 (.ofNat 9))) (12) [] q0 (.lit (.bool true)) .nil 1) = true := by kernel_rfl
theorem run_10_f (q0 : AV) : okT (g8 (.lit (.int .i64 (.ofNat 10))) (12) [] q0 (.lit (.bool false)) .nil 1) = true := by kernel_rfl
theorem run_10_t (q0 : AV) : okT (g8 (.lit (.int .i64 (.ofNat 10))) (12) [] q0 (.lit (.bool true)) .nil 1) = true := by kernel_rfl
theorem run_11_f (q0 : AV) : okT (g8 (.lit (.int .i64 (.ofNat 11))) (12) [] q0 (.lit (.bool false)) .nil 1) = true := by kernel_rfl
theorem run_11_t (q0 : AV) : okT (g8 (.lit (.int .i64 (.ofNat 11))) (12) [] q0 (.lit (.bool true)) .nil 1) = true := by kernel_rfl
end Go.Proofs.YtdepmlcnllofiaaGreatDoor.Rc
