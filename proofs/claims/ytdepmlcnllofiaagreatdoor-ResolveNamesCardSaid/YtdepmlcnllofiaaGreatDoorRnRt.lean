/-
  Proved here: runs of the statement, each comes to true.
-/
import Derived.Test.YtdepmlcnllofiaaGreatDoorRni
namespace Go.Proofs.YtdepmlcnllofiaaGreatDoor.Rn
open Go.EY Go.EX Go.SX Go.RowKit
theorem run_19_3_t (q0 q1 : AV) : okT (g7 (.lit (.int .i64 (.ofNat 19))) (20) (.lit (.int .i64 (.ofNat 3))) (19+1) [] q0 q1 (.lit (.bool true)) .nil 1) = true := by kernel_rfl
theorem run_19_4_f (q0 q1 : AV) : okT (g7 (.lit (.int .i64 (.ofNat 19))) (20) (.lit (.int .i64 (.ofNat 4))) (19+1) [] q0 q1 (.lit (.bool false)) .nil 1) = true := by kernel_rfl
theorem run_19_4_t (q0 q1 : AV) : okT (g7 (.lit (.int .i64 (.ofNat 19))) (20) (.lit (.int .i64 (.ofNat 4))) (19+1) [] q0 q1 (.lit (.bool true)) .nil 1) = true := by kernel_rfl
theorem run_19_5_f (q0 q1 : AV) : okT (g7 (.lit (.int .i64 (.ofNat 19))) (20) (.lit (.int .i64 (.ofNat 5))) (19+1) [] q0 q1 (.lit (.bool false)) .nil 1) = true := by kernel_rfl
theorem run_19_5_t (q0 q1 : AV) : okT (g7 (.lit (.int .i64 (.ofNat 19))) (20) (.lit (.int .i64 (.ofNat 5))) (19+1) [] q0 q1 (.lit (.bool true)) .nil 1) = true := by kernel_rfl
theorem run_19_6_f (q0 q1 : AV) : okT (g7 (.lit (.int .i64 (.ofNat 19))) (20) (.lit (.int .i64 (.ofNat 6))) (19+1) [] q0 q1 (.lit (.bool false)) .nil 1) = true := by kernel_rfl
theorem run_19_6_t (q0 q1 : AV) : okT (g7 (.lit (.int .i64 (.ofNat 19))) (20) (.lit (.int .i64 (.ofNat 6))) (19+1) [] q0 q1 (.lit (.bool true)) .nil 1) = true := by kernel_rfl
theorem run_19_7_f (q0 q1 : AV) : okT (g7 (.lit (.int .i64 (.ofNat 19))) (20) (.lit (.int .i64 (.ofNat 7))) (19+1) [] q0 q1 (.lit (.bool false)) .nil 1) = true := by kernel_rfl
theorem run_19_7_t (q0 q1 : AV) : okT (g7 (.lit (.int .i64 (.ofNat 19))) (20) (.lit (.int .i64 (.ofNat 7))) (19+1) [] q0 q1 (.lit (.bool true)) .nil 1) = true := by kernel_rfl
theorem run_19_8_f (q0 q1 : AV) : okT (g7 (.lit (.int .i64 (.ofNat 19))) (20) (.lit (.int .i64 (.ofNat 8))) (19+1) [] q0 q1 (.lit (.bool false)) .nil 1) = true := by kernel_rfl
theorem run_19_8_t (q0 q1 : AV) : okT (g7 (.lit (.int .i64 (.ofNat 19))) (20) (.lit (.int .i64 (.ofNat 8))) (19+1) [] q0 q1 (.lit (.bool true)) .nil 1) = true := by kernel_rfl
theorem run_19_9_f (q0 q1 : AV) : okT (g7 (.lit (.int .i64 (.ofNat 19))) (20) (.lit (.int .i64 (.ofNat 9))) (19+1) [] q0 q1 (.lit (.bool false)) .nil 1) = true := by kernel_rfl
theorem run_19_9_t (q0 q1 : AV) : okT (g7 (.lit (.int .i64 (.ofNat 19))) (20) (.lit (.int .i64 (.ofNat 9))) (19+1) [] q0 q1 (.lit (.bool true)) .nil 1) = true := by kernel_rfl
theorem run_19_10_f (q0 q1 : AV) : okT (g7 (.lit (.int .i64 (.ofNat 19))) (20) (.lit (.int .i64 (.ofNat 10))) (19+1) [] q0 q1 (.lit (.bool false)) .nil 1) = true := by kernel_rfl
end Go.Proofs.YtdepmlcnllofiaaGreatDoor.Rn
