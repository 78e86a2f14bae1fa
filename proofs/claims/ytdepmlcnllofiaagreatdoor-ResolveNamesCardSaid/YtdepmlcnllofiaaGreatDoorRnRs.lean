/-
  Proved here: runs of the statement, each comes to true.
-/
import Derived.Test.YtdepmlcnllofiaaGreatDoorRni
namespace Go.Proofs.YtdepmlcnllofiaaGreatDoor.Rn
open Go.EY Go.EX Go.SX Go.RowKit
theorem run_18_15_t (q0 q1 : AV) : okT (g7 (.lit (.int .i64 (.ofNat 18))) (20) (.lit (.int .i64 (.ofNat 15))) (18+1) [] q0 q1 (.lit (.bool true)) .nil 1) = true := by kernel_rfl
theorem run_18_16_f (q0 q1 : AV) : okT (g7 (.lit (.int .i64 (.ofNat 18))) (20) (.lit (.int .i64 (.ofNat 16))) (18+1) [] q0 q1 (.lit (.bool false)) .nil 1) = true := by kernel_rfl
theorem run_18_16_t (q0 q1 : AV) : okT (g7 (.lit (.int .i64 (.ofNat 18))) (20) (.lit (.int .i64 (.ofNat 16))) (18+1) [] q0 q1 (.lit (.bool true)) .nil 1) = true := by kernel_rfl
theorem run_18_17_f (q0 q1 : AV) : okT (g7 (.lit (.int .i64 (.ofNat 18))) (20) (.lit (.int .i64 (.ofNat 17))) (18+1) [] q0 q1 (.lit (.bool false)) .nil 1) = true := by kernel_rfl
theorem run_18_17_t (q0 q1 : AV) : okT (g7 (.lit (.int .i64 (.ofNat 18))) (20) (.lit (.int .i64 (.ofNat 17))) (18+1) [] q0 q1 (.lit (.bool true)) .nil 1) = true := by kernel_rfl
theorem run_18_18_f (q0 q1 : AV) : okT (g7 (.lit (.int .i64 (.ofNat 18))) (20) (.lit (.int .i64 (.ofNat 18))) (18+1) [] q0 q1 (.lit (.bool false)) .nil 1) = true := by kernel_rfl
theorem run_18_18_t (q0 q1 : AV) : okT (g7 (.lit (.int .i64 (.ofNat 18))) (20) (.lit (.int .i64 (.ofNat 18))) (18+1) [] q0 q1 (.lit (.bool true)) .nil 1) = true := by kernel_rfl
theorem run_19_0_f (q0 q1 : AV) : okT (g7 (.lit (.int .i64 (.ofNat 19))) (20) (.lit (.int .i64 (.ofNat 0))) (19+1) [] q0 q1 (.lit (.bool false)) .nil 1) = true := by kernel_rfl
theorem run_19_0_t (q0 q1 : AV) : okT (g7 (.lit (.int .i64 (.ofNat 19))) (20) (.lit (.int .i64 (.ofNat 0))) (19+1) [] q0 q1 (.lit (.bool true)) .nil 1) = true := by kernel_rfl
theorem run_19_1_f (q0 q1 : AV) : okT (g7 (.lit (.int .i64 (.ofNat 19))) (20) (.lit (.int .i64 (.ofNat 1))) (19+1) [] q0 q1 (.lit (.bool false)) .nil 1) = true := by kernel_rfl
theorem run_19_1_t (q0 q1 : AV) : okT (g7 (.lit (.int .i64 (.ofNat 19))) (20) (.lit (.int .i64 (.ofNat 1))) (19+1) [] q0 q1 (.lit (.bool true)) .nil 1) = true := by kernel_rfl
theorem run_19_2_f (q0 q1 : AV) : okT (g7 (.lit (.int .i64 (.ofNat 19))) (20) (.lit (.int .i64 (.ofNat 2))) (19+1) [] q0 q1 (.lit (.bool false)) .nil 1) = true := by kernel_rfl
theorem run_19_2_t (q0 q1 : AV) : okT (g7 (.lit (.int .i64 (.ofNat 19))) (20) (.lit (.int .i64 (.ofNat 2))) (19+1) [] q0 q1 (.lit (.bool true)) .nil 1) = true := by kernel_rfl
theorem run_19_3_f (q0 q1 : AV) : okT (g7 (.lit (.int .i64 (.ofNat 19))) (20) (.lit (.int .i64 (.ofNat 3))) (19+1) [] q0 q1 (.lit (.bool false)) .nil 1) = true := by kernel_rfl
end Go.Proofs.YtdepmlcnllofiaaGreatDoor.Rn
