/-
  Proved here: runs of the statement, each comes to true.
-/
import Derived.Test.YtdepmlcnllofiaaGreatDoorRni
namespace Go.Proofs.YtdepmlcnllofiaaGreatDoor.Rn
open Go.EY Go.EX Go.SX Go.RowKit
theorem run_19_10_t (q0 q1 : AV) : okT (g7 (.lit (.int .i64 (.ofNat 19))) (20) (.lit (.int .i64 (.ofNat 10))) (19+1) [] q0 q1 (.lit (.bool true)) .nil 1) = true := by kernel_rfl
theorem run_19_11_f (q0 q1 : AV) : okT (g7 (.lit (.int .i64 (.ofNat 19))) (20) (.lit (.int .i64 (.ofNat 11))) (19+1) [] q0 q1 (.lit (.bool false)) .nil 1) = true := by kernel_rfl
theorem run_19_11_t (q0 q1 : AV) : okT (g7 (.lit (.int .i64 (.ofNat 19))) (20) (.lit (.int .i64 (.ofNat 11))) (19+1) [] q0 q1 (.lit (.bool true)) .nil 1) = true := by kernel_rfl
theorem run_19_12_f (q0 q1 : AV) : okT (g7 (.lit (.int .i64 (.ofNat 19))) (20) (.lit (.int .i64 (.ofNat 12))) (19+1) [] q0 q1 (.lit (.bool false)) .nil 1) = true := by kernel_rfl
theorem run_19_12_t (q0 q1 : AV) : okT (g7 (.lit (.int .i64 (.ofNat 19))) (20) (.lit (.int .i64 (.ofNat 12))) (19+1) [] q0 q1 (.lit (.bool true)) .nil 1) = true := by kernel_rfl
theorem run_19_13_f (q0 q1 : AV) : okT (g7 (.lit (.int .i64 (.ofNat 19))) (20) (.lit (.int .i64 (.ofNat 13))) (19+1) [] q0 q1 (.lit (.bool false)) .nil 1) = true := by kernel_rfl
theorem run_19_13_t (q0 q1 : AV) : okT (g7 (.lit (.int .i64 (.ofNat 19))) (20) (.lit (.int .i64 (.ofNat 13))) (19+1) [] q0 q1 (.lit (.bool true)) .nil 1) = true := by kernel_rfl
theorem run_19_14_f (q0 q1 : AV) : okT (g7 (.lit (.int .i64 (.ofNat 19))) (20) (.lit (.int .i64 (.ofNat 14))) (19+1) [] q0 q1 (.lit (.bool false)) .nil 1) = true := by kernel_rfl
theorem run_19_14_t (q0 q1 : AV) : okT (g7 (.lit (.int .i64 (.ofNat 19))) (20) (.lit (.int .i64 (.ofNat 14))) (19+1) [] q0 q1 (.lit (.bool true)) .nil 1) = true := by kernel_rfl
theorem run_19_15_f (q0 q1 : AV) : okT (g7 (.lit (.int .i64 (.ofNat 19))) (20) (.lit (.int .i64 (.ofNat 15))) (19+1) [] q0 q1 (.lit (.bool false)) .nil 1) = true := by kernel_rfl
theorem run_19_15_t (q0 q1 : AV) : okT (g7 (.lit (.int .i64 (.ofNat 19))) (20) (.lit (.int .i64 (.ofNat 15))) (19+1) [] q0 q1 (.lit (.bool true)) .nil 1) = true := by kernel_rfl
theorem run_19_16_f (q0 q1 : AV) : okT (g7 (.lit (.int .i64 (.ofNat 19))) (20) (.lit (.int .i64 (.ofNat 16))) (19+1) [] q0 q1 (.lit (.bool false)) .nil 1) = true := by kernel_rfl
theorem run_19_16_t (q0 q1 : AV) : okT (g7 (.lit (.int .i64 (.ofNat 19))) (20) (.lit (.int .i64 (.ofNat 16))) (19+1) [] q0 q1 (.lit (.bool true)) .nil 1) = true := by kernel_rfl
theorem run_19_17_f (q0 q1 : AV) : okT (g7 (.lit (.int .i64 (.ofNat 19))) (20) (.lit (.int .i64 (.ofNat 17))) (19+1) [] q0 q1 (.lit (.bool false)) .nil 1) = true := by kernel_rfl
end Go.Proofs.YtdepmlcnllofiaaGreatDoor.Rn
