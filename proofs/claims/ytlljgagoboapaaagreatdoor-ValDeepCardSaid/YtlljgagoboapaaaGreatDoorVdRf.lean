/-
  Proved here: runs of the statement, each comes to true.
-/
import Derived.Test.YtlljgagoboapaaaGreatDoorVdi
namespace Go.Proofs.YtlljgagoboapaaaGreatDoor.Vd
open Go.EY Go.EX Go.SX Go.RowKit
theorem run_96_f (q0 : AV) : okT (g3 (.lit (.int .i64 (.ofNat 96))) (100) [] q0 (.lit (.bool false)) .nil 1) = true := by kernel_rfl
theorem run_96_t (q0 : AV) : okT (g3 (.lit (.int .i64 (.ofNat 96))) (100) [] q0 (.lit (.bool true)) .nil 1) = true := by kernel_rfl
theorem run_97_f (q0 : AV) : okT (g3 (.lit (.int .i64 (.ofNat 97))) (100) [] q0 (.lit (.bool false)) .nil 1) = true := by kernel_rfl
theorem run_97_t (q0 : AV) : okT (g3 (.lit (.int .i64 (.ofNat 97))) (100) [] q0 (.lit (.bool true)) .nil 1) = true := by kernel_rfl
theorem run_98_f (q0 : AV) : okT (g3 (.lit (.int .i64 (.ofNat 98))) (100) [] q0 (.lit (.bool false)) .nil 1) = true := by kernel_rfl
theorem run_98_t (q0 : AV) : okT (g3 (.lit (.int .i64 (.ofNat 98))) (100) [] q0 (.lit (.bool true)) .nil 1) = true := by kernel_rfl
theorem run_99_f (q0 : AV) : okT (g3 (.lit (.int .i64 (.ofNat 99))) (100) [] q0 (.lit (.bool false)) .nil 1) = true := by kernel_rfl
theorem run_99_t (q0 : AV) : okT (g3 (.lit (.int .i64 (.ofNat 99))) (100) [] q0 (.lit (.bool true)) .nil 1) = true := by kernel_rfl
end Go.Proofs.YtlljgagoboapaaaGreatDoor.Vd
