/-
  Proved here: runs of the statement, each comes to true.
-/
import Derived.Test.YtlljgagoboapaaaGreatDoorVdi
namespace Go.Proofs.YtlljgagoboapaaaGreatDoor.Vd
open Go.EY Go.EX Go.SX Go.RowKit
theorem run_85_t (q0 : AV) : okT (g3 (.lit (.int .i64 (.ofNat 85))) (100) [] q0 (.lit (.bool true)) .nil 1) = true := by kernel_rfl
theorem run_86_f (q0 : AV) : okT (g3 (.lit (.int .i64 (.ofNat 86))) (100) [] q0 (.lit (.bool false)) .nil 1) = true := by kernel_rfl
theorem run_86_t (q0 : AV) : okT (g3 (.lit (.int .i64 (.ofNat 86))) (100) [] q0 (.lit (.bool true)) .nil 1) = true := by kernel_rfl
theorem run_87_f (q0 : AV) : okT (g3 (.lit (.int .i64 (.ofNat 87))) (100) [] q0 (.lit (.bool false)) .nil 1) = true := by kernel_rfl
theorem run_87_t (q0 : AV) : okT (g3 (.lit (.int .i64 (.ofNat 87))) (100) [] q0 (.lit (.bool true)) .nil 1) = true := by kernel_rfl
theorem run_88_f (q0 : AV) : okT (g3 (.lit (.int .i64 (.ofNat 88))) (100) [] q0 (.lit (.bool false)) .nil 1) = true := by kernel_rfl
theorem run_88_t (q0 : AV) : okT (g3 (.lit (.int .i64 (.ofNat 88))) (100) [] q0 (.lit (.bool true)) .nil 1) = true := by kernel_rfl
theorem run_89_f (q0 : AV) : okT (g3 (.lit (.int .i64 (.ofNat 89))) (100) [] q0 (.lit (.bool false)) .nil 1) = true := by kernel_rfl
theorem run_89_t (q0 : AV) : okT (g3 (.lit (.int .i64 (.ofNat 89))) (100) [] q0 (.lit (.bool true)) .nil 1) = true := by kernel_rfl
theorem run_90_f (q0 : AV) : okT (g3 (.lit (.int .i64 (.ofNat 90))) (100) [] q0 (.lit (.bool false)) .nil 1) = true := by kernel_rfl
theorem run_90_t (q0 : AV) : okT (g3 (.lit (.int .i64 (.ofNat 90))) (100) [] q0 (.lit (.bool true)) .nil 1) = true := by kernel_rfl
theorem run_91_f (q0 : AV) : okT (g3 (.lit (.int .i64 (.ofNat 91))) (100) [] q0 (.lit (.bool false)) .nil 1) = true := by kernel_rfl
theorem run_91_t (q0 : AV) : okT (g3 (.lit (.int .i64 (.ofNat 91))) (100) [] q0 (.lit (.bool true)) .nil 1) = true := by kernel_rfl
theorem run_92_f (q0 : AV) : okT (g3 (.lit (.int .i64 (.ofNat 92))) (100) [] q0 (.lit (.bool false)) .nil 1) = true := by kernel_rfl
theorem run_92_t (q0 : AV) : okT (g3 (.lit (.int .i64 (.ofNat 92))) (100) [] q0 (.lit (.bool true)) .nil 1) = true := by kernel_rfl
theorem run_93_f (q0 : AV) : okT (g3 (.lit (.int .i64 (.ofNat 93))) (100) [] q0 (.lit (.bool false)) .nil 1) = true := by kernel_rfl
theorem run_93_t (q0 : AV) : okT (g3 (.lit (.int .i64 (.ofNat 93))) (100) [] q0 (.lit (.bool true)) .nil 1) = true := by kernel_rfl
theorem run_94_f (q0 : AV) : okT (g3 (.lit (.int .i64 (.ofNat 94))) (100) [] q0 (.lit (.bool false)) .nil 1) = true := by kernel_rfl
theorem run_94_t (q0 : AV) : okT (g3 (.lit (.int .i64 (.ofNat 94))) (100) [] q0 (.lit (.bool true)) .nil 1) = true := by kernel_rfl
theorem run_95_f (q0 : AV) : okT (g3 (.lit (.int .i64 (.ofNat 95))) (100) [] q0 (.lit (.bool false)) .nil 1) = true := by kernel_rfl
theorem run_95_t (q0 : AV) : okT (g3 (.lit (.int .i64 (.ofNat 95))) (100) [] q0 (.lit (.bool true)) .nil 1) = true := by kernel_rfl
end Go.Proofs.YtlljgagoboapaaaGreatDoor.Vd
