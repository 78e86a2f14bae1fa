/-
  Proved here: runs of the statement, each comes to true.
-/
import Derived.Test.YtlljgagoboapaaaGreatDoorVdi
namespace Go.Proofs.YtlljgagoboapaaaGreatDoor.Vd
open Go.EY Go.EX Go.SX Go.RowKit
theorem run_73_t (q0 : AV) : okT (g3 (.lit (.int .i64 (.ofNat 73))) (100) [] q0 (.lit (.bool true)) .nil 1) = true := by kernel_rfl
theorem run_74_f (q0 : AV) : okT (g3 (.lit (.int .i64 (.ofNat 74))) (100) [] q0 (.lit (.bool false)) .nil 1) = true := by kernel_rfl
theorem run_74_t (q0 : AV) : okT (g3 (.lit (.int .i64 (.ofNat 74))) (100) [] q0 (.lit (.bool true)) .nil 1) = true := by kernel_rfl
theorem run_75_f (q0 : AV) : okT (g3 (.lit (.int .i64 (.ofNat 75))) (100) [] q0 (.lit (.bool false)) .nil 1) = true := by kernel_rfl
theorem run_75_t (q0 : AV) : okT (g3 (.lit (.int .i64 (.ofNat 75))) (100) [] q0 (.lit (.bool true)) .nil 1) = true := by kernel_rfl
theorem run_76_f (q0 : AV) : okT (g3 (.lit (.int .i64 (.ofNat 76))) (100) [] q0 (.lit (.bool false)) .nil 1) = true := by kernel_rfl
theorem run_76_t (q0 : AV) : okT (g3 (.lit (.int .i64 (.ofNat 76))) (100) [] q0 (.lit (.bool true)) .nil 1) = true := by kernel_rfl
theorem run_77_f (q0 : AV) : okT (g3 (.lit (.int .i64 (.ofNat 77))) (100) [] q0 (.lit (.bool false)) .nil 1) = true := by kernel_rfl
theorem run_77_t (q0 : AV) : okT (g3 (.lit (.int .i64 (.ofNat 77))) (100) [] q0 (.lit (.bool true)) .nil 1) = true := by kernel_rfl
theorem run_78_f (q0 : AV) : okT (g3 (.lit (.int .i64 (.ofNat 78))) (100) [] q0 (.lit (.bool false)) .nil 1) = true := by kernel_rfl
theorem run_78_t (q0 : AV) : okT (g3 (.lit (.int .i64 (.ofNat 78))) (100) [] q0 (.lit (.bool true)) .nil 1) = true := by kernel_rfl
theorem run_79_f (q0 : AV) : okT (g3 (.lit (.int .i64 (.ofNat 79))) (100) [] q0 (.lit (.bool false)) .nil 1) = true := by kernel_rfl
theorem run_79_t (q0 : AV) : okT (g3 (.lit (.int .i64 (.ofNat 79))) (100) [] q0 (.lit (.bool true)) .nil 1) = true := by kernel_rfl
theorem run_80_f (q0 : AV) : okT (g3 (.lit (.int .i64 (.ofNat 80))) (100) [] q0 (.lit (.bool false)) .nil 1) = true := by kernel_rfl
theorem run_80_t (q0 : AV) : okT (g3 (.lit (.int .i64 (.ofNat 80))) (100) [] q0 (.lit (.bool true)) .nil 1) = true := by kernel_rfl
theorem run_81_f (q0 : AV) : okT (g3 (.lit (.int .i64 (.ofNat 81))) (100) [] q0 (.lit (.bool false)) .nil 1) = true := by kernel_rfl
theorem run_81_t (q0 : AV) : okT (g3 (.lit (.int .i64 (.ofNat 81))) (100) [] q0 (.lit (.bool true)) .nil 1) = true := by kernel_rfl
theorem run_82_f (q0 : AV) : okT (g3 (.lit (.int .i64 (.ofNat 82))) (100) [] q0 (.lit (.bool false)) .nil 1) = true := by kernel_rfl
theorem run_82_t (q0 : AV) : okT (g3 (.lit (.int .i64 (.ofNat 82))) (100) [] q0 (.lit (.bool true)) .nil 1) = true := by kernel_rfl
theorem run_83_f (q0 : AV) : okT (g3 (.lit (.int .i64 (.ofNat 83))) (100) [] q0 (.lit (.bool false)) .nil 1) = true := by kernel_rfl
theorem run_83_t (q0 : AV) : okT (g3 (.lit (.int .i64 (.ofNat 83))) (100) [] q0 (.lit (.bool true)) .nil 1) = true := by kernel_rfl
theorem run_84_f (q0 : AV) : okT (g3 (.lit (.int .i64 (.ofNat 84))) (100) [] q0 (.lit (.bool false)) .nil 1) = true := by kernel_rfl
theorem run_84_t (q0 : AV) : okT (g3 (.lit (.int .i64 (.ofNat 84))) (100) [] q0 (.lit (.bool true)) .nil 1) = true := by kernel_rfl
theorem run_85_f (q0 : AV) : okT (g3 (.lit (.int .i64 (.ofNat 85))) (100) [] q0 (.lit (.bool false)) .nil 1) = true := by kernel_rfl
end Go.Proofs.YtlljgagoboapaaaGreatDoor.Vd
