/-
  Proved here: runs of the statement, each comes to true.
-/
import Derived.Test.YtlljgagoboapaaaGreatDoorVdi
namespace Go.Proofs.YtlljgagoboapaaaGreatDoor.Vd
open Go.EY Go.EX Go.SX Go.RowKit
theorem run_59_f (q0 : AV) : okT (g3 (.lit (.int .i64 (.ofNat 59))) (100) [] q0 (.lit (.bool false)) .nil 1) = true := by kernel_rfl
theorem run_59_t (q0 : AV) : okT (g3 (.lit (.int .i64 (.ofNat 59))) (100) [] q0 (.lit (.bool true)) .nil 1) = true := by kernel_rfl
theorem run_60_f (q0 : AV) : okT (g3 (.lit (.int .i64 (.ofNat 60))) (100) [] q0 (.lit (.bool false)) .nil 1) = true := by kernel_rfl
theorem run_60_t (q0 : AV) : okT (g3 (.lit (.int .i64 (.ofNat 60))) (100) [] q0 (.lit (.bool true)) .nil 1) = true := by kernel_rfl
theorem run_61_f (q0 : AV) : okT (g3 (.lit (.int .i64 (.ofNat 61))) (100) [] q0 (.lit (.bool false)) .nil 1) = true := by kernel_rfl
theorem run_61_t (q0 : AV) : okT (g3 (.lit (.int .i64 (.ofNat 61))) (100) [] q0 (.lit (.bool true)) .nil 1) = true := by kernel_rfl
theorem run_62_f (q0 : AV) : okT (g3 (.lit (.int .i64 (.ofNat 62))) (100) [] q0 (.lit (.bool false)) .nil 1) = true := by kernel_rfl
theorem run_62_t (q0 : AV) : okT (g3 (.lit (.int .i64 (.ofNat 62))) (100) [] q0 (.lit (.bool true)) .nil 1) = true := by kernel_rfl
theorem run_63_f (q0 : AV) : okT (g3 (.lit (.int .i64 (.ofNat 63))) (100) [] q0 (.lit (.bool false)) .nil 1) = true := by kernel_rfl
theorem run_63_t (q0 : AV) : okT (g3 (.lit (.int .i64 (.ofNat 63))) (100) [] q0 (.lit (.bool true)) .nil 1) = true := by kernel_rfl
theorem run_64_f (q0 : AV) : okT (g3 (.lit (.int .i64 (.ofNat 64))) (100) [] q0 (.lit (.bool false)) .nil 1) = true := by kernel_rfl
theorem run_64_t (q0 : AV) : okT (g3 (.lit (.int .i64 (.ofNat 64))) (100) [] q0 (.lit (.bool true)) .nil 1) = true := by kernel_rfl
theorem run_65_f (q0 : AV) : okT (g3 (.lit (.int .i64 (.ofNat 65))) (100) [] q0 (.lit (.bool false)) .nil 1) = true := by kernel_rfl
theorem run_65_t (q0 : AV) : okT (g3 (.lit (.int .i64 (.ofNat 65))) (100) [] q0 (.lit (.bool true)) .nil 1) = true := by kernel_rfl
theorem run_66_f (q0 : AV) : okT (g3 (.lit (.int .i64 (.ofNat 66))) (100) [] q0 (.lit (.bool false)) .nil 1) = true := by kernel_rfl
theorem run_66_t (q0 : AV) : okT (g3 (.lit (.int .i64 (.ofNat 66))) (100) [] q0 (.lit (.bool true)) .nil 1) = true := by kernel_rfl
theorem run_67_f (q0 : AV) : okT (g3 (.lit (.int .i64 (.ofNat 67))) (100) [] q0 (.lit (.bool false)) .nil 1) = true := by kernel_rfl
theorem run_67_t (q0 : AV) : okT (g3 (.lit (.int .i64 (.ofNat 67))) (100) [] q0 (.lit (.bool true)) .nil 1) = true := by kernel_rfl
theorem run_68_f (q0 : AV) : okT (g3 (.lit (.int .i64 (.ofNat 68))) (100) [] q0 (.lit (.bool false)) .nil 1) = true := by kernel_rfl
theorem run_68_t (q0 : AV) : okT (g3 (.lit (.int .i64 (.ofNat 68))) (100) [] q0 (.lit (.bool true)) .nil 1) = true := by kernel_rfl
theorem run_69_f (q0 : AV) : okT (g3 (.lit (.int .i64 (.ofNat 69))) (100) [] q0 (.lit (.bool false)) .nil 1) = true := by kernel_rfl
theorem run_69_t (q0 : AV) : okT (g3 (.lit (.int .i64 (.ofNat 69))) (100) [] q0 (.lit (.bool true)) .nil 1) = true := by kernel_rfl
theorem run_70_f (q0 : AV) : okT (g3 (.lit (.int .i64 (.ofNat 70))) (100) [] q0 (.lit (.bool false)) .nil 1) = true := by kernel_rfl
theorem run_70_t (q0 : AV) : okT (g3 (.lit (.int .i64 (.ofNat 70))) (100) [] q0 (.lit (.bool true)) .nil 1) = true := by kernel_rfl
theorem run_71_f (q0 : AV) : okT (g3 (.lit (.int .i64 (.ofNat 71))) (100) [] q0 (.lit (.bool false)) .nil 1) = true := by kernel_rfl
theorem run_71_t (q0 : AV) : okT (g3 (.lit (.int .i64 (.ofNat 71))) (100) [] q0 (.lit (.bool true)) .nil 1) = true := by kernel_rfl
theorem run_72_f (q0 : AV) : okT (g3 (.lit (.int .i64 (.ofNat 72))) (100) [] q0 (.lit (.bool false)) .nil 1) = true := by kernel_rfl
theorem run_72_t (q0 : AV) : okT (g3 (.lit (.int .i64 (.ofNat 72))) (100) [] q0 (.lit (.bool true)) .nil 1) = true := by kernel_rfl
theorem run_73_f (q0 : AV) : okT (g3 (.lit (.int .i64 (.ofNat 73))) (100) [] q0 (.lit (.bool false)) .nil 1) = true := by kernel_rfl
end Go.Proofs.YtlljgagoboapaaaGreatDoor.Vd
