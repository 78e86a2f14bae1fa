/-
  Proved here: runs of the statement, each comes to true.
-/
import Derived.Test.YtlljgagoboapaaaGreatDoorVdi
namespace Go.Proofs.YtlljgagoboapaaaGreatDoor.Vd
open Go.EY Go.EX Go.SX Go.RowKit
theorem run_40_t (q0 : AV) : okT (g3 (.lit (.int .i64 (.ofNat 40))) (100) [] q0 (.lit (.bool true)) .nil 1) = true := by kernel_rfl
theorem run_41_f (q0 : AV) : okT (g3 (.lit (.int .i64 (.ofNat 41))) (100) [] q0 (.lit (.bool false)) .nil 1) = true := by kernel_rfl
theorem run_41_t (q0 : AV) : okT (g3 (.lit (.int .i64 (.ofNat 41))) (100) [] q0 (.lit (.bool true)) .nil 1) = true := by kernel_rfl
theorem run_42_f (q0 : AV) : okT (g3 (.lit (.int .i64 (.ofNat 42))) (100) [] q0 (.lit (.bool false)) .nil 1) = true := by kernel_rfl
theorem run_42_t (q0 : AV) : okT (g3 (.lit (.int .i64 (.ofNat 42))) (100) [] q0 (.lit (.bool true)) .nil 1) = true := by kernel_rfl
theorem run_43_f (q0 : AV) : okT (g3 (.lit (.int .i64 (.ofNat 43))) (100) [] q0 (.lit (.bool false)) .nil 1) = true := by kernel_rfl
theorem run_43_t (q0 : AV) : okT (g3 (.lit (.int .i64 (.ofNat 43))) (100) [] q0 (.lit (.bool true)) .nil 1) = true := by kernel_rfl
theorem run_44_f (q0 : AV) : okT (g3 (.lit (.int .i64 (.ofNat 44))) (100) [] q0 (.lit (.bool false)) .nil 1) = true := by kernel_rfl
theorem run_44_t (q0 : AV) : okT (g3 (.lit (.int .i64 (.ofNat 44))) (100) [] q0 (.lit (.bool true)) .nil 1) = true := by kernel_rfl
theorem run_45_f (q0 : AV) : okT (g3 (.lit (.int .i64 (.ofNat 45))) (100) [] q0 (.lit (.bool false)) .nil 1) = true := by kernel_rfl
theorem run_45_t (q0 : AV) : okT (g3 (.lit (.int .i64 (.ofNat 45))) (100) [] q0 (.lit (.bool true)) .nil 1) = true := by kernel_rfl
theorem run_46_f (q0 : AV) : okT (g3 (.lit (.int .i64 (.ofNat 46))) (100) [] q0 (.lit (.bool false)) .nil 1) = true := by kernel_rfl
theorem run_46_t (q0 : AV) : okT (g3 (.lit (.int .i64 (.ofNat 46))) (100) [] q0 (.lit (.bool true)) .nil 1) = true := by kernel_rfl
theorem run_47_f (q0 : AV) : okT (g3 (.lit (.int .i64 (.ofNat 47))) (100) [] q0 (.lit (.bool false)) .nil 1) = true := by kernel_rfl
theorem run_47_t (q0 : AV) : okT (g3 (.lit (.int .i64 (.ofNat 47))) (100) [] q0 (.lit (.bool true)) .nil 1) = true := by kernel_rfl
theorem run_48_f (q0 : AV) : okT (g3 (.lit (.int .i64 (.ofNat 48))) (100) [] q0 (.lit (.bool false)) .nil 1) = true := by kernel_rfl
theorem run_48_t (q0 : AV) : okT (g3 (.lit (.int .i64 (.ofNat 48))) (100) [] q0 (.lit (.bool true)) .nil 1) = true := by kernel_rfl
theorem run_49_f (q0 : AV) : okT (g3 (.lit (.int .i64 (.ofNat 49))) (100) [] q0 (.lit (.bool false)) .nil 1) = true := by kernel_rfl
theorem run_49_t (q0 : AV) : okT (g3 (.lit (.int .i64 (.ofNat 49))) (100) [] q0 (.lit (.bool true)) .nil 1) = true := by kernel_rfl
theorem run_50_f (q0 : AV) : okT (g3 (.lit (.int .i64 (.ofNat 50))) (100) [] q0 (.lit (.bool false)) .nil 1) = true := by kernel_rfl
theorem run_50_t (q0 : AV) : okT (g3 (.lit (.int .i64 (.ofNat 50))) (100) [] q0 (.lit (.bool true)) .nil 1) = true := by kernel_rfl
theorem run_51_f (q0 : AV) : okT (g3 (.lit (.int .i64 (.ofNat 51))) (100) [] q0 (.lit (.bool false)) .nil 1) = true := by kernel_rfl
theorem run_51_t (q0 : AV) : okT (g3 (.lit (.int .i64 (.ofNat 51))) (100) [] q0 (.lit (.bool true)) .nil 1) = true := by kernel_rfl
theorem run_52_f (q0 : AV) : okT (g3 (.lit (.int .i64 (.ofNat 52))) (100) [] q0 (.lit (.bool false)) .nil 1) = true := by kernel_rfl
theorem run_52_t (q0 : AV) : okT (g3 (.lit (.int .i64 (.ofNat 52))) (100) [] q0 (.lit (.bool true)) .nil 1) = true := by kernel_rfl
theorem run_53_f (q0 : AV) : okT (g3 (.lit (.int .i64 (.ofNat 53))) (100) [] q0 (.lit (.bool false)) .nil 1) = true := by kernel_rfl
theorem run_53_t (q0 : AV) : okT (g3 (.lit (.int .i64 (.ofNat 53))) (100) [] q0 (.lit (.bool true)) .nil 1) = true := by kernel_rfl
theorem run_54_f (q0 : AV) : okT (g3 (.lit (.int .i64 (.ofNat 54))) (100) [] q0 (.lit (.bool false)) .nil 1) = true := by kernel_rfl
theorem run_54_t (q0 : AV) : okT (g3 (.lit (.int .i64 (.ofNat 54))) (100) [] q0 (.lit (.bool true)) .nil 1) = true := by kernel_rfl
theorem run_55_f (q0 : AV) : okT (g3 (.lit (.int .i64 (.ofNat 55))) (100) [] q0 (.lit (.bool false)) .nil 1) = true := by kernel_rfl
theorem run_55_t (q0 : AV) : okT (g3 (.lit (.int .i64 (.ofNat 55))) (100) [] q0 (.lit (.bool true)) .nil 1) = true := by kernel_rfl
theorem run_56_f (q0 : AV) : okT (g3 (.lit (.int .i64 (.ofNat 56))) (100) [] q0 (.lit (.bool false)) .nil 1) = true := by kernel_rfl
theorem run_56_t (q0 : AV) : okT (g3 (.lit (.int .i64 (.ofNat 56))) (100) [] q0 (.lit (.bool true)) .nil 1) = true := by kernel_rfl
theorem run_57_f (q0 : AV) : okT (g3 (.lit (.int .i64 (.ofNat 57))) (100) [] q0 (.lit (.bool false)) .nil 1) = true := by kernel_rfl
theorem run_57_t (q0 : AV) : okT (g3 (.lit (.int .i64 (.ofNat 57))) (100) [] q0 (.lit (.bool true)) .nil 1) = true := by kernel_rfl
theorem run_58_f (q0 : AV) : okT (g3 (.lit (.int .i64 (.ofNat 58))) (100) [] q0 (.lit (.bool false)) .nil 1) = true := by kernel_rfl
theorem run_58_t (q0 : AV) : okT (g3 (.lit (.int .i64 (.ofNat 58))) (100) [] q0 (.lit (.bool true)) .nil 1) = true := by kernel_rfl
end Go.Proofs.YtlljgagoboapaaaGreatDoor.Vd
