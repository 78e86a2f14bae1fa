/-
  Proved here: runs of the statement, each comes to true.
-/
import Derived.Test.YtlljgagoboapaaaGreatDoorVfi
namespace Go.Proofs.YtlljgagoboapaaaGreatDoor.Vf
open Go.EY Go.EX Go.SX Go.RowKit
theorem run_0 (q0 : AV) : okT (g4 (.lit (.int .i64 (.ofNat 0))) (20) [] q0 .nil 1) = true := by kernel_rfl
theorem run_1 (q0 : AV) : okT (g4 (.lit (.int .i64 (.ofNat 1))) (20) [] q0 .nil 1) = true := by kernel_rfl
theorem run_2 (q0 : AV) : okT (g4 (.lit (.int .i64 (.ofNat 2))) (20) [] q0 .nil 1) = true := by kernel_rfl
theorem run_3 (q0 : AV) : okT (g4 (.lit (.int .i64 (.ofNat 3))) (20) [] q0 .nil 1) = true := by kernel_rfl
theorem run_4 (q0 : AV) : okT (g4 (.lit (.int .i64 (.ofNat 4))) (20) [] q0 .nil 1) = true := by kernel_rfl
theorem run_5 (q0 : AV) : okT (g4 (.lit (.int .i64 (.ofNat 5))) (20) [] q0 .nil 1) = true := by kernel_rfl
theorem run_6 (q0 : AV) : okT (g4 (.lit (.int .i64 (.ofNat 6))) (20) [] q0 .nil 1) = true := by kernel_rfl
theorem run_7 (q0 : AV) : okT (g4 (.lit (.int .i64 (.ofNat 7))) (20) [] q0 .nil 1) = true := by kernel_rfl
theorem run_8 (q0 : AV) : okT (g4 (.lit (.int .i64 (.ofNat 8))) (20) [] q0 .nil 1) = true := by kernel_rfl
theorem run_9 (q0 : AV) : okT (g4 (.lit (.int .i64 (.ofNat 9))) (20) [] q0 .nil 1) = true := by kernel_rfl
theorem run_10 (q0 : AV) : okT (g4 (.lit (.int .i64 (.ofNat 10))) (20) [] q0 .nil 1) = true := by kernel_rfl
theorem run_11 (q0 : AV) : okT (g4 (.lit (.int .i64 (.ofNat 11))) (20) [] q0 .nil 1) = true := by kernel_rfl
theorem run_12 (q0 : AV) : okT (g4 (.lit (.int .i64 (.ofNat 12))) (20) [] q0 .nil 1) = true := by kernel_rfl
theorem run_13 (q0 : AV) : okT (g4 (.lit (.int .i64 (.ofNat 13))) (20) [] q0 .nil 1) = true := by kernel_rfl
theorem run_14 (q0 : AV) : okT (g4 (.lit (.int .i64 (.ofNat 14))) (20) [] q0 .nil 1) = true := by kernel_rfl
theorem run_15 (q0 : AV) : okT (g4 (.lit (.int .i64 (.ofNat 15))) (20) [] q0 .nil 1) = true := by kernel_rfl
theorem run_16 (q0 : AV) : okT (g4 (.lit (.int .i64 (.ofNat 16))) (20) [] q0 .nil 1) = true := by kernel_rfl
theorem run_17 (q0 : AV) : okT (g4 (.lit (.int .i64 (.ofNat 17))) (20) [] q0 .nil 1) = true := by kernel_rfl
theorem run_18 (q0 : AV) : okT (g4 (.lit (.int .i64 (.ofNat 18))) (20) [] q0 .nil 1) = true := by kernel_rfl
theorem run_19 (q0 : AV) : okT (g4 (.lit (.int .i64 (.ofNat 19))) (20) [] q0 .nil 1) = true := by kernel_rfl
end Go.Proofs.YtlljgagoboapaaaGreatDoor.Vf
