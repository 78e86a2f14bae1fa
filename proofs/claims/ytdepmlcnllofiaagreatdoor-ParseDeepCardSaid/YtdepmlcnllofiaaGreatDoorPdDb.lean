/-
  Proved here: runs of the statement, each comes to true.
-/
import Derived.Test.YtdepmlcnllofiaaGreatDoorPde
namespace Go.Proofs.YtdepmlcnllofiaaGreatDoor.Pd
open Go.EY Go.EX Go.SX Go.RowKit
theorem runD_17_0 (q0 q1 c1a c1b c2a c2b : AV) : okT (g4 c1a c1b (.lit (.int .i64 (.ofNat 17))) c2a c2b (.lit (.int .i64 (.ofNat 0))) [] q0 q1 .nil 1) = true := by kernel_rfl
theorem runD_17_1 (q0 q1 c1a c1b c2a c2b : AV) : okT (g4 c1a c1b (.lit (.int .i64 (.ofNat 17))) c2a c2b (.lit (.int .i64 (.ofNat 1))) [] q0 q1 .nil 1) = true := by kernel_rfl
theorem runD_17_2 (q0 q1 c1a c1b c2a c2b : AV) : okT (g4 c1a c1b (.lit (.int .i64 (.ofNat 17))) c2a c2b (.lit (.int .i64 (.ofNat 2))) [] q0 q1 .nil 1) = true := by kernel_rfl
theorem runD_17_3 (q0 q1 c1a c1b c2a c2b : AV) : okT (g4 c1a c1b (.lit (.int .i64 (.ofNat 17))) c2a c2b (.lit (.int .i64 (.ofNat 3))) [] q0 q1 .nil 1) = true := by kernel_rfl
theorem runD_18_0 (q0 q1 c1a c1b c2a c2b : AV) : okT (g4 c1a c1b (.lit (.int .i64 (.ofNat 18))) c2a c2b (.lit (.int .i64 (.ofNat 0))) [] q0 q1 .nil 1) = true := by kernel_rfl
theorem runD_18_1 (q0 q1 c1a c1b c2a c2b : AV) : okT (g4 c1a c1b (.lit (.int .i64 (.ofNat 18))) c2a c2b (.lit (.int .i64 (.ofNat 1))) [] q0 q1 .nil 1) = true := by kernel_rfl
theorem runD_18_2 (q0 q1 c1a c1b c2a c2b : AV) : okT (g4 c1a c1b (.lit (.int .i64 (.ofNat 18))) c2a c2b (.lit (.int .i64 (.ofNat 2))) [] q0 q1 .nil 1) = true := by kernel_rfl
theorem runD_18_3 (q0 q1 c1a c1b c2a c2b : AV) : okT (g4 c1a c1b (.lit (.int .i64 (.ofNat 18))) c2a c2b (.lit (.int .i64 (.ofNat 3))) [] q0 q1 .nil 1) = true := by kernel_rfl
theorem runD_19_0 (q0 q1 c1a c1b c2a c2b : AV) : okT (g4 c1a c1b (.lit (.int .i64 (.ofNat 19))) c2a c2b (.lit (.int .i64 (.ofNat 0))) [] q0 q1 .nil 1) = true := by kernel_rfl
theorem runD_19_1 (q0 q1 c1a c1b c2a c2b : AV) : okT (g4 c1a c1b (.lit (.int .i64 (.ofNat 19))) c2a c2b (.lit (.int .i64 (.ofNat 1))) [] q0 q1 .nil 1) = true := by kernel_rfl
theorem runD_19_2 (q0 q1 c1a c1b c2a c2b : AV) : okT (g4 c1a c1b (.lit (.int .i64 (.ofNat 19))) c2a c2b (.lit (.int .i64 (.ofNat 2))) [] q0 q1 .nil 1) = true := by kernel_rfl
theorem runD_19_3 (q0 q1 c1a c1b c2a c2b : AV) : okT (g4 c1a c1b (.lit (.int .i64 (.ofNat 19))) c2a c2b (.lit (.int .i64 (.ofNat 3))) [] q0 q1 .nil 1) = true := by kernel_rfl
theorem runD_20_0 (q0 q1 c1a c1b c2a c2b : AV) : okT (g4 c1a c1b (.lit (.int .i64 (.ofNat 20))) c2a c2b (.lit (.int .i64 (.ofNat 0))) [] q0 q1 .nil 1) = true := by kernel_rfl
theorem runD_20_1 (q0 q1 c1a c1b c2a c2b : AV) : okT (g4 c1a c1b (.lit (.int .i64 (.ofNat 20))) c2a c2b (.lit (.int .i64 (.ofNat 1))) [] q0 q1 .nil 1) = true := by kernel_rfl
theorem runD_20_2 (q0 q1 c1a c1b c2a c2b : AV) : okT (g4 c1a c1b (.lit (.int .i64 (.ofNat 20))) c2a c2b (.lit (.int .i64 (.ofNat 2))) [] q0 q1 .nil 1) = true := by kernel_rfl
theorem runD_20_3 (q0 q1 c1a c1b c2a c2b : AV) : okT (g4 c1a c1b (.lit (.int .i64 (.ofNat 20))) c2a c2b (.lit (.int .i64 (.ofNat 3))) [] q0 q1 .nil 1) = true := by kernel_rfl
theorem runD_21_0 (q0 q1 c1a c1b c2a c2b : AV) : okT (g4 c1a c1b (.lit (.int .i64 (.ofNat 21))) c2a c2b (.lit (.int .i64 (.ofNat 0))) [] q0 q1 .nil 1) = true := by kernel_rfl
theorem runD_21_1 (q0 q1 c1a c1b c2a c2b : AV) : okT (g4 c1a c1b (.lit (.int .i64 (.ofNat 21))) c2a c2b (.lit (.int .i64 (.ofNat 1))) [] q0 q1 .nil 1) = true := by kernel_rfl
theorem runD_21_2 (q0 q1 c1a c1b c2a c2b : AV) : okT (g4 c1a c1b (.lit (.int .i64 (.ofNat 21))) c2a c2b (.lit (.int .i64 (.ofNat 2))) [] q0 q1 .nil 1) = true := by kernel_rfl
theorem runD_21_3 (q0 q1 c1a c1b c2a c2b : AV) : okT (g4 c1a c1b (.lit (.int .i64 (.ofNat 21))) c2a c2b (.lit (.int .i64 (.ofNat 3))) [] q0 q1 .nil 1) = true := by kernel_rfl
theorem runD_22_0 (q0 q1 c1a c1b c2a c2b : AV) : okT (g4 c1a c1b (.lit (.int .i64 (.ofNat 22))) c2a c2b (.lit (.int .i64 (.ofNat 0))) [] q0 q1 .nil 1) = true := by kernel_rfl
theorem runD_22_1 (q0 q1 c1a c1b c2a c2b : AV) : okT (g4 c1a c1b (.lit (.int .i64 (.ofNat 22))) c2a c2b (.lit (.int .i64 (.ofNat 1))) [] q0 q1 .nil 1) = true := by kernel_rfl
theorem runD_22_2 (q0 q1 c1a c1b c2a c2b : AV) : okT (g4 c1a c1b (.lit (.int .i64 (.ofNat 22))) c2a c2b (.lit (.int .i64 (.ofNat 2))) [] q0 q1 .nil 1) = true := by kernel_rfl
theorem runD_22_3 (q0 q1 c1a c1b c2a c2b : AV) : okT (g4 c1a c1b (.lit (.int .i64 (.ofNat 22))) c2a c2b (.lit (.int .i64 (.ofNat 3))) [] q0 q1 .nil 1) = true := by kernel_rfl
theorem runD_23_0 (q0 q1 c1a c1b c2a c2b : AV) : okT (g4 c1a c1b (.lit (.int .i64 (.ofNat 23))) c2a c2b (.lit (.int .i64 (.ofNat 0))) [] q0 q1 .nil 1) = true := by kernel_rfl
theorem runD_23_1 (q0 q1 c1a c1b c2a c2b : AV) : okT (g4 c1a c1b (.lit (.int .i64 (.ofNat 23))) c2a c2b (.lit (.int .i64 (.ofNat 1))) [] q0 q1 .nil 1) = true := by kernel_rfl
theorem runD_23_2 (q0 q1 c1a c1b c2a c2b : AV) : okT (g4 c1a c1b (.lit (.int .i64 (.ofNat 23))) c2a c2b (.lit (.int .i64 (.ofNat 2))) [] q0 q1 .nil 1) = true := by kernel_rfl
theorem runD_23_3 (q0 q1 c1a c1b c2a c2b : AV) : okT (g4 c1a c1b (.lit (.int .i64 (.ofNat 23))) c2a c2b (.lit (.int .i64 (.ofNat 3))) [] q0 q1 .nil 1) = true := by kernel_rfl
theorem runD_24_0 (q0 q1 c1a c1b c2a c2b : AV) : okT (g4 c1a c1b (.lit (.int .i64 (.ofNat 24))) c2a c2b (.lit (.int .i64 (.ofNat 0))) [] q0 q1 .nil 1) = true := by kernel_rfl
theorem runD_24_1 (q0 q1 c1a c1b c2a c2b : AV) : okT (g4 c1a c1b (.lit (.int .i64 (.ofNat 24))) c2a c2b (.lit (.int .i64 (.ofNat 1))) [] q0 q1 .nil 1) = true := by kernel_rfl
theorem runD_24_2 (q0 q1 c1a c1b c2a c2b : AV) : okT (g4 c1a c1b (.lit (.int .i64 (.ofNat 24))) c2a c2b (.lit (.int .i64 (.ofNat 2))) [] q0 q1 .nil 1) = true := by kernel_rfl
theorem runD_24_3 (q0 q1 c1a c1b c2a c2b : AV) : okT (g4 c1a c1b (.lit (.int .i64 (.ofNat 24))) c2a c2b (.lit (.int .i64 (.ofNat 3))) [] q0 q1 .nil 1) = true := by kernel_rfl
theorem runD_25_0 (q0 q1 c1a c1b c2a c2b : AV) : okT (g4 c1a c1b (.lit (.int .i64 (.ofNat 25))) c2a c2b (.lit (.int .i64 (.ofNat 0))) [] q0 q1 .nil 1) = true := by kernel_rfl
theorem runD_25_1 (q0 q1 c1a c1b c2a c2b : AV) : okT (g4 c1a c1b (.lit (.int .i64 (.ofNat 25))) c2a c2b (.lit (.int .i64 (.ofNat 1))) [] q0 q1 .nil 1) = true := by kernel_rfl
theorem runD_25_2 (q0 q1 c1a c1b c2a c2b : AV) : okT (g4 c1a c1b (.lit (.int .i64 (.ofNat 25))) c2a c2b (.lit (.int .i64 (.ofNat 2))) [] q0 q1 .nil 1) = true := by kernel_rfl
theorem runD_25_3 (q0 q1 c1a c1b c2a c2b : AV) : okT (g4 c1a c1b (.lit (.int .i64 (.ofNat 25))) c2a c2b (.lit (.int .i64 (.ofNat 3))) [] q0 q1 .nil 1) = true := by kernel_rfl
end Go.Proofs.YtdepmlcnllofiaaGreatDoor.Pd
