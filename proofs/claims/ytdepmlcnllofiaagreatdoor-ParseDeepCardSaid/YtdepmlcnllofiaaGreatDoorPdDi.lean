/-
  Proved here: runs of the statement, each comes to true.
-/
import Derived.Test.YtdepmlcnllofiaaGreatDoorPde
namespace Go.Proofs.YtdepmlcnllofiaaGreatDoor.Pd
open Go.EY Go.EX Go.SX Go.RowKit
theorem runD_56_1 (q0 q1 c1a c1b c2a c2b : AV) : okT (g4 c1a c1b (.lit (.int .i64 (.ofNat 56))) c2a c2b (.lit (.int .i64 (.ofNat 1))) [] q0 q1 .nil 1) = true := by kernel_rfl
theorem runD_56_2 (q0 q1 c1a c1b c2a c2b : AV) : okT (g4 c1a c1b (.lit (.int .i64 (.ofNat 56))) c2a c2b (.lit (.int .i64 (.ofNat 2))) [] q0 q1 .nil 1) = true := by kernel_rfl
theorem runD_56_3 (q0 q1 c1a c1b c2a c2b : AV) : okT (g4 c1a c1b (.lit (.int .i64 (.ofNat 56))) c2a c2b (.lit (.int .i64 (.ofNat 3))) [] q0 q1 .nil 1) = true := by kernel_rfl
theorem runD_57_0 (q0 q1 c1a c1b c2a c2b : AV) : okT (g4 c1a c1b (.lit (.int .i64 (.ofNat 57))) c2a c2b (.lit (.int .i64 (.ofNat 0))) [] q0 q1 .nil 1) = true := by kernel_rfl
theorem runD_57_1 (q0 q1 c1a c1b c2a c2b : AV) : okT (g4 c1a c1b (.lit (.int .i64 (.ofNat 57))) c2a c2b (.lit (.int .i64 (.ofNat 1))) [] q0 q1 .nil 1) = true := by kernel_rfl
theorem runD_57_2 (q0 q1 c1a c1b c2a c2b : AV) : okT (g4 c1a c1b (.lit (.int .i64 (.ofNat 57))) c2a c2b (.lit (.int .i64 (.ofNat 2))) [] q0 q1 .nil 1) = true := by kernel_rfl
theorem runD_57_3 (q0 q1 c1a c1b c2a c2b : AV) : okT (g4 c1a c1b (.lit (.int .i64 (.ofNat 57))) c2a c2b (.lit (.int .i64 (.ofNat 3))) [] q0 q1 .nil 1) = true := by kernel_rfl
theorem runD_58_0 (q0 q1 c1a c1b c2a c2b : AV) : okT (g4 c1a c1b (.lit (.int .i64 (.ofNat 58))) c2a c2b (.lit (.int .i64 (.ofNat 0))) [] q0 q1 .nil 1) = true := by kernel_rfl
theorem runD_58_1 (q0 q1 c1a c1b c2a c2b : AV) : okT (g4 c1a c1b (.lit (.int .i64 (.ofNat 58))) c2a c2b (.lit (.int .i64 (.ofNat 1))) [] q0 q1 .nil 1) = true := by kernel_rfl
theorem runD_58_2 (q0 q1 c1a c1b c2a c2b : AV) : okT (g4 c1a c1b (.lit (.int .i64 (.ofNat 58))) c2a c2b (.lit (.int .i64 (.ofNat 2))) [] q0 q1 .nil 1) = true := by kernel_rfl
theorem runD_58_3 (q0 q1 c1a c1b c2a c2b : AV) : okT (g4 c1a c1b (.lit (.int .i64 (.ofNat 58))) c2a c2b (.lit (.int .i64 (.ofNat 3))) [] q0 q1 .nil 1) = true := by kernel_rfl
theorem runD_59_0 (q0 q1 c1a c1b c2a c2b : AV) : okT (g4 c1a c1b (.lit (.int .i64 (.ofNat 59))) c2a c2b (.lit (.int .i64 (.ofNat 0))) [] q0 q1 .nil 1) = true := by kernel_rfl
theorem runD_59_1 (q0 q1 c1a c1b c2a c2b : AV) : okT (g4 c1a c1b (.lit (.int .i64 (.ofNat 59))) c2a c2b (.lit (.int .i64 (.ofNat 1))) [] q0 q1 .nil 1) = true := by kernel_rfl
theorem runD_59_2 (q0 q1 c1a c1b c2a c2b : AV) : okT (g4 c1a c1b (.lit (.int .i64 (.ofNat 59))) c2a c2b (.lit (.int .i64 (.ofNat 2))) [] q0 q1 .nil 1) = true := by kernel_rfl
theorem runD_59_3 (q0 q1 c1a c1b c2a c2b : AV) : okT (g4 c1a c1b (.lit (.int .i64 (.ofNat 59))) c2a c2b (.lit (.int .i64 (.ofNat 3))) [] q0 q1 .nil 1) = true := by kernel_rfl
end Go.Proofs.YtdepmlcnllofiaaGreatDoor.Pd
