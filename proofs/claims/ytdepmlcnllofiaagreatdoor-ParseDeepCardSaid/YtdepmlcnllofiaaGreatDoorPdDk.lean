/-
  Proved here: runs of the statement, each comes to true.
-/
import Derived.Test.YtdepmlcnllofiaaGreatDoorPde
namespace Go.Proofs.YtdepmlcnllofiaaGreatDoor.Pd
open Go.EY Go.EX Go.SX Go.RowKit
theorem runD_63_3 (q0 q1 c1a c1b c2a c2b : AV) : okT (g4 c1a c1b (.lit (.int .i64 (.ofNat 63))) c2a c2b (.lit (.int .i64 (.ofNat 3))) [] q0 q1 .nil 1) = true := by kernel_rfl
theorem runD_64_0 (q0 q1 c1a c1b c2a c2b : AV) : okT (g4 c1a c1b (.lit (.int .i64 (.ofNat 64))) c2a c2b (.lit (.int .i64 (.ofNat 0))) [] q0 q1 .nil 1) = true := by kernel_rfl
theorem runD_64_1 (q0 q1 c1a c1b c2a c2b : AV) : okT (g4 c1a c1b (.lit (.int .i64 (.ofNat 64))) c2a c2b (.lit (.int .i64 (.ofNat 1))) [] q0 q1 .nil 1) = true := by kernel_rfl
theorem runD_64_2 (q0 q1 c1a c1b c2a c2b : AV) : okT (g4 c1a c1b (.lit (.int .i64 (.ofNat 64))) c2a c2b (.lit (.int .i64 (.ofNat 2))) [] q0 q1 .nil 1) = true := by kernel_rfl
theorem runD_64_3 (q0 q1 c1a c1b c2a c2b : AV) : okT (g4 c1a c1b (.lit (.int .i64 (.ofNat 64))) c2a c2b (.lit (.int .i64 (.ofNat 3))) [] q0 q1 .nil 1) = true := by kernel_rfl
theorem runD_65_0 (q0 q1 c1a c1b c2a c2b : AV) : okT (g4 c1a c1b (.lit (.int .i64 (.ofNat 65))) c2a c2b (.lit (.int .i64 (.ofNat 0))) [] q0 q1 .nil 1) = true := by kernel_rfl
theorem runD_65_1 (q0 q1 c1a c1b c2a c2b : AV) : okT (g4 c1a c1b (.lit (.int .i64 (.ofNat 65))) c2a c2b (.lit (.int .i64 (.ofNat 1))) [] q0 q1 .nil 1) = true := by kernel_rfl
theorem runD_65_2 (q0 q1 c1a c1b c2a c2b : AV) : okT (g4 c1a c1b (.lit (.int .i64 (.ofNat 65))) c2a c2b (.lit (.int .i64 (.ofNat 2))) [] q0 q1 .nil 1) = true := by kernel_rfl
theorem runD_65_3 (q0 q1 c1a c1b c2a c2b : AV) : okT (g4 c1a c1b (.lit (.int .i64 (.ofNat 65))) c2a c2b (.lit (.int .i64 (.ofNat 3))) [] q0 q1 .nil 1) = true := by kernel_rfl
theorem runD_66_0 (q0 q1 c1a c1b c2a c2b : AV) : okT (g4 c1a c1b (.lit (.int .i64 (.ofNat 66))) c2a c2b (.lit (.int .i64 (.ofNat 0))) [] q0 q1 .nil 1) = true := by kernel_rfl
theorem runD_66_1 (q0 q1 c1a c1b c2a c2b : AV) : okT (g4 c1a c1b (.lit (.int .i64 (.ofNat 66))) c2a c2b (.lit (.int .i64 (.ofNat 1))) [] q0 q1 .nil 1) = true := by kernel_rfl
theorem runD_66_2 (q0 q1 c1a c1b c2a c2b : AV) : okT (g4 c1a c1b (.lit (.int .i64 (.ofNat 66))) c2a c2b (.lit (.int .i64 (.ofNat 2))) [] q0 q1 .nil 1) = true := by kernel_rfl
theorem runD_66_3 (q0 q1 c1a c1b c2a c2b : AV) : okT (g4 c1a c1b (.lit (.int .i64 (.ofNat 66))) c2a c2b (.lit (.int .i64 (.ofNat 3))) [] q0 q1 .nil 1) = true := by kernel_rfl
end Go.Proofs.YtdepmlcnllofiaaGreatDoor.Pd
