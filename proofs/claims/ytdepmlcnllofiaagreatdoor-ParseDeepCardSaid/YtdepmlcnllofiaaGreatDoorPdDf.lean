/-
  Proved here: runs of the statement, each comes to true.
-/
import Derived.Test.YtdepmlcnllofiaaGreatDoorPde
namespace Go.Proofs.YtdepmlcnllofiaaGreatDoor.Pd
open Go.EY Go.EX Go.SX Go.RowKit
theorem runD_44_0 (q0 q1 c1a c1b c2a c2b : AV) : okT (g4 c1a c1b (.lit (.int .i64 (.ofNat 44))) c2a c2b (.lit (.int .i64 (.ofNat 0))) [] q0 q1 .nil 1) = true := by kernel_rfl
theorem runD_44_1 (q0 q1 c1a c1b c2a c2b : AV) : okT (g4 c1a c1b (.lit (.int .i64 (.ofNat 44))) c2a c2b (.lit (.int .i64 (.ofNat 1))) [] q0 q1 .nil 1) = true := by kernel_rfl
theorem runD_44_2 (q0 q1 c1a c1b c2a c2b : AV) : okT (g4 c1a c1b (.lit (.int .i64 (.ofNat 44))) c2a c2b (.lit (.int .i64 (.ofNat 2))) [] q0 q1 .nil 1) = true := by kernel_rfl
theorem runD_44_3 (q0 q1 c1a c1b c2a c2b : AV) : okT (g4 c1a c1b (.lit (.int .i64 (.ofNat 44))) c2a c2b (.lit (.int .i64 (.ofNat 3))) [] q0 q1 .nil 1) = true := by kernel_rfl
theorem runD_45_0 (q0 q1 c1a c1b c2a c2b : AV) : okT (g4 c1a c1b (.lit (.int .i64 (.ofNat 45))) c2a c2b (.lit (.int .i64 (.ofNat 0))) [] q0 q1 .nil 1) = true := by kernel_rfl
theorem runD_45_1 (q0 q1 c1a c1b c2a c2b : AV) : okT (g4 c1a c1b (.lit (.int .i64 (.ofNat 45))) c2a c2b (.lit (.int .i64 (.ofNat 1))) [] q0 q1 .nil 1) = true := by kernel_rfl
theorem runD_45_2 (q0 q1 c1a c1b c2a c2b : AV) : okT (g4 c1a c1b (.lit (.int .i64 (.ofNat 45))) c2a c2b (.lit (.int .i64 (.ofNat 2))) [] q0 q1 .nil 1) = true := by kernel_rfl
theorem runD_45_3 (q0 q1 c1a c1b c2a c2b : AV) : okT (g4 c1a c1b (.lit (.int .i64 (.ofNat 45))) c2a c2b (.lit (.int .i64 (.ofNat 3))) [] q0 q1 .nil 1) = true := by kernel_rfl
theorem runD_46_0 (q0 q1 c1a c1b c2a c2b : AV) : okT (g4 c1a c1b (.lit (.int .i64 (.ofNat 46))) c2a c2b (.lit (.int .i64 (.ofNat 0))) [] q0 q1 .nil 1) = true := by kernel_rfl
theorem runD_46_1 (q0 q1 c1a c1b c2a c2b : AV) : okT (g4 c1a c1b (.lit (.int .i64 (.ofNat 46))) c2a c2b (.lit (.int .i64 (.ofNat 1))) [] q0 q1 .nil 1) = true := by kernel_rfl
theorem runD_46_2 (q0 q1 c1a c1b c2a c2b : AV) : okT (g4 c1a c1b (.lit (.int .i64 (.ofNat 46))) c2a c2b (.lit (.int .i64 (.ofNat 2))) [] q0 q1 .nil 1) = true := by kernel_rfl
theorem runD_46_3 (q0 q1 c1a c1b c2a c2b : AV) : okT (g4 c1a c1b (.lit (.int .i64 (.ofNat 46))) c2a c2b (.lit (.int .i64 (.ofNat 3))) [] q0 q1 .nil 1) = true := by kernel_rfl
theorem runD_47_0 (q0 q1 c1a c1b c2a c2b : AV) : okT (g4 c1a c1b (.lit (.int .i64 (.ofNat 47))) c2a c2b (.lit (.int .i64 (.ofNat 0))) [] q0 q1 .nil 1) = true := by kernel_rfl
theorem runD_47_1 (q0 q1 c1a c1b c2a c2b : AV) : okT (g4 c1a c1b (.lit (.int .i64 (.ofNat 47))) c2a c2b (.lit (.int .i64 (.ofNat 1))) [] q0 q1 .nil 1) = true := by kernel_rfl
theorem runD_47_2 (q0 q1 c1a c1b c2a c2b : AV) : okT (g4 c1a c1b (.lit (.int .i64 (.ofNat 47))) c2a c2b (.lit (.int .i64 (.ofNat 2))) [] q0 q1 .nil 1) = true := by kernel_rfl
theorem runD_47_3 (q0 q1 c1a c1b c2a c2b : AV) : okT (g4 c1a c1b (.lit (.int .i64 (.ofNat 47))) c2a c2b (.lit (.int .i64 (.ofNat 3))) [] q0 q1 .nil 1) = true := by kernel_rfl
theorem runD_48_0 (q0 q1 c1a c1b c2a c2b : AV) : okT (g4 c1a c1b (.lit (.int .i64 (.ofNat 48))) c2a c2b (.lit (.int .i64 (.ofNat 0))) [] q0 q1 .nil 1) = true := by kernel_rfl
theorem runD_48_1 (q0 q1 c1a c1b c2a c2b : AV) : okT (g4 c1a c1b (.lit (.int .i64 (.ofNat 48))) c2a c2b (.lit (.int .i64 (.ofNat 1))) [] q0 q1 .nil 1) = true := by kernel_rfl
theorem runD_48_2 (q0 q1 c1a c1b c2a c2b : AV) : okT (g4 c1a c1b (.lit (.int .i64 (.ofNat 48))) c2a c2b (.lit (.int .i64 (.ofNat 2))) [] q0 q1 .nil 1) = true := by kernel_rfl
end Go.Proofs.YtdepmlcnllofiaaGreatDoor.Pd
