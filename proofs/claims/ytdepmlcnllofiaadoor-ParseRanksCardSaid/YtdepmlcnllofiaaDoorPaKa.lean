/-
  Proved here: runs of the statement, each comes to true.
-/
import Derived.Test.YtdepmlcnllofiaaDoorPag
namespace Go.Proofs.YtdepmlcnllofiaaDoor.Pa
open Go.EY Go.EX Go.SX Go.RowKit
theorem runK_0_0 (q0 q1 c1a c1b c2a c2b : AV) : okT (g5 c1a c1b (.lit (.int .i64 (.ofNat 0))) c2a c2b (.lit (.int .i64 (.ofNat 0))) [] q0 q1 .nil 1) = true := by kernel_rfl
theorem runK_0_1 (q0 q1 c1a c1b c2a c2b : AV) : okT (g5 c1a c1b (.lit (.int .i64 (.ofNat 0))) c2a c2b (.lit (.int .i64 (.ofNat 1))) [] q0 q1 .nil 1) = true := by kernel_rfl
theorem runK_0_2 (q0 q1 c1a c1b c2a c2b : AV) : okT (g5 c1a c1b (.lit (.int .i64 (.ofNat 0))) c2a c2b (.lit (.int .i64 (.ofNat 2))) [] q0 q1 .nil 1) = true := by kernel_rfl
theorem runK_0_3 (q0 q1 c1a c1b c2a c2b : AV) : okT (g5 c1a c1b (.lit (.int .i64 (.ofNat 0))) c2a c2b (.lit (.int .i64 (.ofNat 3))) [] q0 q1 .nil 1) = true := by kernel_rfl
theorem runK_0_4 (q0 q1 c1a c1b c2a c2b : AV) : okT (g5 c1a c1b (.lit (.int .i64 (.ofNat 0))) c2a c2b (.lit (.int .i64 (.ofNat 4))) [] q0 q1 .nil 1) = true := by kernel_rfl
theorem runK_0_5 (q0 q1 c1a c1b c2a c2b : AV) : okT (g5 c1a c1b (.lit (.int .i64 (.ofNat 0))) c2a c2b (.lit (.int .i64 (.ofNat 5))) [] q0 q1 .nil 1) = true := by kernel_rfl
theorem runK_0_6 (q0 q1 c1a c1b c2a c2b : AV) : okT (g5 c1a c1b (.lit (.int .i64 (.ofNat 0))) c2a c2b (.lit (.int .i64 (.ofNat 6))) [] q0 q1 .nil 1) = true := by kernel_rfl
theorem runK_0_7 (q0 q1 c1a c1b c2a c2b : AV) : okT (g5 c1a c1b (.lit (.int .i64 (.ofNat 0))) c2a c2b (.lit (.int .i64 (.ofNat 7))) [] q0 q1 .nil 1) = true := by kernel_rfl
theorem runK_1_0 (q0 q1 c1a c1b c2a c2b : AV) : okT (g5 c1a c1b (.lit (.int .i64 (.ofNat 1))) c2a c2b (.lit (.int .i64 (.ofNat 0))) [] q0 q1 .nil 1) = true := by kernel_rfl
theorem runK_1_1 (q0 q1 c1a c1b c2a c2b : AV) : okT (g5 c1a c1b (.lit (.int .i64 (.ofNat 1))) c2a c2b (.lit (.int .i64 (.ofNat 1))) [] q0 q1 .nil 1) = true := by kernel_rfl
theorem runK_1_2 (q0 q1 c1a c1b c2a c2b : AV) : okT (g5 c1a c1b (.lit (.int .i64 (.ofNat 1))) c2a c2b (.lit (.int .i64 (.ofNat 2))) [] q0 q1 .nil 1) = true := by kernel_rfl
theorem runK_1_3 (q0 q1 c1a c1b c2a c2b : AV) : okT (g5 c1a c1b (.lit (.int .i64 (.ofNat 1))) c2a c2b (.lit (.int .i64 (.ofNat 3))) [] q0 q1 .nil 1) = true := by kernel_rfl
theorem runK_1_4 (q0 q1 c1a c1b c2a c2b : AV) : okT (g5 c1a c1b (.lit (.int .i64 (.ofNat 1))) c2a c2b (.lit (.int .i64 (.ofNat 4))) [] q0 q1 .nil 1) = true := by kernel_rfl
theorem runK_1_5 (q0 q1 c1a c1b c2a c2b : AV) : okT (g5 c1a c1b (.lit (.int .i64 (.ofNat 1))) c2a c2b (.lit (.int .i64 (.ofNat 5))) [] q0 q1 .nil 1) = true := by kernel_rfl
theorem runK_1_6 (q0 q1 c1a c1b c2a c2b : AV) : okT (g5 c1a c1b (.lit (.int .i64 (.ofNat 1))) c2a c2b (.lit (.int .i64 (.ofNat 6))) [] q0 q1 .nil 1) = true := by kernel_rfl
theorem runK_1_7 (q0 q1 c1a c1b c2a c2b : AV) : okT (g5 c1a c1b (.lit (.int .i64 (.ofNat 1))) c2a c2b (.lit (.int .i64 (.ofNat 7))) [] q0 q1 .nil 1) = true := by kernel_rfl
end Go.Proofs.YtdepmlcnllofiaaDoor.Pa
