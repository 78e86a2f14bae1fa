/-
  Proved here: runs of the statement, each comes to true.
-/
import Derived.Test.YtdepmlcnllofiaaDoorPag
namespace Go.Proofs.YtdepmlcnllofiaaDoor.Pa
open Go.EY Go.EX Go.SX Go.RowKit
theorem runK_4_0 (q0 q1 c1a c1b c2a c2b : AV) : okT (g5 c1a c1b (.lit (.int .i64 (.ofNat 4))) c2a c2b (.lit (.int .i64 (.ofNat 0))) [] q0 q1 .nil 1) = true := by kernel_rfl
theorem runK_4_1 (q0 q1 c1a c1b c2a c2b : AV) : okT (g5 c1a c1b (.lit (.int .i64 (.ofNat 4))) c2a c2b (.lit (.int .i64 (.ofNat 1))) [] q0 q1 .nil 1) = true := by kernel_rfl
theorem runK_4_2 (q0 q1 c1a c1b c2a c2b : AV) : okT (g5 c1a c1b (.lit (.int .i64 (.ofNat 4))) c2a c2b (.lit (.int .i64 (.ofNat 2))) [] q0 q1 .nil 1) = true := by kernel_rfl
theorem runK_4_3 (q0 q1 c1a c1b c2a c2b : AV) : okT (g5 c1a c1b (.lit (.int .i64 (.ofNat 4))) c2a c2b (.lit (.int .i64 (.ofNat 3))) [] q0 q1 .nil 1) = true := by kernel_rfl
theorem runK_4_4 (q0 q1 c1a c1b c2a c2b : AV) : okT (g5 c1a c1b (.lit (.int .i64 (.ofNat 4))) c2a c2b (.lit (.int .i64 (.ofNat 4))) [] q0 q1 .nil 1) = true := by kernel_rfl
theorem runK_4_5 (q0 q1 c1a c1b c2a c2b : AV) : okT (g5 c1a c1b (.lit (.int .i64 (.ofNat 4))) c2a c2b (.lit (.int .i64 (.ofNat 5))) [] q0 q1 .nil 1) = true := by kernel_rfl
theorem runK_4_6 (q0 q1 c1a c1b c2a c2b : AV) : okT (g5 c1a c1b (.lit (.int .i64 (.ofNat 4))) c2a c2b (.lit (.int .i64 (.ofNat 6))) [] q0 q1 .nil 1) = true := by kernel_rfl
theorem runK_4_7 (q0 q1 c1a c1b c2a c2b : AV) : okT (g5 c1a c1b (.lit (.int .i64 (.ofNat 4))) c2a c2b (.lit (.int .i64 (.ofNat 7))) [] q0 q1 .nil 1) = true := by kernel_rfl
theorem runK_5_0 (q0 q1 c1a c1b c2a c2b : AV) : okT (g5 c1a c1b (.lit (.int .i64 (.ofNat 5))) c2a c2b (.lit (.int .i64 (.ofNat 0))) [] q0 q1 .nil 1) = true := by kernel_rfl
theorem runK_5_1 (q0 q1 c1a c1b c2a c2b : AV) : okT (g5 c1a c1b (.lit (.int .i64 (.ofNat 5))) c2a c2b (.lit (.int .i64 (.ofNat 1))) [] q0 q1 .nil 1) = true := by kernel_rfl
theorem runK_5_2 (q0 q1 c1a c1b c2a c2b : AV) : okT (g5 c1a c1b (.lit (.int .i64 (.ofNat 5))) c2a c2b (.lit (.int .i64 (.ofNat 2))) [] q0 q1 .nil 1) = true := by kernel_rfl
theorem runK_5_3 (q0 q1 c1a c1b c2a c2b : AV) : okT (g5 c1a c1b (.lit (.int .i64 (.ofNat 5))) c2a c2b (.lit (.int .i64 (.ofNat 3))) [] q0 q1 .nil 1) = true := by kernel_rfl
theorem runK_5_4 (q0 q1 c1a c1b c2a c2b : AV) : okT (g5 c1a c1b (.lit (.int .i64 (.ofNat 5))) c2a c2b (.lit (.int .i64 (.ofNat 4))) [] q0 q1 .nil 1) = true := by kernel_rfl
theorem runK_5_5 (q0 q1 c1a c1b c2a c2b : AV) : okT (g5 c1a c1b (.lit (.int .i64 (.ofNat 5))) c2a c2b (.lit (.int .i64 (.ofNat 5))) [] q0 q1 .nil 1) = true := by kernel_rfl
theorem runK_5_6 (q0 q1 c1a c1b c2a c2b : AV) : okT (g5 c1a c1b (.lit (.int .i64 (.ofNat 5))) c2a c2b (.lit (.int .i64 (.ofNat 6))) [] q0 q1 .nil 1) = true := by kernel_rfl
theorem runK_5_7 (q0 q1 c1a c1b c2a c2b : AV) : okT (g5 c1a c1b (.lit (.int .i64 (.ofNat 5))) c2a c2b (.lit (.int .i64 (.ofNat 7))) [] q0 q1 .nil 1) = true := by kernel_rfl
end Go.Proofs.YtdepmlcnllofiaaDoor.Pa
