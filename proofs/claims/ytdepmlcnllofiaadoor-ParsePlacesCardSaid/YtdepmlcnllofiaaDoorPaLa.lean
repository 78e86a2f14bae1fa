/-
  Proved here: runs of the statement, each comes to true.
-/
import Derived.Test.YtdepmlcnllofiaaDoorPag
namespace Go.Proofs.YtdepmlcnllofiaaDoor.Pa
open Go.EY Go.EX Go.SX Go.RowKit
theorem runL_0_0 (q0 q1 c1a c1b c2a c2b : AV) : okT (g4 c1a c1b (.lit (.int .i64 (.ofNat 0))) c2a c2b (.lit (.int .i64 (.ofNat 0))) [] q0 q1 .nil 1) = true := by kernel_rfl
theorem runL_0_1 (q0 q1 c1a c1b c2a c2b : AV) : okT (g4 c1a c1b (.lit (.int .i64 (.ofNat 0))) c2a c2b (.lit (.int .i64 (.ofNat 1))) [] q0 q1 .nil 1) = true := by kernel_rfl
theorem runL_0_2 (q0 q1 c1a c1b c2a c2b : AV) : okT (g4 c1a c1b (.lit (.int .i64 (.ofNat 0))) c2a c2b (.lit (.int .i64 (.ofNat 2))) [] q0 q1 .nil 1) = true := by kernel_rfl
theorem runL_0_3 (q0 q1 c1a c1b c2a c2b : AV) : okT (g4 c1a c1b (.lit (.int .i64 (.ofNat 0))) c2a c2b (.lit (.int .i64 (.ofNat 3))) [] q0 q1 .nil 1) = true := by kernel_rfl
theorem runL_0_4 (q0 q1 c1a c1b c2a c2b : AV) : okT (g4 c1a c1b (.lit (.int .i64 (.ofNat 0))) c2a c2b (.lit (.int .i64 (.ofNat 4))) [] q0 q1 .nil 1) = true := by kernel_rfl
theorem runL_0_5 (q0 q1 c1a c1b c2a c2b : AV) : okT (g4 c1a c1b (.lit (.int .i64 (.ofNat 0))) c2a c2b (.lit (.int .i64 (.ofNat 5))) [] q0 q1 .nil 1) = true := by kernel_rfl
theorem runL_0_6 (q0 q1 c1a c1b c2a c2b : AV) : okT (g4 c1a c1b (.lit (.int .i64 (.ofNat 0))) c2a c2b (.lit (.int .i64 (.ofNat 6))) [] q0 q1 .nil 1) = true := by kernel_rfl
theorem runL_0_7 (q0 q1 c1a c1b c2a c2b : AV) : okT (g4 c1a c1b (.lit (.int .i64 (.ofNat 0))) c2a c2b (.lit (.int .i64 (.ofNat 7))) [] q0 q1 .nil 1) = true := by kernel_rfl
theorem runL_1_0 (q0 q1 c1a c1b c2a c2b : AV) : okT (g4 c1a c1b (.lit (.int .i64 (.ofNat 1))) c2a c2b (.lit (.int .i64 (.ofNat 0))) [] q0 q1 .nil 1) = true := by kernel_rfl
theorem runL_1_1 (q0 q1 c1a c1b c2a c2b : AV) : okT (g4 c1a c1b (.lit (.int .i64 (.ofNat 1))) c2a c2b (.lit (.int .i64 (.ofNat 1))) [] q0 q1 .nil 1) = true := by kernel_rfl
theorem runL_1_2 (q0 q1 c1a c1b c2a c2b : AV) : okT (g4 c1a c1b (.lit (.int .i64 (.ofNat 1))) c2a c2b (.lit (.int .i64 (.ofNat 2))) [] q0 q1 .nil 1) = true := by kernel_rfl
theorem runL_1_3 (q0 q1 c1a c1b c2a c2b : AV) : okT (g4 c1a c1b (.lit (.int .i64 (.ofNat 1))) c2a c2b (.lit (.int .i64 (.ofNat 3))) [] q0 q1 .nil 1) = true := by kernel_rfl
theorem runL_1_4 (q0 q1 c1a c1b c2a c2b : AV) : okT (g4 c1a c1b (.lit (.int .i64 (.ofNat 1))) c2a c2b (.lit (.int .i64 (.ofNat 4))) [] q0 q1 .nil 1) = true := by kernel_rfl
theorem runL_1_5 (q0 q1 c1a c1b c2a c2b : AV) : okT (g4 c1a c1b (.lit (.int .i64 (.ofNat 1))) c2a c2b (.lit (.int .i64 (.ofNat 5))) [] q0 q1 .nil 1) = true := by kernel_rfl
theorem runL_1_6 (q0 q1 c1a c1b c2a c2b : AV) : okT (g4 c1a c1b (.lit (.int .i64 (.ofNat 1))) c2a c2b (.lit (.int .i64 (.ofNat 6))) [] q0 q1 .nil 1) = true := by kernel_rfl
theorem runL_1_7 (q0 q1 c1a c1b c2a c2b : AV) : okT (g4 c1a c1b (.lit (.int .i64 (.ofNat 1))) c2a c2b (.lit (.int .i64 (.ofNat 7))) [] q0 q1 .nil 1) = true := by kernel_rfl
theorem runL_2_0 (q0 q1 c1a c1b c2a c2b : AV) : okT (g4 c1a c1b (.lit (.int .i64 (.ofNat 2))) c2a c2b (.lit (.int .i64 (.ofNat 0))) [] q0 q1 .nil 1) = true := by kernel_rfl
theorem runL_2_1 (q0 q1 c1a c1b c2a c2b : AV) : okT (g4 c1a c1b (.lit (.int .i64 (.ofNat 2))) c2a c2b (.lit (.int .i64 (.ofNat 1))) [] q0 q1 .nil 1) = true := by kernel_rfl
theorem runL_2_2 (q0 q1 c1a c1b c2a c2b : AV) : okT (g4 c1a c1b (.lit (.int .i64 (.ofNat 2))) c2a c2b (.lit (.int .i64 (.ofNat 2))) [] q0 q1 .nil 1) = true := by kernel_rfl
theorem runL_2_3 (q0 q1 c1a c1b c2a c2b : AV) : okT (g4 c1a c1b (.lit (.int .i64 (.ofNat 2))) c2a c2b (.lit (.int .i64 (.ofNat 3))) [] q0 q1 .nil 1) = true := by kernel_rfl
theorem runL_2_4 (q0 q1 c1a c1b c2a c2b : AV) : okT (g4 c1a c1b (.lit (.int .i64 (.ofNat 2))) c2a c2b (.lit (.int .i64 (.ofNat 4))) [] q0 q1 .nil 1) = true := by kernel_rfl
theorem runL_2_5 (q0 q1 c1a c1b c2a c2b : AV) : okT (g4 c1a c1b (.lit (.int .i64 (.ofNat 2))) c2a c2b (.lit (.int .i64 (.ofNat 5))) [] q0 q1 .nil 1) = true := by kernel_rfl
theorem runL_2_6 (q0 q1 c1a c1b c2a c2b : AV) : okT (g4 c1a c1b (.lit (.int .i64 (.ofNat 2))) c2a c2b (.lit (.int .i64 (.ofNat 6))) [] q0 q1 .nil 1) = true := by kernel_rfl
theorem runL_2_7 (q0 q1 c1a c1b c2a c2b : AV) : okT (g4 c1a c1b (.lit (.int .i64 (.ofNat 2))) c2a c2b (.lit (.int .i64 (.ofNat 7))) [] q0 q1 .nil 1) = true := by kernel_rfl
theorem runL_3_0 (q0 q1 c1a c1b c2a c2b : AV) : okT (g4 c1a c1b (.lit (.int .i64 (.ofNat 3))) c2a c2b (.lit (.int .i64 (.ofNat 0))) [] q0 q1 .nil 1) = true := by kernel_rfl
theorem runL_3_1 (q0 q1 c1a c1b c2a c2b : AV) : okT (g4 c1a c1b (.lit (.int .i64 (.ofNat 3))) c2a c2b (.lit (.int .i64 (.ofNat 1))) [] q0 q1 .nil 1) = true := by kernel_rfl
theorem runL_3_2 (q0 q1 c1a c1b c2a c2b : AV) : okT (g4 c1a c1b (.lit (.int .i64 (.ofNat 3))) c2a c2b (.lit (.int .i64 (.ofNat 2))) [] q0 q1 .nil 1) = true := by kernel_rfl
theorem runL_3_3 (q0 q1 c1a c1b c2a c2b : AV) : okT (g4 c1a c1b (.lit (.int .i64 (.ofNat 3))) c2a c2b (.lit (.int .i64 (.ofNat 3))) [] q0 q1 .nil 1) = true := by kernel_rfl
theorem runL_3_4 (q0 q1 c1a c1b c2a c2b : AV) : okT (g4 c1a c1b (.lit (.int .i64 (.ofNat 3))) c2a c2b (.lit (.int .i64 (.ofNat 4))) [] q0 q1 .nil 1) = true := by kernel_rfl
theorem runL_3_5 (q0 q1 c1a c1b c2a c2b : AV) : okT (g4 c1a c1b (.lit (.int .i64 (.ofNat 3))) c2a c2b (.lit (.int .i64 (.ofNat 5))) [] q0 q1 .nil 1) = true := by kernel_rfl
theorem runL_3_6 (q0 q1 c1a c1b c2a c2b : AV) : okT (g4 c1a c1b (.lit (.int .i64 (.ofNat 3))) c2a c2b (.lit (.int .i64 (.ofNat 6))) [] q0 q1 .nil 1) = true := by kernel_rfl
theorem runL_3_7 (q0 q1 c1a c1b c2a c2b : AV) : okT (g4 c1a c1b (.lit (.int .i64 (.ofNat 3))) c2a c2b (.lit (.int .i64 (.ofNat 7))) [] q0 q1 .nil 1) = true := by kernel_rfl
theorem runL_4_0 (q0 q1 c1a c1b c2a c2b : AV) : okT (g4 c1a c1b (.lit (.int .i64 (.ofNat 4))) c2a c2b (.lit (.int .i64 (.ofNat 0))) [] q0 q1 .nil 1) = true := by kernel_rfl
theorem runL_4_1 (q0 q1 c1a c1b c2a c2b : AV) : okT (g4 c1a c1b (.lit (.int .i64 (.ofNat 4))) c2a c2b (.lit (.int .i64 (.ofNat 1))) [] q0 q1 .nil 1) = true := by kernel_rfl
theorem runL_4_2 (q0 q1 c1a c1b c2a c2b : AV) : okT (g4 c1a c1b (.lit (.int .i64 (.ofNat 4))) c2a c2b (.lit (.int .i64 (.ofNat 2))) [] q0 q1 .nil 1) = true := by kernel_rfl
theorem runL_4_3 (q0 q1 c1a c1b c2a c2b : AV) : okT (g4 c1a c1b (.lit (.int .i64 (.ofNat 4))) c2a c2b (.lit (.int .i64 (.ofNat 3))) [] q0 q1 .nil 1) = true := by kernel_rfl
theorem runL_4_4 (q0 q1 c1a c1b c2a c2b : AV) : okT (g4 c1a c1b (.lit (.int .i64 (.ofNat 4))) c2a c2b (.lit (.int .i64 (.ofNat 4))) [] q0 q1 .nil 1) = true := by kernel_rfl
theorem runL_4_5 (q0 q1 c1a c1b c2a c2b : AV) : okT (g4 c1a c1b (.lit (.int .i64 (.ofNat 4))) c2a c2b (.lit (.int .i64 (.ofNat 5))) [] q0 q1 .nil 1) = true := by kernel_rfl
theorem runL_4_6 (q0 q1 c1a c1b c2a c2b : AV) : okT (g4 c1a c1b (.lit (.int .i64 (.ofNat 4))) c2a c2b (.lit (.int .i64 (.ofNat 6))) [] q0 q1 .nil 1) = true := by kernel_rfl
theorem runL_4_7 (q0 q1 c1a c1b c2a c2b : AV) : okT (g4 c1a c1b (.lit (.int .i64 (.ofNat 4))) c2a c2b (.lit (.int .i64 (.ofNat 7))) [] q0 q1 .nil 1) = true := by kernel_rfl
theorem runL_5_0 (q0 q1 c1a c1b c2a c2b : AV) : okT (g4 c1a c1b (.lit (.int .i64 (.ofNat 5))) c2a c2b (.lit (.int .i64 (.ofNat 0))) [] q0 q1 .nil 1) = true := by kernel_rfl
theorem runL_5_1 (q0 q1 c1a c1b c2a c2b : AV) : okT (g4 c1a c1b (.lit (.int .i64 (.ofNat 5))) c2a c2b (.lit (.int .i64 (.ofNat 1))) [] q0 q1 .nil 1) = true := by kernel_rfl
theorem runL_5_2 (q0 q1 c1a c1b c2a c2b : AV) : okT (g4 c1a c1b (.lit (.int .i64 (.ofNat 5))) c2a c2b (.lit (.int .i64 (.ofNat 2))) [] q0 q1 .nil 1) = true := by kernel_rfl
theorem runL_5_3 (q0 q1 c1a c1b c2a c2b : AV) : okT (g4 c1a c1b (.lit (.int .i64 (.ofNat 5))) c2a c2b (.lit (.int .i64 (.ofNat 3))) [] q0 q1 .nil 1) = true := by kernel_rfl
theorem runL_5_4 (q0 q1 c1a c1b c2a c2b : AV) : okT (g4 c1a c1b (.lit (.int .i64 (.ofNat 5))) c2a c2b (.lit (.int .i64 (.ofNat 4))) [] q0 q1 .nil 1) = true := by kernel_rfl
theorem runL_5_5 (q0 q1 c1a c1b c2a c2b : AV) : okT (g4 c1a c1b (.lit (.int .i64 (.ofNat 5))) c2a c2b (.lit (.int .i64 (.ofNat 5))) [] q0 q1 .nil 1) = true := by kernel_rfl
theorem runL_5_6 (q0 q1 c1a c1b c2a c2b : AV) : okT (g4 c1a c1b (.lit (.int .i64 (.ofNat 5))) c2a c2b (.lit (.int .i64 (.ofNat 6))) [] q0 q1 .nil 1) = true := by kernel_rfl
theorem runL_5_7 (q0 q1 c1a c1b c2a c2b : AV) : okT (g4 c1a c1b (.lit (.int .i64 (.ofNat 5))) c2a c2b (.lit (.int .i64 (.ofNat 7))) [] q0 q1 .nil 1) = true := by kernel_rfl
theorem runL_6_0 (q0 q1 c1a c1b c2a c2b : AV) : okT (g4 c1a c1b (.lit (.int .i64 (.ofNat 6))) c2a c2b (.lit (.int .i64 (.ofNat 0))) [] q0 q1 .nil 1) = true := by kernel_rfl
theorem runL_6_1 (q0 q1 c1a c1b c2a c2b : AV) : okT (g4 c1a c1b (.lit (.int .i64 (.ofNat 6))) c2a c2b (.lit (.int .i64 (.ofNat 1))) [] q0 q1 .nil 1) = true := by kernel_rfl
theorem runL_6_2 (q0 q1 c1a c1b c2a c2b : AV) : okT (g4 c1a c1b (.lit (.int .i64 (.ofNat 6))) c2a c2b (.lit (.int .i64 (.ofNat 2))) [] q0 q1 .nil 1) = true := by kernel_rfl
theorem runL_6_3 (q0 q1 c1a c1b c2a c2b : AV) : okT (g4 c1a c1b (.lit (.int .i64 (.ofNat 6))) c2a c2b (.lit (.int .i64 (.ofNat 3))) [] q0 q1 .nil 1) = true := by kernel_rfl
theorem runL_6_4 (q0 q1 c1a c1b c2a c2b : AV) : okT (g4 c1a c1b (.lit (.int .i64 (.ofNat 6))) c2a c2b (.lit (.int .i64 (.ofNat 4))) [] q0 q1 .nil 1) = true := by kernel_rfl
theorem runL_6_5 (q0 q1 c1a c1b c2a c2b : AV) : okT (g4 c1a c1b (.lit (.int .i64 (.ofNat 6))) c2a c2b (.lit (.int .i64 (.ofNat 5))) [] q0 q1 .nil 1) = true := by kernel_rfl
theorem runL_6_6 (q0 q1 c1a c1b c2a c2b : AV) : okT (g4 c1a c1b (.lit (.int .i64 (.ofNat 6))) c2a c2b (.lit (.int .i64 (.ofNat 6))) [] q0 q1 .nil 1) = true := by kernel_rfl
theorem runL_6_7 (q0 q1 c1a c1b c2a c2b : AV) : okT (g4 c1a c1b (.lit (.int .i64 (.ofNat 6))) c2a c2b (.lit (.int .i64 (.ofNat 7))) [] q0 q1 .nil 1) = true := by kernel_rfl
theorem runL_7_0 (q0 q1 c1a c1b c2a c2b : AV) : okT (g4 c1a c1b (.lit (.int .i64 (.ofNat 7))) c2a c2b (.lit (.int .i64 (.ofNat 0))) [] q0 q1 .nil 1) = true := by kernel_rfl
theorem runL_7_1 (q0 q1 c1a c1b c2a c2b : AV) : okT (g4 c1a c1b (.lit (.int .i64 (.ofNat 7))) c2a c2b (.lit (.int .i64 (.ofNat 1))) [] q0 q1 .nil 1) = true := by kernel_rfl
theorem runL_7_2 (q0 q1 c1a c1b c2a c2b : AV) : okT (g4 c1a c1b (.lit (.int .i64 (.ofNat 7))) c2a c2b (.lit (.int .i64 (.ofNat 2))) [] q0 q1 .nil 1) = true := by kernel_rfl
theorem runL_7_3 (q0 q1 c1a c1b c2a c2b : AV) : okT (g4 c1a c1b (.lit (.int .i64 (.ofNat 7))) c2a c2b (.lit (.int .i64 (.ofNat 3))) [] q0 q1 .nil 1) = true := by kernel_rfl
theorem runL_7_4 (q0 q1 c1a c1b c2a c2b : AV) : okT (g4 c1a c1b (.lit (.int .i64 (.ofNat 7))) c2a c2b (.lit (.int .i64 (.ofNat 4))) [] q0 q1 .nil 1) = true := by kernel_rfl
theorem runL_7_5 (q0 q1 c1a c1b c2a c2b : AV) : okT (g4 c1a c1b (.lit (.int .i64 (.ofNat 7))) c2a c2b (.lit (.int .i64 (.ofNat 5))) [] q0 q1 .nil 1) = true := by kernel_rfl
theorem runL_7_6 (q0 q1 c1a c1b c2a c2b : AV) : okT (g4 c1a c1b (.lit (.int .i64 (.ofNat 7))) c2a c2b (.lit (.int .i64 (.ofNat 6))) [] q0 q1 .nil 1) = true := by kernel_rfl
theorem runL_7_7 (q0 q1 c1a c1b c2a c2b : AV) : okT (g4 c1a c1b (.lit (.int .i64 (.ofNat 7))) c2a c2b (.lit (.int .i64 (.ofNat 7))) [] q0 q1 .nil 1) = true := by kernel_rfl
end Go.Proofs.YtdepmlcnllofiaaDoor.Pa
