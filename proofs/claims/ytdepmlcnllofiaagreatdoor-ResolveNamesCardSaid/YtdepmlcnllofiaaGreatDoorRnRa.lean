/-
  Proved here: runs of the statement, each comes to true.
-/
import Derived.Test.YtdepmlcnllofiaaGreatDoorRni
namespace Go.Proofs.YtdepmlcnllofiaaGreatDoor.Rn
open Go.EY Go.EX Go.SX Go.RowKit
theorem run_0_0_f (q0 q1 : AV) : okT (g7 (.lit (.int .i64 (.ofNat 0))) (20) (.lit (.int .i64 (.ofNat 0))) (0+1) [] q0 q1 (.lit (.bool false)) .nil 1) = true := by kernel_rfl
theorem run_0_0_t (q0 q1 : AV) : okT (g7 (.lit (.int .i64 (.ofNat 0))) (20) (.lit (.int .i64 (.ofNat 0))) (0+1) [] q0 q1 (.lit (.bool true)) .nil 1) = true := by kernel_rfl
theorem run_1_0_f (q0 q1 : AV) : okT (g7 (.lit (.int .i64 (.ofNat 1))) (20) (.lit (.int .i64 (.ofNat 0))) (1+1) [] q0 q1 (.lit (.bool false)) .nil 1) = true := by kernel_rfl
theorem run_1_0_t (q0 q1 : AV) : okT (g7 (.lit (.int .i64 (.ofNat 1))) (20) (.lit (.int .i64 (.ofNat 0))) (1+1) [] q0 q1 (.lit (.bool true)) .nil 1) = true := by kernel_rfl
theorem run_1_1_f (q0 q1 : AV) : okT (g7 (.lit (.int .i64 (.ofNat 1))) (20) (.lit (.int .i64 (.ofNat 1))) (1+1) [] q0 q1 (.lit (.bool false)) .nil 1) = true := by kernel_rfl
theorem run_1_1_t (q0 q1 : AV) : okT (g7 (.lit (.int .i64 (.ofNat 1))) (20) (.lit (.int .i64 (.ofNat 1))) (1+1) [] q0 q1 (.lit (.bool true)) .nil 1) = true := by kernel_rfl
theorem run_2_0_f (q0 q1 : AV) : okT (g7 (.lit (.int .i64 (.ofNat 2))) (20) (.lit (.int .i64 (.ofNat 0))) (2+1) [] q0 q1 (.lit (.bool false)) .nil 1) = true := by kernel_rfl
theorem run_2_0_t (q0 q1 : AV) : okT (g7 (.lit (.int .i64 (.ofNat 2))) (20) (.lit (.int .i64 (.ofNat 0))) (2+1) [] q0 q1 (.lit (.bool true)) .nil 1) = true := by kernel_rfl
theorem run_2_1_f (q0 q1 : AV) : okT (g7 (.lit (.int .i64 (.ofNat 2))) (20) (.lit (.int .i64 (.ofNat 1))) (2+1) [] q0 q1 (.lit (.bool false)) .nil 1) = true := by kernel_rfl
theorem run_2_1_t (q0 q1 : AV) : okT (g7 (.lit (.int .i64 (.ofNat 2))) (20) (.lit (.int .i64 (.ofNat 1))) (2+1) [] q0 q1 (.lit (.bool true)) .nil 1) = true := by kernel_rfl
theorem run_2_2_f (q0 q1 : AV) : okT (g7 (.lit (.int .i64 (.ofNat 2))) (20) (.lit (.int .i64 (.ofNat 2))) (2+1) [] q0 q1 (.lit (.bool false)) .nil 1) = true := by kernel_rfl
theorem run_2_2_t (q0 q1 : AV) : okT (g7 (.lit (.int .i64 (.ofNat 2))) (20) (.lit (.int .i64 (.ofNat 2))) (2+1) [] q0 q1 (.lit (.bool true)) .nil 1) = true := by kernel_rfl
theorem run_3_0_f (q0 q1 : AV) : okT (g7 (.lit (.int .i64 (.ofNat 3))) (20) (.lit (.int .i64 (.ofNat 0))) (3+1) [] q0 q1 (.lit (.bool false)) .nil 1) = true := by kernel_rfl
theorem run_3_0_t (q0 q1 : AV) : okT (g7 (.lit (.int .i64 (.ofNat 3))) (20) (.lit (.int .i64 (.ofNat 0))) (3+1) [] q0 q1 (.lit (.bool true)) .nil 1) = true := by kernel_rfl
theorem run_3_1_f (q0 q1 : AV) : okT (g7 (.lit (.int .i64 (.ofNat 3))) (20) (.lit (.int .i64 (.ofNat 1))) (3+1) [] q0 q1 (.lit (.bool false)) .nil 1) = true := by kernel_rfl
theorem run_3_1_t (q0 q1 : AV) : okT (g7 (.lit (.int .i64 (.ofNat 3))) (20) (.lit (.int .i64 (.ofNat 1))) (3+1) [] q0 q1 (.lit (.bool true)) .nil 1) = true := by kernel_rfl
theorem run_3_2_f (q0 q1 : AV) : okT (g7 (.lit (.int .i64 (.ofNat 3))) (20) (.lit (.int .i64 (.ofNat 2))) (3+1) [] q0 q1 (.lit (.bool false)) .nil 1) = true := by kernel_rfl
theorem run_3_2_t (q0 q1 : AV) : okT (g7 (.lit (.int .i64 (.ofNat 3))) (20) (.lit (.int .i64 (.ofNat 2))) (3+1) [] q0 q1 (.lit (.bool true)) .nil 1) = true := by kernel_rfl
theorem run_3_3_f (q0 q1 : AV) : okT (g7 (.lit (.int .i64 (.ofNat 3))) (20) (.lit (.int .i64 (.ofNat 3))) (3+1) [] q0 q1 (.lit (.bool false)) .nil 1) = true := by kernel_rfl
theorem run_3_3_t (q0 q1 : AV) : okT (g7 (.lit (.int .i64 (.ofNat 3))) (20) (.lit (.int .i64 (.ofNat 3))) (3+1) [] q0 q1 (.lit (.bool true)) .nil 1) = true := by kernel_rfl
theorem run_4_0_f (q0 q1 : AV) : okT (g7 (.lit (.int .i64 (.ofNat 4))) (20) (.lit (.int .i64 (.ofNat 0))) (4+1) [] q0 q1 (.lit (.bool false)) .nil 1) = true := by kernel_rfl
theorem run_4_0_t (q0 q1 : AV) : okT (g7 (.lit (.int .i64 (.ofNat 4))) (20) (.lit (.int .i64 (.ofNat 0))) (4+1) [] q0 q1 (.lit (.bool true)) .nil 1) = true := by kernel_rfl
theorem run_4_1_f (q0 q1 : AV) : okT (g7 (.lit (.int .i64 (.ofNat 4))) (20) (.lit (.int .i64 (.ofNat 1))) (4+1) [] q0 q1 (.lit (.bool false)) .nil 1) = true := by kernel_rfl
theorem run_4_1_t (q0 q1 : AV) : okT (g7 (.lit (.int .i64 (.ofNat 4))) (20) (.lit (.int .i64 (.ofNat 1))) (4+1) [] q0 q1 (.lit (.bool true)) .nil 1) = true := by kernel_rfl
theorem run_4_2_f (q0 q1 : AV) : okT (g7 (.lit (.int .i64 (.ofNat 4))) (20) (.lit (.int .i64 (.ofNat 2))) (4+1) [] q0 q1 (.lit (.bool false)) .nil 1) = true := by kernel_rfl
theorem run_4_2_t (q0 q1 : AV) : okT (g7 (.lit (.int .i64 (.ofNat 4))) (20) (.lit (.int .i64 (.ofNat 2))) (4+1) [] q0 q1 (.lit (.bool true)) .nil 1) = true := by kernel_rfl
theorem run_4_3_f (q0 q1 : AV) : okT (g7 (.lit (.int .i64 (.ofNat 4))) (20) (.lit (.int .i64 (.ofNat 3))) (4+1) [] q0 q1 (.lit (.bool false)) .nil 1) = true := by kernel_rfl
theorem run_4_3_t (q0 q1 : AV) : okT (g7 (.lit (.int .i64 (.ofNat 4))) (20) (.lit (.int .i64 (.ofNat 3))) (4+1) [] q0 q1 (.lit (.bool true)) .nil 1) = true := by kernel_rfl
theorem run_4_4_f (q0 q1 : AV) : okT (g7 (.lit (.int .i64 (.ofNat 4))) (20) (.lit (.int .i64 (.ofNat 4))) (4+1) [] q0 q1 (.lit (.bool false)) .nil 1) = true := by kernel_rfl
theorem run_4_4_t (q0 q1 : AV) : okT (g7 (.lit (.int .i64 (.ofNat 4))) (20) (.lit (.int .i64 (.ofNat 4))) (4+1) [] q0 q1 (.lit (.bool true)) .nil 1) = true := by kernel_rfl
theorem run_5_0_f (q0 q1 : AV) : okT (g7 (.lit (.int .i64 (.ofNat 5))) (20) (.lit (.int .i64 (.ofNat 0))) (5+1) [] q0 q1 (.lit (.bool false)) .nil 1) = true := by kernel_rfl
theorem run_5_0_t (q0 q1 : AV) : okT (g7 (.lit (.int .i64 (.ofNat 5))) (20) (.lit (.int .i64 (.ofNat 0))) (5+1) [] q0 q1 (.lit (.bool true)) .nil 1) = true := by kernel_rfl
theorem run_5_1_f (q0 q1 : AV) : okT (g7 (.lit (.int .i64 (.ofNat 5))) (20) (.lit (.int .i64 (.ofNat 1))) (5+1) [] q0 q1 (.lit (.bool false)) .nil 1) = true := by kernel_rfl
theorem run_5_1_t (q0 q1 : AV) : okT (g7 (.lit (.int .i64 (.ofNat 5))) (20) (.lit (.int .i64 (.ofNat 1))) (5+1) [] q0 q1 (.lit (.bool true)) .nil 1) = true := by kernel_rfl
theorem run_5_2_f (q0 q1 : AV) : okT (g7 (.lit (.int .i64 (.ofNat 5))) (20) (.lit (.int .i64 (.ofNat 2))) (5+1) [] q0 q1 (.lit (.bool false)) .nil 1) = true := by kernel_rfl
theorem run_5_2_t (q0 q1 : AV) : okT (g7 (.lit (.int .i64 (.ofNat 5))) (20) (.lit (.int .i64 (.ofNat 2))) (5+1) [] q0 q1 (.lit (.bool true)) .nil 1) = true := by kernel_rfl
theorem run_5_3_f (q0 q1 : AV) : okT (g7 (.lit (.int .i64 (.ofNat 5))) (20) (.lit (.int .i64 (.ofNat 3))) (5+1) [] q0 q1 (.lit (.bool false)) .nil 1) = true := by kernel_rfl
theorem run_5_3_t (q0 q1 : AV) : okT (g7 (.lit (.int .i64 (.ofNat 5))) (20) (.lit (.int .i64 (.ofNat 3))) (5+1) [] q0 q1 (.lit (.bool true)) .nil 1) = true := by kernel_rfl
theorem run_5_4_f (q0 q1 : AV) : okT (g7 (.lit (.int .i64 (.ofNat 5))) (20) (.lit (.int .i64 (.ofNat 4))) (5+1) [] q0 q1 (.lit (.bool false)) .nil 1) = true := by kernel_rfl
theorem run_5_4_t (q0 q1 : AV) : okT (g7 (.lit (.int .i64 (.ofNat 5))) (20) (.lit (.int .i64 (.ofNat 4))) (5+1) [] q0 q1 (.lit (.bool true)) .nil 1) = true := by kernel_rfl
theorem run_5_5_f (q0 q1 : AV) : okT (g7 (.lit (.int .i64 (.ofNat 5))) (20) (.lit (.int .i64 (.ofNat 5))) (5+1) [] q0 q1 (.lit (.bool false)) .nil 1) = true := by kernel_rfl
theorem run_5_5_t (q0 q1 : AV) : okT (g7 (.lit (.int .i64 (.ofNat 5))) (20) (.lit (.int .i64 (.ofNat 5))) (5+1) [] q0 q1 (.lit (.bool true)) .nil 1) = true := by kernel_rfl
theorem run_6_0_f (q0 q1 : AV) : okT (g7 (.lit (.int .i64 (.ofNat 6))) (20) (.lit (.int .i64 (.ofNat 0))) (6+1) [] q0 q1 (.lit (.bool false)) .nil 1) = true := by kernel_rfl
theorem run_6_0_t (q0 q1 : AV) : okT (g7 (.lit (.int .i64 (.ofNat 6))) (20) (.lit (.int .i64 (.ofNat 0))) (6+1) [] q0 q1 (.lit (.bool true)) .nil 1) = true := by kernel_rfl
theorem run_6_1_f (q0 q1 : AV) : okT (g7 (.lit (.int .i64 (.ofNat 6))) (20) (.lit (.int .i64 (.ofNat 1))) (6+1) [] q0 q1 (.lit (.bool false)) .nil 1) = true := by kernel_rfl
theorem run_6_1_t (q0 q1 : AV) : okT (g7 (.lit (.int .i64 (.ofNat 6))) (20) (.lit (.int .i64 (.ofNat 1))) (6+1) [] q0 q1 (.lit (.bool true)) .nil 1) = true := by kernel_rfl
end Go.Proofs.YtdepmlcnllofiaaGreatDoor.Rn
