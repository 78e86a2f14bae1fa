/-
  Proved here: runs of the statement, each comes to true.
-/
import Derived.Test.YtdepmlcnllofiaaGreatDoorSpe
namespace Go.Proofs.YtdepmlcnllofiaaGreatDoor.Sp
open Go.EY Go.EX Go.SX Go.RowKit
theorem runP_12_0_f (q0 q1 c1a c1b c2a c2b : AV) : okT (g5 c1a c1b (.lit (.int .i64 (.ofNat 12))) c2a c2b (.lit (.int .i64 (.ofNat 0))) [] q0 q1 (.lit (.bool false)) .nil 1) = true := by kernel_rfl
theorem runP_12_0_t (q0 q1 c1a c1b c2a c2b : AV) : okT (g5 c1a c1b (.lit (.int .i64 (.ofNat 12))) c2a c2b (.lit (.int .i64 (.ofNat 0))) [] q0 q1 (.lit (.bool true)) .nil 1) = true := by kernel_rfl
theorem runP_12_1_f (q0 q1 c1a c1b c2a c2b : AV) : okT (g5 c1a c1b (.lit (.int .i64 (.ofNat 12))) c2a c2b (.lit (.int .i64 (.ofNat 1))) [] q0 q1 (.lit (.bool false)) .nil 1) = true := by kernel_rfl
theorem runP_12_1_t (q0 q1 c1a c1b c2a c2b : AV) : okT (g5 c1a c1b (.lit (.int .i64 (.ofNat 12))) c2a c2b (.lit (.int .i64 (.ofNat 1))) [] q0 q1 (.lit (.bool true)) .nil 1) = true := by kernel_rfl
theorem runP_12_2_f (q0 q1 c1a c1b c2a c2b : AV) : okT (g5 c1a c1b (.lit (.int .i64 (.ofNat 12))) c2a c2b (.lit (.int .i64 (.ofNat 2))) [] q0 q1 (.lit (.bool false)) .nil 1) = true := by kernel_rfl
theorem runP_12_2_t (q0 q1 c1a c1b c2a c2b : AV) : okT (g5 c1a c1b (.lit (.int .i64 (.ofNat 12))) c2a c2b (.lit (.int .i64 (.ofNat 2))) [] q0 q1 (.lit (.bool true)) .nil 1) = true := by kernel_rfl
theorem runP_12_3_f (q0 q1 c1a c1b c2a c2b : AV) : okT (g5 c1a c1b (.lit (.int .i64 (.ofNat 12))) c2a c2b (.lit (.int .i64 (.ofNat 3))) [] q0 q1 (.lit (.bool false)) .nil 1) = true := by kernel_rfl
theorem runP_12_3_t (q0 q1 c1a c1b c2a c2b : AV) : okT (g5 c1a c1b (.lit (.int .i64 (.ofNat 12))) c2a c2b (.lit (.int .i64 (.ofNat 3))) [] q0 q1 (.lit (.bool true)) .nil 1) = true := by kernel_rfl
theorem runP_12_4_f (q0 q1 c1a c1b c2a c2b : AV) : okT (g5 c1a c1b (.lit (.int .i64 (.ofNat 12))) c2a c2b (.lit (.int .i64 (.ofNat 4))) [] q0 q1 (.lit (.bool false)) .nil 1) = true := by kernel_rfl
theorem runP_12_4_t (q0 q1 c1a c1b c2a c2b : AV) : okT (g5 c1a c1b (.lit (.int .i64 (.ofNat 12))) c2a c2b (.lit (.int .i64 (.ofNat 4))) [] q0 q1 (.lit (.bool true)) .nil 1) = true := by kernel_rfl
theorem runP_12_5_f (q0 q1 c1a c1b c2a c2b : AV) : okT (g5 c1a c1b (.lit (.int .i64 (.ofNat 12))) c2a c2b (.lit (.int .i64 (.ofNat 5))) [] q0 q1 (.lit (.bool false)) .nil 1) = true := by kernel_rfl
theorem runP_12_5_t (q0 q1 c1a c1b c2a c2b : AV) : okT (g5 c1a c1b (.lit (.int .i64 (.ofNat 12))) c2a c2b (.lit (.int .i64 (.ofNat 5))) [] q0 q1 (.lit (.bool true)) .nil 1) = true := by kernel_rfl
theorem runP_12_6_f (q0 q1 c1a c1b c2a c2b : AV) : okT (g5 c1a c1b (.lit (.int .i64 (.ofNat 12))) c2a c2b (.lit (.int .i64 (.ofNat 6))) [] q0 q1 (.lit (.bool false)) .nil 1) = true := by kernel_rfl
theorem runP_12_6_t (q0 q1 c1a c1b c2a c2b : AV) : okT (g5 c1a c1b (.lit (.int .i64 (.ofNat 12))) c2a c2b (.lit (.int .i64 (.ofNat 6))) [] q0 q1 (.lit (.bool true)) .nil 1) = true := by kernel_rfl
theorem runP_12_7_f (q0 q1 c1a c1b c2a c2b : AV) : okT (g5 c1a c1b (.lit (.int .i64 (.ofNat 12))) c2a c2b (.lit (.int .i64 (.ofNat 7))) [] q0 q1 (.lit (.bool false)) .nil 1) = true := by kernel_rfl
theorem runP_12_7_t (q0 q1 c1a c1b c2a c2b : AV) : okT (g5 c1a c1b (.lit (.int .i64 (.ofNat 12))) c2a c2b (.lit (.int .i64 (.ofNat 7))) [] q0 q1 (.lit (.bool true)) .nil 1) = true := by kernel_rfl
theorem runP_12_8_f (q0 q1 c1a c1b c2a c2b : AV) : okT (g5 c1a c1b (.lit (.int .i64 (.ofNat 12))) c2a c2b (.lit (.int .i64 (.ofNat 8))) [] q0 q1 (.lit (.bool false)) .nil 1) = true := by kernel_rfl
theorem runP_12_8_t (q0 q1 c1a c1b c2a c2b : AV) : okT (g5 c1a c1b (.lit (.int .i64 (.ofNat 12))) c2a c2b (.lit (.int .i64 (.ofNat 8))) [] q0 q1 (.lit (.bool true)) .nil 1) = true := by kernel_rfl
theorem runP_12_9_f (q0 q1 c1a c1b c2a c2b : AV) : okT (g5 c1a c1b (.lit (.int .i64 (.ofNat 12))) c2a c2b (.lit (.int .i64 (.ofNat 9))) [] q0 q1 (.lit (.bool false)) .nil 1) = true := by kernel_rfl
theorem runP_12_9_t (q0 q1 c1a c1b c2a c2b : AV) : okT (g5 c1a c1b (.lit (.int .i64 (.ofNat 12))) c2a c2b (.lit (.int .i64 (.ofNat 9))) [] q0 q1 (.lit (.bool true)) .nil 1) = true := by kernel_rfl
theorem runP_12_10_f (q0 q1 c1a c1b c2a c2b : AV) : okT (g5 c1a c1b (.lit (.int .i64 (.ofNat 12))) c2a c2b (.lit (.int .i64 (.ofNat 10))) [] q0 q1 (.lit (.bool false)) .nil 1) = true := by kernel_rfl
theorem runP_12_10_t (q0 q1 c1a c1b c2a c2b : AV) : okT (g5 c1a c1b (.lit (.int .i64 (.ofNat 12))) c2a c2b (.lit (.int .i64 (.ofNat 10))) [] q0 q1 (.lit (.bool true)) .nil 1) = true := by kernel_rfl
theorem runP_12_11_f (q0 q1 c1a c1b c2a c2b : AV) : okT (g5 c1a c1b (.lit (.int .i64 (.ofNat 12))) c2a c2b (.lit (.int .i64 (.ofNat 11))) [] q0 q1 (.lit (.bool false)) .nil 1) = true := by kernel_rfl
theorem runP_12_11_t (q0 q1 c1a c1b c2a c2b : AV) : okT (g5 c1a c1b (.lit (.int .i64 (.ofNat 12))) c2a c2b (.lit (.int .i64 (.ofNat 11))) [] q0 q1 (.lit (.bool true)) .nil 1) = true := by kernel_rfl
theorem runP_12_12_f (q0 q1 c1a c1b c2a c2b : AV) : okT (g5 c1a c1b (.lit (.int .i64 (.ofNat 12))) c2a c2b (.lit (.int .i64 (.ofNat 12))) [] q0 q1 (.lit (.bool false)) .nil 1) = true := by kernel_rfl
theorem runP_12_12_t (q0 q1 c1a c1b c2a c2b : AV) : okT (g5 c1a c1b (.lit (.int .i64 (.ofNat 12))) c2a c2b (.lit (.int .i64 (.ofNat 12))) [] q0 q1 (.lit (.bool true)) .nil 1) = true := by kernel_rfl
theorem runP_12_13_f (q0 q1 c1a c1b c2a c2b : AV) : okT (g5 c1a c1b (.lit (.int .i64 (.ofNat 12))) c2a c2b (.lit (.int .i64 (.ofNat 13))) [] q0 q1 (.lit (.bool false)) .nil 1) = true := by kernel_rfl
theorem runP_12_13_t (q0 q1 c1a c1b c2a c2b : AV) : okT (g5 c1a c1b (.lit (.int .i64 (.ofNat 12))) c2a c2b (.lit (.int .i64 (.ofNat 13))) [] q0 q1 (.lit (.bool true)) .nil 1) = true := by kernel_rfl
theorem runP_12_14_f (q0 q1 c1a c1b c2a c2b : AV) : okT (g5 c1a c1b (.lit (.int .i64 (.ofNat 12))) c2a c2b (.lit (.int .i64 (.ofNat 14))) [] q0 q1 (.lit (.bool false)) .nil 1) = true := by kernel_rfl
theorem runP_12_14_t (q0 q1 c1a c1b c2a c2b : AV) : okT (g5 c1a c1b (.lit (.int .i64 (.ofNat 12))) c2a c2b (.lit (.int .i64 (.ofNat 14))) [] q0 q1 (.lit (.bool true)) .nil 1) = true := by kernel_rfl
end Go.Proofs.YtdepmlcnllofiaaGreatDoor.Sp
