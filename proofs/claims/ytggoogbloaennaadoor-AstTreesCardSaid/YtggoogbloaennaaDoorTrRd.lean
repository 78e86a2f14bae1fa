/-
  Proved here: the runs of AstTrees, from 18 to 19: each comes to 'true'.
-/
import Derived.Test.YtggoogbloaennaaDoorTre
namespace Go.Proofs.YtggoogbloaennaaDoor.Tr
open Go.EY Go.EX Go.SX Go.RowKit
theorem run18_0 (q0 q1 : AV) : okT (g3 (.int .i64 (.ofNat 18)) (.int .i64 (.ofNat 0)) [] q0 q1 .nil 1) = true := by kernel_rfl
theorem run18_1 (q0 q1 : AV) : okT (g3 (.int .i64 (.ofNat 18)) (.int .i64 (.ofNat 1)) [] q0 q1 .nil 1) = true := by kernel_rfl
theorem run18_2 (q0 q1 : AV) : okT (g3 (.int .i64 (.ofNat 18)) (.int .i64 (.ofNat 2)) [] q0 q1 .nil 1) = true := by kernel_rfl
theorem run18_3 (q0 q1 : AV) : okT (g3 (.int .i64 (.ofNat 18)) (.int .i64 (.ofNat 3)) [] q0 q1 .nil 1) = true := by kernel_rfl
theorem run18_4 (q0 q1 : AV) : okT (g3 (.int .i64 (.ofNat 18)) (.int .i64 (.ofNat 4)) [] q0 q1 .nil 1) = true := by kernel_rfl
theorem run18 (q0 q1 : AV) (j : Nat) (hj : j < 5) : okT (g3 (.int .i64 (.ofNat 18)) (.int .i64 (.ofNat j)) [] q0 q1 .nil 1) = true := by
  match j, hj with
  | 0, _ => exact run18_0 q0 q1
  | 1, _ => exact run18_1 q0 q1
  | 2, _ => exact run18_2 q0 q1
  | 3, _ => exact run18_3 q0 q1
  | 4, _ => exact run18_4 q0 q1
  | _ + 5, h => exact absurd h (by omega)
theorem run19_0 (q0 q1 : AV) : okT (g3 (.int .i64 (.ofNat 19)) (.int .i64 (.ofNat 0)) [] q0 q1 .nil 1) = true := by kernel_rfl
theorem run19_1 (q0 q1 : AV) : okT (g3 (.int .i64 (.ofNat 19)) (.int .i64 (.ofNat 1)) [] q0 q1 .nil 1) = true := by kernel_rfl
theorem run19_2 (q0 q1 : AV) : okT (g3 (.int .i64 (.ofNat 19)) (.int .i64 (.ofNat 2)) [] q0 q1 .nil 1) = true := by kernel_rfl
theorem run19_3 (q0 q1 : AV) : okT (g3 (.int .i64 (.ofNat 19)) (.int .i64 (.ofNat 3)) [] q0 q1 .nil 1) = true := by kernel_rfl
theorem run19_4 (q0 q1 : AV) : okT (g3 (.int .i64 (.ofNat 19)) (.int .i64 (.ofNat 4)) [] q0 q1 .nil 1) = true := by kernel_rfl
theorem run19 (q0 q1 : AV) (j : Nat) (hj : j < 5) : okT (g3 (.int .i64 (.ofNat 19)) (.int .i64 (.ofNat j)) [] q0 q1 .nil 1) = true := by
  match j, hj with
  | 0, _ => exact run19_0 q0 q1
  | 1, _ => exact run19_1 q0 q1
  | 2, _ => exact run19_2 q0 q1
  | 3, _ => exact run19_3 q0 q1
  | 4, _ => exact run19_4 q0 q1
  | _ + 5, h => exact absurd h (by omega)
end Go.Proofs.YtggoogbloaennaaDoor.Tr
