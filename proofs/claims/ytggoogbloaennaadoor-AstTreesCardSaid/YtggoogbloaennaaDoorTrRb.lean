/-
  Proved here: the runs of AstTrees, from 9 to 13: each comes to 'true'.
-/
import Derived.Test.YtggoogbloaennaaDoorTre
namespace Go.Proofs.YtggoogbloaennaaDoor.Tr
open Go.EY Go.EX Go.SX Go.RowKit
theorem run9_0 (q0 q1 : AV) : okT (g3 (.int .i64 (.ofNat 9)) (.int .i64 (.ofNat 0)) [] q0 q1 .nil 1) = true := by kernel_rfl
theorem run9_1 (q0 q1 : AV) : okT (g3 (.int .i64 (.ofNat 9)) (.int .i64 (.ofNat 1)) [] q0 q1 .nil 1) = true := by kernel_rfl
theorem run9_2 (q0 q1 : AV) : okT (g3 (.int .i64 (.ofNat 9)) (.int .i64 (.ofNat 2)) [] q0 q1 .nil 1) = true := by kernel_rfl
theorem run9_3 (q0 q1 : AV) : okT (g3 (.int .i64 (.ofNat 9)) (.int .i64 (.ofNat 3)) [] q0 q1 .nil 1) = true := by kernel_rfl
theorem run9_4 (q0 q1 : AV) : okT (g3 (.int .i64 (.ofNat 9)) (.int .i64 (.ofNat 4)) [] q0 q1 .nil 1) = true := by kernel_rfl
theorem run9 (q0 q1 : AV) (j : Nat) (hj : j < 5) : okT (g3 (.int .i64 (.ofNat 9)) (.int .i64 (.ofNat j)) [] q0 q1 .nil 1) = true := by
  match j, hj with
  | 0, _ => exact run9_0 q0 q1
  | 1, _ => exact run9_1 q0 q1
  | 2, _ => exact run9_2 q0 q1
  | 3, _ => exact run9_3 q0 q1
  | 4, _ => exact run9_4 q0 q1
  | _ + 5, h => exact absurd h (by omega)
theorem run10_0 (q0 q1 : AV) : okT (g3 (.int .i64 (.ofNat 10)) (.int .i64 (.ofNat 0)) [] q0 q1 .nil 1) = true := by kernel_rfl
theorem run10_1 (q0 q1 : AV) : okT (g3 (.int .i64 (.ofNat 10)) (.int .i64 (.ofNat 1)) [] q0 q1 .nil 1) = true := by kernel_rfl
theorem run10_2 (q0 q1 : AV) : okT (g3 (.int .i64 (.ofNat 10)) (.int .i64 (.ofNat 2)) [] q0 q1 .nil 1) = true := by kernel_rfl
theorem run10_3 (q0 q1 : AV) : okT (g3 (.int .i64 (.ofNat 10)) (.int .i64 (.ofNat 3)) [] q0 q1 .nil 1) = true := by kernel_rfl
theorem run10_4 (q0 q1 : AV) : okT (g3 (.int .i64 (.ofNat 10)) (.int .i64 (.ofNat 4)) [] q0 q1 .nil 1) = true := by kernel_rfl
theorem run10 (q0 q1 : AV) (j : Nat) (hj : j < 5) : okT (g3 (.int .i64 (.ofNat 10)) (.int .i64 (.ofNat j)) [] q0 q1 .nil 1) = true := by
  match j, hj with
  | 0, _ => exact run10_0 q0 q1
  | 1, _ => exact run10_1 q0 q1
  | 2, _ => exact run10_2 q0 q1
  | 3, _ => exact run10_3 q0 q1
  | 4, _ => exact run10_4 q0 q1
  | _ + 5, h => exact absurd h (by omega)
theorem run11_0 (q0 q1 : AV) : okT (g3 (.int .i64 (.ofNat 11)) (.int .i64 (.ofNat 0)) [] q0 q1 .nil 1) = true := by kernel_rfl
theorem run11_1 (q0 q1 : AV) : okT (g3 (.int .i64 (.ofNat 11)) (.int .i64 (.ofNat 1)) [] q0 q1 .nil 1) = true := by kernel_rfl
theorem run11_2 (q0 q1 : AV) : okT (g3 (.int .i64 (.ofNat 11)) (.int .i64 (.ofNat 2)) [] q0 q1 .nil 1) = true := by kernel_rfl
theorem run11_3 (q0 q1 : AV) : okT (g3 (.int .i64 (.ofNat 11)) (.int .i64 (.ofNat 3)) [] q0 q1 .nil 1) = true := by kernel_rfl
theorem run11_4 (q0 q1 : AV) : okT (g3 (.int .i64 (.ofNat 11)) (.int .i64 (.ofNat 4)) [] q0 q1 .nil 1) = true := by kernel_rfl
theorem run11 (q0 q1 : AV) (j : Nat) (hj : j < 5) : okT (g3 (.int .i64 (.ofNat 11)) (.int .i64 (.ofNat j)) [] q0 q1 .nil 1) = true := by
  match j, hj with
  | 0, _ => exact run11_0 q0 q1
  | 1, _ => exact run11_1 q0 q1
  | 2, _ => exact run11_2 q0 q1
  | 3, _ => exact run11_3 q0 q1
  | 4, _ => exact run11_4 q0 q1
  | _ + 5, h => exact absurd h (by omega)
theorem run12_0 (q0 q1 : AV) : okT (g3 (.int .i64 (.ofNat 12)) (.int .i64 (.ofNat 0)) [] q0 q1 .nil 1) = true := by kernel_rfl
theorem run12_1 (q0 q1 : AV) : okT (g3 (.int .i64 (.ofNat 12)) (.int .i64 (.ofNat 1)) [] q0 q1 .nil 1) = true := by kernel_rfl
theorem run12_2 (q0 q1 : AV) : okT (g3 (.int .i64 (.ofNat 12)) (.int .i64 (.ofNat 2)) [] q0 q1 .nil 1) = true := by kernel_rfl
theorem run12_3 (q0 q1 : AV) : okT (g3 (.int .i64 (.ofNat 12)) (.int .i64 (.ofNat 3)) [] q0 q1 .nil 1) = true := by kernel_rfl
theorem run12_4 (q0 q1 : AV) : okT (g3 (.int .i64 (.ofNat 12)) (.int .i64 (.ofNat 4)) [] q0 q1 .nil 1) = true := by kernel_rfl
theorem run12 (q0 q1 : AV) (j : Nat) (hj : j < 5) : okT (g3 (.int .i64 (.ofNat 12)) (.int .i64 (.ofNat j)) [] q0 q1 .nil 1) = true := by
  match j, hj with
  | 0, _ => exact run12_0 q0 q1
  | 1, _ => exact run12_1 q0 q1
  | 2, _ => exact run12_2 q0 q1
  | 3, _ => exact run12_3 q0 q1
  | 4, _ => exact run12_4 q0 q1
  | _ + 5, h => exact absurd h (by omega)
theorem run13_0 (q0 q1 : AV) : okT (g3 (.int .i64 (.ofNat 13)) (.int .i64 (.ofNat 0)) [] q0 q1 .nil 1) = true := by kernel_rfl
theorem run13_1 (q0 q1 : AV) : okT (g3 (.int .i64 (.ofNat 13)) (.int .i64 (.ofNat 1)) [] q0 q1 .nil 1) = true := by kernel_rfl
theorem run13_2 (q0 q1 : AV) : okT (g3 (.int .i64 (.ofNat 13)) (.int .i64 (.ofNat 2)) [] q0 q1 .nil 1) = true := by kernel_rfl
theorem run13_3 (q0 q1 : AV) : okT (g3 (.int .i64 (.ofNat 13)) (.int .i64 (.ofNat 3)) [] q0 q1 .nil 1) = true := by kernel_rfl
theorem run13_4 (q0 q1 : AV) : okT (g3 (.int .i64 (.ofNat 13)) (.int .i64 (.ofNat 4)) [] q0 q1 .nil 1) = true := by kernel_rfl
theorem run13 (q0 q1 : AV) (j : Nat) (hj : j < 5) : okT (g3 (.int .i64 (.ofNat 13)) (.int .i64 (.ofNat j)) [] q0 q1 .nil 1) = true := by
  match j, hj with
  | 0, _ => exact run13_0 q0 q1
  | 1, _ => exact run13_1 q0 q1
  | 2, _ => exact run13_2 q0 q1
  | 3, _ => exact run13_3 q0 q1
  | 4, _ => exact run13_4 q0 q1
  | _ + 5, h => exact absurd h (by omega)
end Go.Proofs.YtggoogbloaennaaDoor.Tr
