/-
  Proved here: runs of the statement 'CodeNames', each comes to true.
-/
import Derived.Test.YtlljgagoboapaaaGreatDoorCni
namespace Go.Proofs.YtlljgagoboapaaaGreatDoor.Cn
open Go.EY Go.EX Go.SX Go.RowKit
theorem first_run : okT (g25 [.nil] .nil 1) = true := by kernel_rfl
theorem runA_1 (c3 c4 : AV) (xd : HT → Nat → R) (q1 q2 m1 m2 : AV) (x y : Nat) : okT (g5 (.lit (.int .i64 (.ofNat 1))) q1 q2 (c3) (c4) m1 m2 (.lit (.int .i64 (.ofNat x))) (.lit (.int .i64 (.ofNat y))) (xd) [] (.lit (.int .i64 (.ofNat 1))) q1 q2 .nil 1) = true := by kernel_rfl
theorem runA_2 (c3 c4 : AV) (xd : HT → Nat → R) (q1 q2 m1 m2 : AV) (x y : Nat) : okT (g5 (.lit (.int .i64 (.ofNat 2))) q1 q2 (c3) (c4) m1 m2 (.lit (.int .i64 (.ofNat x))) (.lit (.int .i64 (.ofNat y))) (xd) [] (.lit (.int .i64 (.ofNat 2))) q1 q2 .nil 1) = true := by kernel_rfl
theorem runA_3 (c3 c4 : AV) (xd : HT → Nat → R) (q1 q2 m1 m2 : AV) (x y : Nat) : okT (g5 (.lit (.int .i64 (.ofNat 3))) q1 q2 (c3) (c4) m1 m2 (.lit (.int .i64 (.ofNat x))) (.lit (.int .i64 (.ofNat y))) (xd) [] (.lit (.int .i64 (.ofNat 3))) q1 q2 .nil 1) = true := by kernel_rfl
theorem runA_4 (c3 c4 : AV) (xd : HT → Nat → R) (q1 q2 m1 m2 : AV) (x y : Nat) : okT (g5 (.lit (.int .i64 (.ofNat 4))) q1 q2 (c3) (c4) m1 m2 (.lit (.int .i64 (.ofNat x))) (.lit (.int .i64 (.ofNat y))) (xd) [] (.lit (.int .i64 (.ofNat 4))) q1 q2 .nil 1) = true := by kernel_rfl
theorem runA_5 (c3 c4 : AV) (xd : HT → Nat → R) (q1 q2 m1 m2 : AV) (x y : Nat) : okT (g5 (.lit (.int .i64 (.ofNat 5))) q1 q2 (c3) (c4) m1 m2 (.lit (.int .i64 (.ofNat x))) (.lit (.int .i64 (.ofNat y))) (xd) [] (.lit (.int .i64 (.ofNat 5))) q1 q2 .nil 1) = true := by kernel_rfl
theorem runA_6 (c3 c4 : AV) (xd : HT → Nat → R) (q1 q2 m1 m2 : AV) (x y : Nat) : okT (g5 (.lit (.int .i64 (.ofNat 6))) q1 q2 (c3) (c4) m1 m2 (.lit (.int .i64 (.ofNat x))) (.lit (.int .i64 (.ofNat y))) (xd) [] (.lit (.int .i64 (.ofNat 6))) q1 q2 .nil 1) = true := by kernel_rfl
theorem runA_7 (c3 c4 : AV) (xd : HT → Nat → R) (q1 q2 m1 m2 : AV) (x y : Nat) : okT (g5 (.lit (.int .i64 (.ofNat 7))) q1 q2 (c3) (c4) m1 m2 (.lit (.int .i64 (.ofNat x))) (.lit (.int .i64 (.ofNat y))) (xd) [] (.lit (.int .i64 (.ofNat 7))) q1 q2 .nil 1) = true := by kernel_rfl
theorem runA_8 (c3 c4 : AV) (xd : HT → Nat → R) (q1 q2 m1 m2 : AV) (x y : Nat) : okT (g5 (.lit (.int .i64 (.ofNat 8))) q1 q2 (c3) (c4) m1 m2 (.lit (.int .i64 (.ofNat x))) (.lit (.int .i64 (.ofNat y))) (xd) [] (.lit (.int .i64 (.ofNat 8))) q1 q2 .nil 1) = true := by kernel_rfl
theorem runA_9 (c3 c4 : AV) (xd : HT → Nat → R) (q1 q2 m1 m2 : AV) (x y : Nat) : okT (g5 (.lit (.int .i64 (.ofNat 9))) q1 q2 (c3) (c4) m1 m2 (.lit (.int .i64 (.ofNat x))) (.lit (.int .i64 (.ofNat y))) (xd) [] (.lit (.int .i64 (.ofNat 9))) q1 q2 .nil 1) = true := by kernel_rfl
theorem runA_10 (c3 c4 : AV) (xd : HT → Nat → R) (q1 q2 m1 m2 : AV) (x y : Nat) : okT (g5 (.lit (.int .i64 (.ofNat 10))) q1 q2 (c3) (c4) m1 m2 (.lit (.int .i64 (.ofNat x))) (.lit (.int .i64 (.ofNat y))) (xd) [] (.lit (.int .i64 (.ofNat 10))) q1 q2 .nil 1) = true := by kernel_rfl
theorem runA_11 (c3 c4 : AV) (xd : HT → Nat → R) (q1 q2 m1 m2 : AV) (x y : Nat) : okT (g5 (.lit (.int .i64 (.ofNat 11))) q1 q2 (c3) (c4) m1 m2 (.lit (.int .i64 (.ofNat x))) (.lit (.int .i64 (.ofNat y))) (xd) [] (.lit (.int .i64 (.ofNat 11))) q1 q2 .nil 1) = true := by kernel_rfl
theorem runA_12 (c3 c4 : AV) (xd : HT → Nat → R) (q1 q2 m1 m2 : AV) (x y : Nat) : okT (g5 (.lit (.int .i64 (.ofNat 12))) q1 q2 (c3) (c4) m1 m2 (.lit (.int .i64 (.ofNat x))) (.lit (.int .i64 (.ofNat y))) (xd) [] (.lit (.int .i64 (.ofNat 12))) q1 q2 .nil 1) = true := by kernel_rfl
theorem runA_13 (c3 c4 : AV) (xd : HT → Nat → R) (q1 q2 m1 m2 : AV) (x y : Nat) : okT (g5 (.lit (.int .i64 (.ofNat 13))) q1 q2 (c3) (c4) m1 m2 (.lit (.int .i64 (.ofNat x))) (.lit (.int .i64 (.ofNat y))) (xd) [] (.lit (.int .i64 (.ofNat 13))) q1 q2 .nil 1) = true := by kernel_rfl
theorem runA_14 (c3 c4 : AV) (xd : HT → Nat → R) (q1 q2 m1 m2 : AV) (x y : Nat) : okT (g5 (.lit (.int .i64 (.ofNat 14))) q1 q2 (c3) (c4) m1 m2 (.lit (.int .i64 (.ofNat x))) (.lit (.int .i64 (.ofNat y))) (xd) [] (.lit (.int .i64 (.ofNat 14))) q1 q2 .nil 1) = true := by kernel_rfl
theorem runA_15 (c3 c4 : AV) (xd : HT → Nat → R) (q1 q2 m1 m2 : AV) (x y : Nat) : okT (g5 (.lit (.int .i64 (.ofNat 15))) q1 q2 (c3) (c4) m1 m2 (.lit (.int .i64 (.ofNat x))) (.lit (.int .i64 (.ofNat y))) (xd) [] (.lit (.int .i64 (.ofNat 15))) q1 q2 .nil 1) = true := by kernel_rfl
theorem runA_16 (c3 c4 : AV) (xd : HT → Nat → R) (q1 q2 m1 m2 : AV) (x y : Nat) : okT (g5 (.lit (.int .i64 (.ofNat 16))) q1 q2 (c3) (c4) m1 m2 (.lit (.int .i64 (.ofNat x))) (.lit (.int .i64 (.ofNat y))) (xd) [] (.lit (.int .i64 (.ofNat 16))) q1 q2 .nil 1) = true := by kernel_rfl
theorem runA_17 (c3 c4 : AV) (xd : HT → Nat → R) (q1 q2 m1 m2 : AV) (x y : Nat) : okT (g5 (.lit (.int .i64 (.ofNat 17))) q1 q2 (c3) (c4) m1 m2 (.lit (.int .i64 (.ofNat x))) (.lit (.int .i64 (.ofNat y))) (xd) [] (.lit (.int .i64 (.ofNat 17))) q1 q2 .nil 1) = true := by kernel_rfl
theorem runA_18 (c3 c4 : AV) (xd : HT → Nat → R) (q1 q2 m1 m2 : AV) (x y : Nat) : okT (g5 (.lit (.int .i64 (.ofNat 18))) q1 q2 (c3) (c4) m1 m2 (.lit (.int .i64 (.ofNat x))) (.lit (.int .i64 (.ofNat y))) (xd) [] (.lit (.int .i64 (.ofNat 18))) q1 q2 .nil 1) = true := by kernel_rfl
theorem runA_19 (c3 c4 : AV) (xd : HT → Nat → R) (q1 q2 m1 m2 : AV) (x y : Nat) : okT (g5 (.lit (.int .i64 (.ofNat 19))) q1 q2 (c3) (c4) m1 m2 (.lit (.int .i64 (.ofNat x))) (.lit (.int .i64 (.ofNat y))) (xd) [] (.lit (.int .i64 (.ofNat 19))) q1 q2 .nil 1) = true := by kernel_rfl
theorem runA_20 (c3 c4 : AV) (xd : HT → Nat → R) (q1 q2 m1 m2 : AV) (x y : Nat) : okT (g5 (.lit (.int .i64 (.ofNat 20))) q1 q2 (c3) (c4) m1 m2 (.lit (.int .i64 (.ofNat x))) (.lit (.int .i64 (.ofNat y))) (xd) [] (.lit (.int .i64 (.ofNat 20))) q1 q2 .nil 1) = true := by kernel_rfl
theorem runA_21 (c3 c4 : AV) (xd : HT → Nat → R) (q1 q2 m1 m2 : AV) (x y : Nat) : okT (g5 (.lit (.int .i64 (.ofNat 21))) q1 q2 (c3) (c4) m1 m2 (.lit (.int .i64 (.ofNat x))) (.lit (.int .i64 (.ofNat y))) (xd) [] (.lit (.int .i64 (.ofNat 21))) q1 q2 .nil 1) = true := by kernel_rfl
theorem runA_22 (c3 c4 : AV) (xd : HT → Nat → R) (q1 q2 m1 m2 : AV) (x y : Nat) : okT (g5 (.lit (.int .i64 (.ofNat 22))) q1 q2 (c3) (c4) m1 m2 (.lit (.int .i64 (.ofNat x))) (.lit (.int .i64 (.ofNat y))) (xd) [] (.lit (.int .i64 (.ofNat 22))) q1 q2 .nil 1) = true := by kernel_rfl
theorem runA_23 (c3 c4 : AV) (xd : HT → Nat → R) (q1 q2 m1 m2 : AV) (x y : Nat) : okT (g5 (.lit (.int .i64 (.ofNat 23))) q1 q2 (c3) (c4) m1 m2 (.lit (.int .i64 (.ofNat x))) (.lit (.int .i64 (.ofNat y))) (xd) [] (.lit (.int .i64 (.ofNat 23))) q1 q2 .nil 1) = true := by kernel_rfl
theorem runA_24 (c3 c4 : AV) (xd : HT → Nat → R) (q1 q2 m1 m2 : AV) (x y : Nat) : okT (g5 (.lit (.int .i64 (.ofNat 24))) q1 q2 (c3) (c4) m1 m2 (.lit (.int .i64 (.ofNat x))) (.lit (.int .i64 (.ofNat y))) (xd) [] (.lit (.int .i64 (.ofNat 24))) q1 q2 .nil 1) = true := by kernel_rfl
theorem runA_25 (c3 c4 : AV) (xd : HT → Nat → R) (q1 q2 m1 m2 : AV) (x y : Nat) : okT (g5 (.lit (.int .i64 (.ofNat 25))) q1 q2 (c3) (c4) m1 m2 (.lit (.int .i64 (.ofNat x))) (.lit (.int .i64 (.ofNat y))) (xd) [] (.lit (.int .i64 (.ofNat 25))) q1 q2 .nil 1) = true := by kernel_rfl
theorem runA_26 (c3 c4 : AV) (xd : HT → Nat → R) (q1 q2 m1 m2 : AV) (x y : Nat) : okT (g5 (.lit (.int .i64 (.ofNat 26))) q1 q2 (c3) (c4) m1 m2 (.lit (.int .i64 (.ofNat x))) (.lit (.int .i64 (.ofNat y))) (xd) [] (.lit (.int .i64 (.ofNat 26))) q1 q2 .nil 1) = true := by kernel_rfl
theorem runA_27 (c3 c4 : AV) (xd : HT → Nat → R) (q1 q2 m1 m2 : AV) (x y : Nat) : okT (g5 (.lit (.int .i64 (.ofNat 27))) q1 q2 (c3) (c4) m1 m2 (.lit (.int .i64 (.ofNat x))) (.lit (.int .i64 (.ofNat y))) (xd) [] (.lit (.int .i64 (.ofNat 27))) q1 q2 .nil 1) = true := by kernel_rfl
theorem runA_28 (c3 c4 : AV) (xd : HT → Nat → R) (q1 q2 m1 m2 : AV) (x y : Nat) : okT (g5 (.lit (.int .i64 (.ofNat 28))) q1 q2 (c3) (c4) m1 m2 (.lit (.int .i64 (.ofNat x))) (.lit (.int .i64 (.ofNat y))) (xd) [] (.lit (.int .i64 (.ofNat 28))) q1 q2 .nil 1) = true := by kernel_rfl
theorem runA_29 (c3 c4 : AV) (xd : HT → Nat → R) (q1 q2 m1 m2 : AV) (x y : Nat) : okT (g5 (.lit (.int .i64 (.ofNat 29))) q1 q2 (c3) (c4) m1 m2 (.lit (.int .i64 (.ofNat x))) (.lit (.int .i64 (.ofNat y))) (xd) [] (.lit (.int .i64 (.ofNat 29))) q1 q2 .nil 1) = true := by kernel_rfl
theorem runA_30 (c3 c4 : AV) (xd : HT → Nat → R) (q1 q2 m1 m2 : AV) (x y : Nat) : okT (g5 (.lit (.int .i64 (.ofNat 30))) q1 q2 (c3) (c4) m1 m2 (.lit (.int .i64 (.ofNat x))) (.lit (.int .i64 (.ofNat y))) (xd) [] (.lit (.int .i64 (.ofNat 30))) q1 q2 .nil 1) = true := by kernel_rfl
theorem runA_31 (c3 c4 : AV) (xd : HT → Nat → R) (q1 q2 m1 m2 : AV) (x y : Nat) : okT (g5 (.lit (.int .i64 (.ofNat 31))) q1 q2 (c3) (c4) m1 m2 (.lit (.int .i64 (.ofNat x))) (.lit (.int .i64 (.ofNat y))) (xd) [] (.lit (.int .i64 (.ofNat 31))) q1 q2 .nil 1) = true := by kernel_rfl
theorem runA_32 (c3 c4 : AV) (xd : HT → Nat → R) (q1 q2 m1 m2 : AV) (x y : Nat) : okT (g5 (.lit (.int .i64 (.ofNat 32))) q1 q2 (c3) (c4) m1 m2 (.lit (.int .i64 (.ofNat x))) (.lit (.int .i64 (.ofNat y))) (xd) [] (.lit (.int .i64 (.ofNat 32))) q1 q2 .nil 1) = true := by kernel_rfl
theorem runA_33 (c3 c4 : AV) (xd : HT → Nat → R) (q1 q2 m1 m2 : AV) (x y : Nat) : okT (g5 (.lit (.int .i64 (.ofNat 33))) q1 q2 (c3) (c4) m1 m2 (.lit (.int .i64 (.ofNat x))) (.lit (.int .i64 (.ofNat y))) (xd) [] (.lit (.int .i64 (.ofNat 33))) q1 q2 .nil 1) = true := by kernel_rfl
theorem runB_o (c4 : AV) (xd : HT → Nat → R) (q1 q2 m1 m2 : AV) (x y : Nat) : okT (g5 (.lit (.int .i64 (.negSucc 0))) q1 q2 (.lit (.bool true)) (c4) m1 m2 (.lit (.int .i64 (.ofNat x))) (.lit (.int .i64 (.ofNat y))) (xd) [] (.lit (.int .i64 (.negSucc 0))) q1 q2 .nil 1) = true := by kernel_rfl
theorem runC_o (xd : HT → Nat → R) (q1 q2 m1 m2 : AV) (x y : Nat) : okT (g5 (.lit (.int .i64 (.negSucc 0))) q1 q2 (.lit (.bool false)) (.lit (.bool true)) m1 m2 (.lit (.int .i64 (.ofNat x))) (.lit (.int .i64 (.ofNat y))) (xd) [] (.lit (.int .i64 (.negSucc 0))) q1 q2 .nil 1) = true := by kernel_rfl
theorem runD_o (q1 q2 m1 m2 : AV) (x y : Nat) : okT (g5 (.lit (.int .i64 (.negSucc 0))) q1 q2 (.lit (.bool false)) (.lit (.bool false)) m1 m2 (.lit (.int .i64 (.ofNat x))) (.lit (.int .i64 (.ofNat y))) (fun T nx => .ok (.val (.tup [.lit (.int .i64 (.ofNat 0)), .lit (.int .i64 (.ofNat 0))])) T nx) [] (.lit (.int .i64 (.negSucc 0))) q1 q2 .nil 1) = true := by kernel_rfl
theorem runB_n (m : Nat) (c4 : AV) (xd : HT → Nat → R) (q1 q2 m1 m2 : AV) (x y : Nat) : okT (g5 (.lit (.int .i64 (.negSucc (m + 1)))) q1 q2 (.lit (.bool true)) (c4) m1 m2 (.lit (.int .i64 (.ofNat x))) (.lit (.int .i64 (.ofNat y))) (xd) [] (.lit (.int .i64 (.negSucc (m + 1)))) q1 q2 .nil 1) = true := by kernel_rfl
theorem runC_n (m : Nat) (xd : HT → Nat → R) (q1 q2 m1 m2 : AV) (x y : Nat) : okT (g5 (.lit (.int .i64 (.negSucc (m + 1)))) q1 q2 (.lit (.bool false)) (.lit (.bool true)) m1 m2 (.lit (.int .i64 (.ofNat x))) (.lit (.int .i64 (.ofNat y))) (xd) [] (.lit (.int .i64 (.negSucc (m + 1)))) q1 q2 .nil 1) = true := by kernel_rfl
theorem runD_n (m : Nat) (q1 q2 m1 m2 : AV) (x y : Nat) : okT (g5 (.lit (.int .i64 (.negSucc (m + 1)))) q1 q2 (.lit (.bool false)) (.lit (.bool false)) m1 m2 (.lit (.int .i64 (.ofNat x))) (.lit (.int .i64 (.ofNat y))) (fun T nx => .ok (.val (.tup [.lit (.int .i64 (.ofNat 0)), .lit (.int .i64 (.ofNat 0))])) T nx) [] (.lit (.int .i64 (.negSucc (m + 1)))) q1 q2 .nil 1) = true := by kernel_rfl
theorem runB_z (c4 : AV) (xd : HT → Nat → R) (q1 q2 m1 m2 : AV) (x y : Nat) : okT (g5 (.lit (.int .i64 (.ofNat 0))) q1 q2 (.lit (.bool true)) (c4) m1 m2 (.lit (.int .i64 (.ofNat x))) (.lit (.int .i64 (.ofNat y))) (xd) [] (.lit (.int .i64 (.ofNat 0))) q1 q2 .nil 1) = true := by kernel_rfl
theorem runC_z (xd : HT → Nat → R) (q1 q2 m1 m2 : AV) (x y : Nat) : okT (g5 (.lit (.int .i64 (.ofNat 0))) q1 q2 (.lit (.bool false)) (.lit (.bool true)) m1 m2 (.lit (.int .i64 (.ofNat x))) (.lit (.int .i64 (.ofNat y))) (xd) [] (.lit (.int .i64 (.ofNat 0))) q1 q2 .nil 1) = true := by kernel_rfl
theorem runD_z (q1 q2 m1 m2 : AV) (x y : Nat) : okT (g5 (.lit (.int .i64 (.ofNat 0))) q1 q2 (.lit (.bool false)) (.lit (.bool false)) m1 m2 (.lit (.int .i64 (.ofNat x))) (.lit (.int .i64 (.ofNat y))) (fun T nx => .ok (.val (.tup [.lit (.int .i64 (.ofNat 0)), .lit (.int .i64 (.ofNat 0))])) T nx) [] (.lit (.int .i64 (.ofNat 0))) q1 q2 .nil 1) = true := by kernel_rfl
theorem runB_p (m : Nat) (c4 : AV) (xd : HT → Nat → R) (q1 q2 m1 m2 : AV) (x y : Nat) : okT (g5 (.lit (.int .i64 (.ofNat (m + 34)))) q1 q2 (.lit (.bool true)) (c4) m1 m2 (.lit (.int .i64 (.ofNat x))) (.lit (.int .i64 (.ofNat y))) (xd) [] (.lit (.int .i64 (.ofNat (m + 34)))) q1 q2 .nil 1) = true := by kernel_rfl
theorem runC_p (m : Nat) (xd : HT → Nat → R) (q1 q2 m1 m2 : AV) (x y : Nat) : okT (g5 (.lit (.int .i64 (.ofNat (m + 34)))) q1 q2 (.lit (.bool false)) (.lit (.bool true)) m1 m2 (.lit (.int .i64 (.ofNat x))) (.lit (.int .i64 (.ofNat y))) (xd) [] (.lit (.int .i64 (.ofNat (m + 34)))) q1 q2 .nil 1) = true := by kernel_rfl
theorem runD_p (m : Nat) (q1 q2 m1 m2 : AV) (x y : Nat) : okT (g5 (.lit (.int .i64 (.ofNat (m + 34)))) q1 q2 (.lit (.bool false)) (.lit (.bool false)) m1 m2 (.lit (.int .i64 (.ofNat x))) (.lit (.int .i64 (.ofNat y))) (fun T nx => .ok (.val (.tup [.lit (.int .i64 (.ofNat 0)), .lit (.int .i64 (.ofNat 0))])) T nx) [] (.lit (.int .i64 (.ofNat (m + 34)))) q1 q2 .nil 1) = true := by kernel_rfl
theorem runA (k : Nat) (h1 : 1 ≤ k) (h2 : k < 34) (c3 c4 : AV) (xd : HT → Nat → R) (q1 q2 m1 m2 : AV) (x y : Nat) : okT (g5 (.lit (.int .i64 (.ofNat k))) q1 q2 (c3) (c4) m1 m2 (.lit (.int .i64 (.ofNat x))) (.lit (.int .i64 (.ofNat y))) (xd) [] (.lit (.int .i64 (.ofNat k))) q1 q2 .nil 1) = true := by
  match k, h1, h2 with
  | 1, _, _ => exact runA_1 c3 c4 xd q1 q2 m1 m2 x y
  | 2, _, _ => exact runA_2 c3 c4 xd q1 q2 m1 m2 x y
  | 3, _, _ => exact runA_3 c3 c4 xd q1 q2 m1 m2 x y
  | 4, _, _ => exact runA_4 c3 c4 xd q1 q2 m1 m2 x y
  | 5, _, _ => exact runA_5 c3 c4 xd q1 q2 m1 m2 x y
  | 6, _, _ => exact runA_6 c3 c4 xd q1 q2 m1 m2 x y
  | 7, _, _ => exact runA_7 c3 c4 xd q1 q2 m1 m2 x y
  | 8, _, _ => exact runA_8 c3 c4 xd q1 q2 m1 m2 x y
  | 9, _, _ => exact runA_9 c3 c4 xd q1 q2 m1 m2 x y
  | 10, _, _ => exact runA_10 c3 c4 xd q1 q2 m1 m2 x y
  | 11, _, _ => exact runA_11 c3 c4 xd q1 q2 m1 m2 x y
  | 12, _, _ => exact runA_12 c3 c4 xd q1 q2 m1 m2 x y
  | 13, _, _ => exact runA_13 c3 c4 xd q1 q2 m1 m2 x y
  | 14, _, _ => exact runA_14 c3 c4 xd q1 q2 m1 m2 x y
  | 15, _, _ => exact runA_15 c3 c4 xd q1 q2 m1 m2 x y
  | 16, _, _ => exact runA_16 c3 c4 xd q1 q2 m1 m2 x y
  | 17, _, _ => exact runA_17 c3 c4 xd q1 q2 m1 m2 x y
  | 18, _, _ => exact runA_18 c3 c4 xd q1 q2 m1 m2 x y
  | 19, _, _ => exact runA_19 c3 c4 xd q1 q2 m1 m2 x y
  | 20, _, _ => exact runA_20 c3 c4 xd q1 q2 m1 m2 x y
  | 21, _, _ => exact runA_21 c3 c4 xd q1 q2 m1 m2 x y
  | 22, _, _ => exact runA_22 c3 c4 xd q1 q2 m1 m2 x y
  | 23, _, _ => exact runA_23 c3 c4 xd q1 q2 m1 m2 x y
  | 24, _, _ => exact runA_24 c3 c4 xd q1 q2 m1 m2 x y
  | 25, _, _ => exact runA_25 c3 c4 xd q1 q2 m1 m2 x y
  | 26, _, _ => exact runA_26 c3 c4 xd q1 q2 m1 m2 x y
  | 27, _, _ => exact runA_27 c3 c4 xd q1 q2 m1 m2 x y
  | 28, _, _ => exact runA_28 c3 c4 xd q1 q2 m1 m2 x y
  | 29, _, _ => exact runA_29 c3 c4 xd q1 q2 m1 m2 x y
  | 30, _, _ => exact runA_30 c3 c4 xd q1 q2 m1 m2 x y
  | 31, _, _ => exact runA_31 c3 c4 xd q1 q2 m1 m2 x y
  | 32, _, _ => exact runA_32 c3 c4 xd q1 q2 m1 m2 x y
  | 33, _, _ => exact runA_33 c3 c4 xd q1 q2 m1 m2 x y
  | q + 34, _, h => exact absurd h (by omega)
theorem bld_is (a b c : Int) : bld60 [(0, .lit (.int .i64 a)), (1, .lit (.int .i64 b)), (2, .lit (.int .i64 c))] = some (.agg [.lit (.int .i64 a), .lit (.int .i64 b), .lit (.int .i64 c), .lit (.int .i64 0)]) := by kernel_rfl
end Go.Proofs.YtlljgagoboapaaaGreatDoor.Cn
