/-
  Proved here: the statement called with any numbers returns true.
-/
import Derived.Test.YtdepmlcnllofiaaGreatDoorSpPa
import Derived.Test.YtdepmlcnllofiaaGreatDoorSpPb
import Derived.Test.YtdepmlcnllofiaaGreatDoorSpPc
import Derived.Test.YtdepmlcnllofiaaGreatDoorSpPd
import Derived.Test.YtdepmlcnllofiaaGreatDoorSpPe
import Derived.Test.YtdepmlcnllofiaaGreatDoorSpPf
import Derived.Test.YtdepmlcnllofiaaGreatDoorSpPg
import Derived.Test.YtdepmlcnllofiaaGreatDoorSpPh
import Derived.Test.YtdepmlcnllofiaaGreatDoorSpPi
import Derived.Test.YtdepmlcnllofiaaGreatDoorSpPj
import Derived.Test.YtdepmlcnllofiaaGreatDoorSpPk
import Derived.Test.YtdepmlcnllofiaaGreatDoorSpPl
import Derived.Test.YtdepmlcnllofiaaGreatDoorSpPm
import Derived.Test.YtdepmlcnllofiaaGreatDoorSpPn
import Derived.Test.YtdepmlcnllofiaaGreatDoorSpPo
import Derived.Test.YtdepmlcnllofiaaGreatDoorEnvQ
import Derived.Test.YtdepmlcnllofiaaGreatDoorTmod
namespace Go.Proofs.YtdepmlcnllofiaaGreatDoor.SpP
open Go.EY Go.EX Go.SX Go.RowKit Env
theorem all_0 (q0 q1 c1a c1b c2a c2b : AV) (i1 : Nat) (h1 : i1 < 15) (b : Bool) : okT (Sp.g5 c1a c1b (.lit (.int .i64 (.ofNat 0))) c2a c2b (.lit (.int .i64 (.ofNat i1))) [] q0 q1 (.lit (.bool b)) .nil 1) = true := by
  match i1, h1 with
  | 0, _ => cases b with
    | false => exact Sp.runP_0_0_f q0 q1 c1a c1b c2a c2b
    | true => exact Sp.runP_0_0_t q0 q1 c1a c1b c2a c2b
  | 1, _ => cases b with
    | false => exact Sp.runP_0_1_f q0 q1 c1a c1b c2a c2b
    | true => exact Sp.runP_0_1_t q0 q1 c1a c1b c2a c2b
  | 2, _ => cases b with
    | false => exact Sp.runP_0_2_f q0 q1 c1a c1b c2a c2b
    | true => exact Sp.runP_0_2_t q0 q1 c1a c1b c2a c2b
  | 3, _ => cases b with
    | false => exact Sp.runP_0_3_f q0 q1 c1a c1b c2a c2b
    | true => exact Sp.runP_0_3_t q0 q1 c1a c1b c2a c2b
  | 4, _ => cases b with
    | false => exact Sp.runP_0_4_f q0 q1 c1a c1b c2a c2b
    | true => exact Sp.runP_0_4_t q0 q1 c1a c1b c2a c2b
  | 5, _ => cases b with
    | false => exact Sp.runP_0_5_f q0 q1 c1a c1b c2a c2b
    | true => exact Sp.runP_0_5_t q0 q1 c1a c1b c2a c2b
  | 6, _ => cases b with
    | false => exact Sp.runP_0_6_f q0 q1 c1a c1b c2a c2b
    | true => exact Sp.runP_0_6_t q0 q1 c1a c1b c2a c2b
  | 7, _ => cases b with
    | false => exact Sp.runP_0_7_f q0 q1 c1a c1b c2a c2b
    | true => exact Sp.runP_0_7_t q0 q1 c1a c1b c2a c2b
  | 8, _ => cases b with
    | false => exact Sp.runP_0_8_f q0 q1 c1a c1b c2a c2b
    | true => exact Sp.runP_0_8_t q0 q1 c1a c1b c2a c2b
  | 9, _ => cases b with
    | false => exact Sp.runP_0_9_f q0 q1 c1a c1b c2a c2b
    | true => exact Sp.runP_0_9_t q0 q1 c1a c1b c2a c2b
  | 10, _ => cases b with
    | false => exact Sp.runP_0_10_f q0 q1 c1a c1b c2a c2b
    | true => exact Sp.runP_0_10_t q0 q1 c1a c1b c2a c2b
  | 11, _ => cases b with
    | false => exact Sp.runP_0_11_f q0 q1 c1a c1b c2a c2b
    | true => exact Sp.runP_0_11_t q0 q1 c1a c1b c2a c2b
  | 12, _ => cases b with
    | false => exact Sp.runP_0_12_f q0 q1 c1a c1b c2a c2b
    | true => exact Sp.runP_0_12_t q0 q1 c1a c1b c2a c2b
  | 13, _ => cases b with
    | false => exact Sp.runP_0_13_f q0 q1 c1a c1b c2a c2b
    | true => exact Sp.runP_0_13_t q0 q1 c1a c1b c2a c2b
  | 14, _ => cases b with
    | false => exact Sp.runP_0_14_f q0 q1 c1a c1b c2a c2b
    | true => exact Sp.runP_0_14_t q0 q1 c1a c1b c2a c2b
  | _ + 15, h => exact absurd h (by omega)
theorem all_1 (q0 q1 c1a c1b c2a c2b : AV) (i1 : Nat) (h1 : i1 < 15) (b : Bool) : okT (Sp.g5 c1a c1b (.lit (.int .i64 (.ofNat 1))) c2a c2b (.lit (.int .i64 (.ofNat i1))) [] q0 q1 (.lit (.bool b)) .nil 1) = true := by
  match i1, h1 with
  | 0, _ => cases b with
    | false => exact Sp.runP_1_0_f q0 q1 c1a c1b c2a c2b
    | true => exact Sp.runP_1_0_t q0 q1 c1a c1b c2a c2b
  | 1, _ => cases b with
    | false => exact Sp.runP_1_1_f q0 q1 c1a c1b c2a c2b
    | true => exact Sp.runP_1_1_t q0 q1 c1a c1b c2a c2b
  | 2, _ => cases b with
    | false => exact Sp.runP_1_2_f q0 q1 c1a c1b c2a c2b
    | true => exact Sp.runP_1_2_t q0 q1 c1a c1b c2a c2b
  | 3, _ => cases b with
    | false => exact Sp.runP_1_3_f q0 q1 c1a c1b c2a c2b
    | true => exact Sp.runP_1_3_t q0 q1 c1a c1b c2a c2b
  | 4, _ => cases b with
    | false => exact Sp.runP_1_4_f q0 q1 c1a c1b c2a c2b
    | true => exact Sp.runP_1_4_t q0 q1 c1a c1b c2a c2b
  | 5, _ => cases b with
    | false => exact Sp.runP_1_5_f q0 q1 c1a c1b c2a c2b
    | true => exact Sp.runP_1_5_t q0 q1 c1a c1b c2a c2b
  | 6, _ => cases b with
    | false => exact Sp.runP_1_6_f q0 q1 c1a c1b c2a c2b
    | true => exact Sp.runP_1_6_t q0 q1 c1a c1b c2a c2b
  | 7, _ => cases b with
    | false => exact Sp.runP_1_7_f q0 q1 c1a c1b c2a c2b
    | true => exact Sp.runP_1_7_t q0 q1 c1a c1b c2a c2b
  | 8, _ => cases b with
    | false => exact Sp.runP_1_8_f q0 q1 c1a c1b c2a c2b
    | true => exact Sp.runP_1_8_t q0 q1 c1a c1b c2a c2b
  | 9, _ => cases b with
    | false => exact Sp.runP_1_9_f q0 q1 c1a c1b c2a c2b
    | true => exact Sp.runP_1_9_t q0 q1 c1a c1b c2a c2b
  | 10, _ => cases b with
    | false => exact Sp.runP_1_10_f q0 q1 c1a c1b c2a c2b
    | true => exact Sp.runP_1_10_t q0 q1 c1a c1b c2a c2b
  | 11, _ => cases b with
    | false => exact Sp.runP_1_11_f q0 q1 c1a c1b c2a c2b
    | true => exact Sp.runP_1_11_t q0 q1 c1a c1b c2a c2b
  | 12, _ => cases b with
    | false => exact Sp.runP_1_12_f q0 q1 c1a c1b c2a c2b
    | true => exact Sp.runP_1_12_t q0 q1 c1a c1b c2a c2b
  | 13, _ => cases b with
    | false => exact Sp.runP_1_13_f q0 q1 c1a c1b c2a c2b
    | true => exact Sp.runP_1_13_t q0 q1 c1a c1b c2a c2b
  | 14, _ => cases b with
    | false => exact Sp.runP_1_14_f q0 q1 c1a c1b c2a c2b
    | true => exact Sp.runP_1_14_t q0 q1 c1a c1b c2a c2b
  | _ + 15, h => exact absurd h (by omega)
theorem all_2 (q0 q1 c1a c1b c2a c2b : AV) (i1 : Nat) (h1 : i1 < 15) (b : Bool) : okT (Sp.g5 c1a c1b (.lit (.int .i64 (.ofNat 2))) c2a c2b (.lit (.int .i64 (.ofNat i1))) [] q0 q1 (.lit (.bool b)) .nil 1) = true := by
  match i1, h1 with
  | 0, _ => cases b with
    | false => exact Sp.runP_2_0_f q0 q1 c1a c1b c2a c2b
    | true => exact Sp.runP_2_0_t q0 q1 c1a c1b c2a c2b
  | 1, _ => cases b with
    | false => exact Sp.runP_2_1_f q0 q1 c1a c1b c2a c2b
    | true => exact Sp.runP_2_1_t q0 q1 c1a c1b c2a c2b
  | 2, _ => cases b with
    | false => exact Sp.runP_2_2_f q0 q1 c1a c1b c2a c2b
    | true => exact Sp.runP_2_2_t q0 q1 c1a c1b c2a c2b
  | 3, _ => cases b with
    | false => exact Sp.runP_2_3_f q0 q1 c1a c1b c2a c2b
    | true => exact Sp.runP_2_3_t q0 q1 c1a c1b c2a c2b
  | 4, _ => cases b with
    | false => exact Sp.runP_2_4_f q0 q1 c1a c1b c2a c2b
    | true => exact Sp.runP_2_4_t q0 q1 c1a c1b c2a c2b
  | 5, _ => cases b with
    | false => exact Sp.runP_2_5_f q0 q1 c1a c1b c2a c2b
    | true => exact Sp.runP_2_5_t q0 q1 c1a c1b c2a c2b
  | 6, _ => cases b with
    | false => exact Sp.runP_2_6_f q0 q1 c1a c1b c2a c2b
    | true => exact Sp.runP_2_6_t q0 q1 c1a c1b c2a c2b
  | 7, _ => cases b with
    | false => exact Sp.runP_2_7_f q0 q1 c1a c1b c2a c2b
    | true => exact Sp.runP_2_7_t q0 q1 c1a c1b c2a c2b
  | 8, _ => cases b with
    | false => exact Sp.runP_2_8_f q0 q1 c1a c1b c2a c2b
    | true => exact Sp.runP_2_8_t q0 q1 c1a c1b c2a c2b
  | 9, _ => cases b with
    | false => exact Sp.runP_2_9_f q0 q1 c1a c1b c2a c2b
    | true => exact Sp.runP_2_9_t q0 q1 c1a c1b c2a c2b
  | 10, _ => cases b with
    | false => exact Sp.runP_2_10_f q0 q1 c1a c1b c2a c2b
    | true => exact Sp.runP_2_10_t q0 q1 c1a c1b c2a c2b
  | 11, _ => cases b with
    | false => exact Sp.runP_2_11_f q0 q1 c1a c1b c2a c2b
    | true => exact Sp.runP_2_11_t q0 q1 c1a c1b c2a c2b
  | 12, _ => cases b with
    | false => exact Sp.runP_2_12_f q0 q1 c1a c1b c2a c2b
    | true => exact Sp.runP_2_12_t q0 q1 c1a c1b c2a c2b
  | 13, _ => cases b with
    | false => exact Sp.runP_2_13_f q0 q1 c1a c1b c2a c2b
    | true => exact Sp.runP_2_13_t q0 q1 c1a c1b c2a c2b
  | 14, _ => cases b with
    | false => exact Sp.runP_2_14_f q0 q1 c1a c1b c2a c2b
    | true => exact Sp.runP_2_14_t q0 q1 c1a c1b c2a c2b
  | _ + 15, h => exact absurd h (by omega)
theorem all_3 (q0 q1 c1a c1b c2a c2b : AV) (i1 : Nat) (h1 : i1 < 15) (b : Bool) : okT (Sp.g5 c1a c1b (.lit (.int .i64 (.ofNat 3))) c2a c2b (.lit (.int .i64 (.ofNat i1))) [] q0 q1 (.lit (.bool b)) .nil 1) = true := by
  match i1, h1 with
  | 0, _ => cases b with
    | false => exact Sp.runP_3_0_f q0 q1 c1a c1b c2a c2b
    | true => exact Sp.runP_3_0_t q0 q1 c1a c1b c2a c2b
  | 1, _ => cases b with
    | false => exact Sp.runP_3_1_f q0 q1 c1a c1b c2a c2b
    | true => exact Sp.runP_3_1_t q0 q1 c1a c1b c2a c2b
  | 2, _ => cases b with
    | false => exact Sp.runP_3_2_f q0 q1 c1a c1b c2a c2b
    | true => exact Sp.runP_3_2_t q0 q1 c1a c1b c2a c2b
  | 3, _ => cases b with
    | false => exact Sp.runP_3_3_f q0 q1 c1a c1b c2a c2b
    | true => exact Sp.runP_3_3_t q0 q1 c1a c1b c2a c2b
  | 4, _ => cases b with
    | false => exact Sp.runP_3_4_f q0 q1 c1a c1b c2a c2b
    | true => exact Sp.runP_3_4_t q0 q1 c1a c1b c2a c2b
  | 5, _ => cases b with
    | false => exact Sp.runP_3_5_f q0 q1 c1a c1b c2a c2b
    | true => exact Sp.runP_3_5_t q0 q1 c1a c1b c2a c2b
  | 6, _ => cases b with
    | false => exact Sp.runP_3_6_f q0 q1 c1a c1b c2a c2b
    | true => exact Sp.runP_3_6_t q0 q1 c1a c1b c2a c2b
  | 7, _ => cases b with
    | false => exact Sp.runP_3_7_f q0 q1 c1a c1b c2a c2b
    | true => exact Sp.runP_3_7_t q0 q1 c1a c1b c2a c2b
  | 8, _ => cases b with
    | false => exact Sp.runP_3_8_f q0 q1 c1a c1b c2a c2b
    | true => exact Sp.runP_3_8_t q0 q1 c1a c1b c2a c2b
  | 9, _ => cases b with
    | false => exact Sp.runP_3_9_f q0 q1 c1a c1b c2a c2b
    | true => exact Sp.runP_3_9_t q0 q1 c1a c1b c2a c2b
  | 10, _ => cases b with
    | false => exact Sp.runP_3_10_f q0 q1 c1a c1b c2a c2b
    | true => exact Sp.runP_3_10_t q0 q1 c1a c1b c2a c2b
  | 11, _ => cases b with
    | false => exact Sp.runP_3_11_f q0 q1 c1a c1b c2a c2b
    | true => exact Sp.runP_3_11_t q0 q1 c1a c1b c2a c2b
  | 12, _ => cases b with
    | false => exact Sp.runP_3_12_f q0 q1 c1a c1b c2a c2b
    | true => exact Sp.runP_3_12_t q0 q1 c1a c1b c2a c2b
  | 13, _ => cases b with
    | false => exact Sp.runP_3_13_f q0 q1 c1a c1b c2a c2b
    | true => exact Sp.runP_3_13_t q0 q1 c1a c1b c2a c2b
  | 14, _ => cases b with
    | false => exact Sp.runP_3_14_f q0 q1 c1a c1b c2a c2b
    | true => exact Sp.runP_3_14_t q0 q1 c1a c1b c2a c2b
  | _ + 15, h => exact absurd h (by omega)
theorem all_4 (q0 q1 c1a c1b c2a c2b : AV) (i1 : Nat) (h1 : i1 < 15) (b : Bool) : okT (Sp.g5 c1a c1b (.lit (.int .i64 (.ofNat 4))) c2a c2b (.lit (.int .i64 (.ofNat i1))) [] q0 q1 (.lit (.bool b)) .nil 1) = true := by
  match i1, h1 with
  | 0, _ => cases b with
    | false => exact Sp.runP_4_0_f q0 q1 c1a c1b c2a c2b
    | true => exact Sp.runP_4_0_t q0 q1 c1a c1b c2a c2b
  | 1, _ => cases b with
    | false => exact Sp.runP_4_1_f q0 q1 c1a c1b c2a c2b
    | true => exact Sp.runP_4_1_t q0 q1 c1a c1b c2a c2b
  | 2, _ => cases b with
    | false => exact Sp.runP_4_2_f q0 q1 c1a c1b c2a c2b
    | true => exact Sp.runP_4_2_t q0 q1 c1a c1b c2a c2b
  | 3, _ => cases b with
    | false => exact Sp.runP_4_3_f q0 q1 c1a c1b c2a c2b
    | true => exact Sp.runP_4_3_t q0 q1 c1a c1b c2a c2b
  | 4, _ => cases b with
    | false => exact Sp.runP_4_4_f q0 q1 c1a c1b c2a c2b
    | true => exact Sp.runP_4_4_t q0 q1 c1a c1b c2a c2b
  | 5, _ => cases b with
    | false => exact Sp.runP_4_5_f q0 q1 c1a c1b c2a c2b
    | true => exact Sp.runP_4_5_t q0 q1 c1a c1b c2a c2b
  | 6, _ => cases b with
    | false => exact Sp.runP_4_6_f q0 q1 c1a c1b c2a c2b
    | true => exact Sp.runP_4_6_t q0 q1 c1a c1b c2a c2b
  | 7, _ => cases b with
    | false => exact Sp.runP_4_7_f q0 q1 c1a c1b c2a c2b
    | true => exact Sp.runP_4_7_t q0 q1 c1a c1b c2a c2b
  | 8, _ => cases b with
    | false => exact Sp.runP_4_8_f q0 q1 c1a c1b c2a c2b
    | true => exact Sp.runP_4_8_t q0 q1 c1a c1b c2a c2b
  | 9, _ => cases b with
    | false => exact Sp.runP_4_9_f q0 q1 c1a c1b c2a c2b
    | true => exact Sp.runP_4_9_t q0 q1 c1a c1b c2a c2b
  | 10, _ => cases b with
    | false => exact Sp.runP_4_10_f q0 q1 c1a c1b c2a c2b
    | true => exact Sp.runP_4_10_t q0 q1 c1a c1b c2a c2b
  | 11, _ => cases b with
    | false => exact Sp.runP_4_11_f q0 q1 c1a c1b c2a c2b
    | true => exact Sp.runP_4_11_t q0 q1 c1a c1b c2a c2b
  | 12, _ => cases b with
    | false => exact Sp.runP_4_12_f q0 q1 c1a c1b c2a c2b
    | true => exact Sp.runP_4_12_t q0 q1 c1a c1b c2a c2b
  | 13, _ => cases b with
    | false => exact Sp.runP_4_13_f q0 q1 c1a c1b c2a c2b
    | true => exact Sp.runP_4_13_t q0 q1 c1a c1b c2a c2b
  | 14, _ => cases b with
    | false => exact Sp.runP_4_14_f q0 q1 c1a c1b c2a c2b
    | true => exact Sp.runP_4_14_t q0 q1 c1a c1b c2a c2b
  | _ + 15, h => exact absurd h (by omega)
theorem all_5 (q0 q1 c1a c1b c2a c2b : AV) (i1 : Nat) (h1 : i1 < 15) (b : Bool) : okT (Sp.g5 c1a c1b (.lit (.int .i64 (.ofNat 5))) c2a c2b (.lit (.int .i64 (.ofNat i1))) [] q0 q1 (.lit (.bool b)) .nil 1) = true := by
  match i1, h1 with
  | 0, _ => cases b with
    | false => exact Sp.runP_5_0_f q0 q1 c1a c1b c2a c2b
    | true => exact Sp.runP_5_0_t q0 q1 c1a c1b c2a c2b
  | 1, _ => cases b with
    | false => exact Sp.runP_5_1_f q0 q1 c1a c1b c2a c2b
    | true => exact Sp.runP_5_1_t q0 q1 c1a c1b c2a c2b
  | 2, _ => cases b with
    | false => exact Sp.runP_5_2_f q0 q1 c1a c1b c2a c2b
    | true => exact Sp.runP_5_2_t q0 q1 c1a c1b c2a c2b
  | 3, _ => cases b with
    | false => exact Sp.runP_5_3_f q0 q1 c1a c1b c2a c2b
    | true => exact Sp.runP_5_3_t q0 q1 c1a c1b c2a c2b
  | 4, _ => cases b with
    | false => exact Sp.runP_5_4_f q0 q1 c1a c1b c2a c2b
    | true => exact Sp.runP_5_4_t q0 q1 c1a c1b c2a c2b
  | 5, _ => cases b with
    | false => exact Sp.runP_5_5_f q0 q1 c1a c1b c2a c2b
    | true => exact Sp.runP_5_5_t q0 q1 c1a c1b c2a c2b
  | 6, _ => cases b with
    | false => exact Sp.runP_5_6_f q0 q1 c1a c1b c2a c2b
    | true => exact Sp.runP_5_6_t q0 q1 c1a c1b c2a c2b
  | 7, _ => cases b with
    | false => exact Sp.runP_5_7_f q0 q1 c1a c1b c2a c2b
    | true => exact Sp.runP_5_7_t q0 q1 c1a c1b c2a c2b
  | 8, _ => cases b with
    | false => exact Sp.runP_5_8_f q0 q1 c1a c1b c2a c2b
    | true => exact Sp.runP_5_8_t q0 q1 c1a c1b c2a c2b
  | 9, _ => cases b with
    | false => exact Sp.runP_5_9_f q0 q1 c1a c1b c2a c2b
    | true => exact Sp.runP_5_9_t q0 q1 c1a c1b c2a c2b
  | 10, _ => cases b with
    | false => exact Sp.runP_5_10_f q0 q1 c1a c1b c2a c2b
    | true => exact Sp.runP_5_10_t q0 q1 c1a c1b c2a c2b
  | 11, _ => cases b with
    | false => exact Sp.runP_5_11_f q0 q1 c1a c1b c2a c2b
    | true => exact Sp.runP_5_11_t q0 q1 c1a c1b c2a c2b
  | 12, _ => cases b with
    | false => exact Sp.runP_5_12_f q0 q1 c1a c1b c2a c2b
    | true => exact Sp.runP_5_12_t q0 q1 c1a c1b c2a c2b
  | 13, _ => cases b with
    | false => exact Sp.runP_5_13_f q0 q1 c1a c1b c2a c2b
    | true => exact Sp.runP_5_13_t q0 q1 c1a c1b c2a c2b
  | 14, _ => cases b with
    | false => exact Sp.runP_5_14_f q0 q1 c1a c1b c2a c2b
    | true => exact Sp.runP_5_14_t q0 q1 c1a c1b c2a c2b
  | _ + 15, h => exact absurd h (by omega)
theorem all_6 (q0 q1 c1a c1b c2a c2b : AV) (i1 : Nat) (h1 : i1 < 15) (b : Bool) : okT (Sp.g5 c1a c1b (.lit (.int .i64 (.ofNat 6))) c2a c2b (.lit (.int .i64 (.ofNat i1))) [] q0 q1 (.lit (.bool b)) .nil 1) = true := by
  match i1, h1 with
  | 0, _ => cases b with
    | false => exact Sp.runP_6_0_f q0 q1 c1a c1b c2a c2b
    | true => exact Sp.runP_6_0_t q0 q1 c1a c1b c2a c2b
  | 1, _ => cases b with
    | false => exact Sp.runP_6_1_f q0 q1 c1a c1b c2a c2b
    | true => exact Sp.runP_6_1_t q0 q1 c1a c1b c2a c2b
  | 2, _ => cases b with
    | false => exact Sp.runP_6_2_f q0 q1 c1a c1b c2a c2b
    | true => exact Sp.runP_6_2_t q0 q1 c1a c1b c2a c2b
  | 3, _ => cases b with
    | false => exact Sp.runP_6_3_f q0 q1 c1a c1b c2a c2b
    | true => exact Sp.runP_6_3_t q0 q1 c1a c1b c2a c2b
  | 4, _ => cases b with
    | false => exact Sp.runP_6_4_f q0 q1 c1a c1b c2a c2b
    | true => exact Sp.runP_6_4_t q0 q1 c1a c1b c2a c2b
  | 5, _ => cases b with
    | false => exact Sp.runP_6_5_f q0 q1 c1a c1b c2a c2b
    | true => exact Sp.runP_6_5_t q0 q1 c1a c1b c2a c2b
  | 6, _ => cases b with
    | false => exact Sp.runP_6_6_f q0 q1 c1a c1b c2a c2b
    | true => exact Sp.runP_6_6_t q0 q1 c1a c1b c2a c2b
  | 7, _ => cases b with
    | false => exact Sp.runP_6_7_f q0 q1 c1a c1b c2a c2b
    | true => exact Sp.runP_6_7_t q0 q1 c1a c1b c2a c2b
  | 8, _ => cases b with
    | false => exact Sp.runP_6_8_f q0 q1 c1a c1b c2a c2b
    | true => exact Sp.runP_6_8_t q0 q1 c1a c1b c2a c2b
  | 9, _ => cases b with
    | false => exact Sp.runP_6_9_f q0 q1 c1a c1b c2a c2b
    | true => exact Sp.runP_6_9_t q0 q1 c1a c1b c2a c2b
  | 10, _ => cases b with
    | false => exact Sp.runP_6_10_f q0 q1 c1a c1b c2a c2b
    | true => exact Sp.runP_6_10_t q0 q1 c1a c1b c2a c2b
  | 11, _ => cases b with
    | false => exact Sp.runP_6_11_f q0 q1 c1a c1b c2a c2b
    | true => exact Sp.runP_6_11_t q0 q1 c1a c1b c2a c2b
  | 12, _ => cases b with
    | false => exact Sp.runP_6_12_f q0 q1 c1a c1b c2a c2b
    | true => exact Sp.runP_6_12_t q0 q1 c1a c1b c2a c2b
  | 13, _ => cases b with
    | false => exact Sp.runP_6_13_f q0 q1 c1a c1b c2a c2b
    | true => exact Sp.runP_6_13_t q0 q1 c1a c1b c2a c2b
  | 14, _ => cases b with
    | false => exact Sp.runP_6_14_f q0 q1 c1a c1b c2a c2b
    | true => exact Sp.runP_6_14_t q0 q1 c1a c1b c2a c2b
  | _ + 15, h => exact absurd h (by omega)
theorem all_7 (q0 q1 c1a c1b c2a c2b : AV) (i1 : Nat) (h1 : i1 < 15) (b : Bool) : okT (Sp.g5 c1a c1b (.lit (.int .i64 (.ofNat 7))) c2a c2b (.lit (.int .i64 (.ofNat i1))) [] q0 q1 (.lit (.bool b)) .nil 1) = true := by
  match i1, h1 with
  | 0, _ => cases b with
    | false => exact Sp.runP_7_0_f q0 q1 c1a c1b c2a c2b
    | true => exact Sp.runP_7_0_t q0 q1 c1a c1b c2a c2b
  | 1, _ => cases b with
    | false => exact Sp.runP_7_1_f q0 q1 c1a c1b c2a c2b
    | true => exact Sp.runP_7_1_t q0 q1 c1a c1b c2a c2b
  | 2, _ => cases b with
    | false => exact Sp.runP_7_2_f q0 q1 c1a c1b c2a c2b
    | true => exact Sp.runP_7_2_t q0 q1 c1a c1b c2a c2b
  | 3, _ => cases b with
    | false => exact Sp.runP_7_3_f q0 q1 c1a c1b c2a c2b
    | true => exact Sp.runP_7_3_t q0 q1 c1a c1b c2a c2b
  | 4, _ => cases b with
    | false => exact Sp.runP_7_4_f q0 q1 c1a c1b c2a c2b
    | true => exact Sp.runP_7_4_t q0 q1 c1a c1b c2a c2b
  | 5, _ => cases b with
    | false => exact Sp.runP_7_5_f q0 q1 c1a c1b c2a c2b
    | true => exact Sp.runP_7_5_t q0 q1 c1a c1b c2a c2b
  | 6, _ => cases b with
    | false => exact Sp.runP_7_6_f q0 q1 c1a c1b c2a c2b
    | true => exact Sp.runP_7_6_t q0 q1 c1a c1b c2a c2b
  | 7, _ => cases b with
    | false => exact Sp.runP_7_7_f q0 q1 c1a c1b c2a c2b
    | true => exact Sp.runP_7_7_t q0 q1 c1a c1b c2a c2b
  | 8, _ => cases b with
    | false => exact Sp.runP_7_8_f q0 q1 c1a c1b c2a c2b
    | true => exact Sp.runP_7_8_t q0 q1 c1a c1b c2a c2b
  | 9, _ => cases b with
    | false => exact Sp.runP_7_9_f q0 q1 c1a c1b c2a c2b
    | true => exact Sp.runP_7_9_t q0 q1 c1a c1b c2a c2b
  | 10, _ => cases b with
    | false => exact Sp.runP_7_10_f q0 q1 c1a c1b c2a c2b
    | true => exact Sp.runP_7_10_t q0 q1 c1a c1b c2a c2b
  | 11, _ => cases b with
    | false => exact Sp.runP_7_11_f q0 q1 c1a c1b c2a c2b
    | true => exact Sp.runP_7_11_t q0 q1 c1a c1b c2a c2b
  | 12, _ => cases b with
    | false => exact Sp.runP_7_12_f q0 q1 c1a c1b c2a c2b
    | true => exact Sp.runP_7_12_t q0 q1 c1a c1b c2a c2b
  | 13, _ => cases b with
    | false => exact Sp.runP_7_13_f q0 q1 c1a c1b c2a c2b
    | true => exact Sp.runP_7_13_t q0 q1 c1a c1b c2a c2b
  | 14, _ => cases b with
    | false => exact Sp.runP_7_14_f q0 q1 c1a c1b c2a c2b
    | true => exact Sp.runP_7_14_t q0 q1 c1a c1b c2a c2b
  | _ + 15, h => exact absurd h (by omega)
theorem all_8 (q0 q1 c1a c1b c2a c2b : AV) (i1 : Nat) (h1 : i1 < 15) (b : Bool) : okT (Sp.g5 c1a c1b (.lit (.int .i64 (.ofNat 8))) c2a c2b (.lit (.int .i64 (.ofNat i1))) [] q0 q1 (.lit (.bool b)) .nil 1) = true := by
  match i1, h1 with
  | 0, _ => cases b with
    | false => exact Sp.runP_8_0_f q0 q1 c1a c1b c2a c2b
    | true => exact Sp.runP_8_0_t q0 q1 c1a c1b c2a c2b
  | 1, _ => cases b with
    | false => exact Sp.runP_8_1_f q0 q1 c1a c1b c2a c2b
    | true => exact Sp.runP_8_1_t q0 q1 c1a c1b c2a c2b
  | 2, _ => cases b with
    | false => exact Sp.runP_8_2_f q0 q1 c1a c1b c2a c2b
    | true => exact Sp.runP_8_2_t q0 q1 c1a c1b c2a c2b
  | 3, _ => cases b with
    | false => exact Sp.runP_8_3_f q0 q1 c1a c1b c2a c2b
    | true => exact Sp.runP_8_3_t q0 q1 c1a c1b c2a c2b
  | 4, _ => cases b with
    | false => exact Sp.runP_8_4_f q0 q1 c1a c1b c2a c2b
    | true => exact Sp.runP_8_4_t q0 q1 c1a c1b c2a c2b
  | 5, _ => cases b with
    | false => exact Sp.runP_8_5_f q0 q1 c1a c1b c2a c2b
    | true => exact Sp.runP_8_5_t q0 q1 c1a c1b c2a c2b
  | 6, _ => cases b with
    | false => exact Sp.runP_8_6_f q0 q1 c1a c1b c2a c2b
    | true => exact Sp.runP_8_6_t q0 q1 c1a c1b c2a c2b
  | 7, _ => cases b with
    | false => exact Sp.runP_8_7_f q0 q1 c1a c1b c2a c2b
    | true => exact Sp.runP_8_7_t q0 q1 c1a c1b c2a c2b
  | 8, _ => cases b with
    | false => exact Sp.runP_8_8_f q0 q1 c1a c1b c2a c2b
    | true => exact Sp.runP_8_8_t q0 q1 c1a c1b c2a c2b
  | 9, _ => cases b with
    | false => exact Sp.runP_8_9_f q0 q1 c1a c1b c2a c2b
    | true => exact Sp.runP_8_9_t q0 q1 c1a c1b c2a c2b
  | 10, _ => cases b with
    | false => exact Sp.runP_8_10_f q0 q1 c1a c1b c2a c2b
    | true => exact Sp.runP_8_10_t q0 q1 c1a c1b c2a c2b
  | 11, _ => cases b with
    | false => exact Sp.runP_8_11_f q0 q1 c1a c1b c2a c2b
    | true => exact Sp.runP_8_11_t q0 q1 c1a c1b c2a c2b
  | 12, _ => cases b with
    | false => exact Sp.runP_8_12_f q0 q1 c1a c1b c2a c2b
    | true => exact Sp.runP_8_12_t q0 q1 c1a c1b c2a c2b
  | 13, _ => cases b with
    | false => exact Sp.runP_8_13_f q0 q1 c1a c1b c2a c2b
    | true => exact Sp.runP_8_13_t q0 q1 c1a c1b c2a c2b
  | 14, _ => cases b with
    | false => exact Sp.runP_8_14_f q0 q1 c1a c1b c2a c2b
    | true => exact Sp.runP_8_14_t q0 q1 c1a c1b c2a c2b
  | _ + 15, h => exact absurd h (by omega)
theorem all_9 (q0 q1 c1a c1b c2a c2b : AV) (i1 : Nat) (h1 : i1 < 15) (b : Bool) : okT (Sp.g5 c1a c1b (.lit (.int .i64 (.ofNat 9))) c2a c2b (.lit (.int .i64 (.ofNat i1))) [] q0 q1 (.lit (.bool b)) .nil 1) = true := by
  match i1, h1 with
  | 0, _ => cases b with
    | false => exact Sp.runP_9_0_f q0 q1 c1a c1b c2a c2b
    | true => exact Sp.runP_9_0_t q0 q1 c1a c1b c2a c2b
  | 1, _ => cases b with
    | false => exact Sp.runP_9_1_f q0 q1 c1a c1b c2a c2b
    | true => exact Sp.runP_9_1_t q0 q1 c1a c1b c2a c2b
  | 2, _ => cases b with
    | false => exact Sp.runP_9_2_f q0 q1 c1a c1b c2a c2b
    | true => exact Sp.runP_9_2_t q0 q1 c1a c1b c2a c2b
  | 3, _ => cases b with
    | false => exact Sp.runP_9_3_f q0 q1 c1a c1b c2a c2b
    | true => exact Sp.runP_9_3_t q0 q1 c1a c1b c2a c2b
  | 4, _ => cases b with
    | false => exact Sp.runP_9_4_f q0 q1 c1a c1b c2a c2b
    | true => exact Sp.runP_9_4_t q0 q1 c1a c1b c2a c2b
  | 5, _ => cases b with
    | false => exact Sp.runP_9_5_f q0 q1 c1a c1b c2a c2b
    | true => exact Sp.runP_9_5_t q0 q1 c1a c1b c2a c2b
  | 6, _ => cases b with
    | false => exact Sp.runP_9_6_f q0 q1 c1a c1b c2a c2b
    | true => exact Sp.runP_9_6_t q0 q1 c1a c1b c2a c2b
  | 7, _ => cases b with
    | false => exact Sp.runP_9_7_f q0 q1 c1a c1b c2a c2b
    | true => exact Sp.runP_9_7_t q0 q1 c1a c1b c2a c2b
  | 8, _ => cases b with
    | false => exact Sp.runP_9_8_f q0 q1 c1a c1b c2a c2b
    | true => exact Sp.runP_9_8_t q0 q1 c1a c1b c2a c2b
  | 9, _ => cases b with
    | false => exact Sp.runP_9_9_f q0 q1 c1a c1b c2a c2b
    | true => exact Sp.runP_9_9_t q0 q1 c1a c1b c2a c2b
  | 10, _ => cases b with
    | false => exact Sp.runP_9_10_f q0 q1 c1a c1b c2a c2b
    | true => exact Sp.runP_9_10_t q0 q1 c1a c1b c2a c2b
  | 11, _ => cases b with
    | false => exact Sp.runP_9_11_f q0 q1 c1a c1b c2a c2b
    | true => exact Sp.runP_9_11_t q0 q1 c1a c1b c2a c2b
  | 12, _ => cases b with
    | false => exact Sp.runP_9_12_f q0 q1 c1a c1b c2a c2b
    | true => exact Sp.runP_9_12_t q0 q1 c1a c1b c2a c2b
  | 13, _ => cases b with
    | false => exact Sp.runP_9_13_f q0 q1 c1a c1b c2a c2b
    | true => exact Sp.runP_9_13_t q0 q1 c1a c1b c2a c2b
  | 14, _ => cases b with
    | false => exact Sp.runP_9_14_f q0 q1 c1a c1b c2a c2b
    | true => exact Sp.runP_9_14_t q0 q1 c1a c1b c2a c2b
  | _ + 15, h => exact absurd h (by omega)
theorem all_10 (q0 q1 c1a c1b c2a c2b : AV) (i1 : Nat) (h1 : i1 < 15) (b : Bool) : okT (Sp.g5 c1a c1b (.lit (.int .i64 (.ofNat 10))) c2a c2b (.lit (.int .i64 (.ofNat i1))) [] q0 q1 (.lit (.bool b)) .nil 1) = true := by
  match i1, h1 with
  | 0, _ => cases b with
    | false => exact Sp.runP_10_0_f q0 q1 c1a c1b c2a c2b
    | true => exact Sp.runP_10_0_t q0 q1 c1a c1b c2a c2b
  | 1, _ => cases b with
    | false => exact Sp.runP_10_1_f q0 q1 c1a c1b c2a c2b
    | true => exact Sp.runP_10_1_t q0 q1 c1a c1b c2a c2b
  | 2, _ => cases b with
    | false => exact Sp.runP_10_2_f q0 q1 c1a c1b c2a c2b
    | true => exact Sp.runP_10_2_t q0 q1 c1a c1b c2a c2b
  | 3, _ => cases b with
    | false => exact Sp.runP_10_3_f q0 q1 c1a c1b c2a c2b
    | true => exact Sp.runP_10_3_t q0 q1 c1a c1b c2a c2b
  | 4, _ => cases b with
    | false => exact Sp.runP_10_4_f q0 q1 c1a c1b c2a c2b
    | true => exact Sp.runP_10_4_t q0 q1 c1a c1b c2a c2b
  | 5, _ => cases b with
    | false => exact Sp.runP_10_5_f q0 q1 c1a c1b c2a c2b
    | true => exact Sp.runP_10_5_t q0 q1 c1a c1b c2a c2b
  | 6, _ => cases b with
    | false => exact Sp.runP_10_6_f q0 q1 c1a c1b c2a c2b
    | true => exact Sp.runP_10_6_t q0 q1 c1a c1b c2a c2b
  | 7, _ => cases b with
    | false => exact Sp.runP_10_7_f q0 q1 c1a c1b c2a c2b
    | true => exact Sp.runP_10_7_t q0 q1 c1a c1b c2a c2b
  | 8, _ => cases b with
    | false => exact Sp.runP_10_8_f q0 q1 c1a c1b c2a c2b
    | true => exact Sp.runP_10_8_t q0 q1 c1a c1b c2a c2b
  | 9, _ => cases b with
    | false => exact Sp.runP_10_9_f q0 q1 c1a c1b c2a c2b
    | true => exact Sp.runP_10_9_t q0 q1 c1a c1b c2a c2b
  | 10, _ => cases b with
    | false => exact Sp.runP_10_10_f q0 q1 c1a c1b c2a c2b
    | true => exact Sp.runP_10_10_t q0 q1 c1a c1b c2a c2b
  | 11, _ => cases b with
    | false => exact Sp.runP_10_11_f q0 q1 c1a c1b c2a c2b
    | true => exact Sp.runP_10_11_t q0 q1 c1a c1b c2a c2b
  | 12, _ => cases b with
    | false => exact Sp.runP_10_12_f q0 q1 c1a c1b c2a c2b
    | true => exact Sp.runP_10_12_t q0 q1 c1a c1b c2a c2b
  | 13, _ => cases b with
    | false => exact Sp.runP_10_13_f q0 q1 c1a c1b c2a c2b
    | true => exact Sp.runP_10_13_t q0 q1 c1a c1b c2a c2b
  | 14, _ => cases b with
    | false => exact Sp.runP_10_14_f q0 q1 c1a c1b c2a c2b
    | true => exact Sp.runP_10_14_t q0 q1 c1a c1b c2a c2b
  | _ + 15, h => exact absurd h (by omega)
theorem all_11 (q0 q1 c1a c1b c2a c2b : AV) (i1 : Nat) (h1 : i1 < 15) (b : Bool) : okT (Sp.g5 c1a c1b (.lit (.int .i64 (.ofNat 11))) c2a c2b (.lit (.int .i64 (.ofNat i1))) [] q0 q1 (.lit (.bool b)) .nil 1) = true := by
  match i1, h1 with
  | 0, _ => cases b with
    | false => exact Sp.runP_11_0_f q0 q1 c1a c1b c2a c2b
    | true => exact Sp.runP_11_0_t q0 q1 c1a c1b c2a c2b
  | 1, _ => cases b with
    | false => exact Sp.runP_11_1_f q0 q1 c1a c1b c2a c2b
    | true => exact Sp.runP_11_1_t q0 q1 c1a c1b c2a c2b
  | 2, _ => cases b with
    | false => exact Sp.runP_11_2_f q0 q1 c1a c1b c2a c2b
    | true => exact Sp.runP_11_2_t q0 q1 c1a c1b c2a c2b
  | 3, _ => cases b with
    | false => exact Sp.runP_11_3_f q0 q1 c1a c1b c2a c2b
    | true => exact Sp.runP_11_3_t q0 q1 c1a c1b c2a c2b
  | 4, _ => cases b with
    | false => exact Sp.runP_11_4_f q0 q1 c1a c1b c2a c2b
    | true => exact Sp.runP_11_4_t q0 q1 c1a c1b c2a c2b
  | 5, _ => cases b with
    | false => exact Sp.runP_11_5_f q0 q1 c1a c1b c2a c2b
    | true => exact Sp.runP_11_5_t q0 q1 c1a c1b c2a c2b
  | 6, _ => cases b with
    | false => exact Sp.runP_11_6_f q0 q1 c1a c1b c2a c2b
    | true => exact Sp.runP_11_6_t q0 q1 c1a c1b c2a c2b
  | 7, _ => cases b with
    | false => exact Sp.runP_11_7_f q0 q1 c1a c1b c2a c2b
    | true => exact Sp.runP_11_7_t q0 q1 c1a c1b c2a c2b
  | 8, _ => cases b with
    | false => exact Sp.runP_11_8_f q0 q1 c1a c1b c2a c2b
    | true => exact Sp.runP_11_8_t q0 q1 c1a c1b c2a c2b
  | 9, _ => cases b with
    | false => exact Sp.runP_11_9_f q0 q1 c1a c1b c2a c2b
    | true => exact Sp.runP_11_9_t q0 q1 c1a c1b c2a c2b
  | 10, _ => cases b with
    | false => exact Sp.runP_11_10_f q0 q1 c1a c1b c2a c2b
    | true => exact Sp.runP_11_10_t q0 q1 c1a c1b c2a c2b
  | 11, _ => cases b with
    | false => exact Sp.runP_11_11_f q0 q1 c1a c1b c2a c2b
    | true => exact Sp.runP_11_11_t q0 q1 c1a c1b c2a c2b
  | 12, _ => cases b with
    | false => exact Sp.runP_11_12_f q0 q1 c1a c1b c2a c2b
    | true => exact Sp.runP_11_12_t q0 q1 c1a c1b c2a c2b
  | 13, _ => cases b with
    | false => exact Sp.runP_11_13_f q0 q1 c1a c1b c2a c2b
    | true => exact Sp.runP_11_13_t q0 q1 c1a c1b c2a c2b
  | 14, _ => cases b with
    | false => exact Sp.runP_11_14_f q0 q1 c1a c1b c2a c2b
    | true => exact Sp.runP_11_14_t q0 q1 c1a c1b c2a c2b
  | _ + 15, h => exact absurd h (by omega)
theorem all_12 (q0 q1 c1a c1b c2a c2b : AV) (i1 : Nat) (h1 : i1 < 15) (b : Bool) : okT (Sp.g5 c1a c1b (.lit (.int .i64 (.ofNat 12))) c2a c2b (.lit (.int .i64 (.ofNat i1))) [] q0 q1 (.lit (.bool b)) .nil 1) = true := by
  match i1, h1 with
  | 0, _ => cases b with
    | false => exact Sp.runP_12_0_f q0 q1 c1a c1b c2a c2b
    | true => exact Sp.runP_12_0_t q0 q1 c1a c1b c2a c2b
  | 1, _ => cases b with
    | false => exact Sp.runP_12_1_f q0 q1 c1a c1b c2a c2b
    | true => exact Sp.runP_12_1_t q0 q1 c1a c1b c2a c2b
  | 2, _ => cases b with
    | false => exact Sp.runP_12_2_f q0 q1 c1a c1b c2a c2b
    | true => exact Sp.runP_12_2_t q0 q1 c1a c1b c2a c2b
  | 3, _ => cases b with
    | false => exact Sp.runP_12_3_f q0 q1 c1a c1b c2a c2b
    | true => exact Sp.runP_12_3_t q0 q1 c1a c1b c2a c2b
  | 4, _ => cases b with
    | false => exact Sp.runP_12_4_f q0 q1 c1a c1b c2a c2b
    | true => exact Sp.runP_12_4_t q0 q1 c1a c1b c2a c2b
  | 5, _ => cases b with
    | false => exact Sp.runP_12_5_f q0 q1 c1a c1b c2a c2b
    | true => exact Sp.runP_12_5_t q0 q1 c1a c1b c2a c2b
  | 6, _ => cases b with
    | false => exact Sp.runP_12_6_f q0 q1 c1a c1b c2a c2b
    | true => exact Sp.runP_12_6_t q0 q1 c1a c1b c2a c2b
  | 7, _ => cases b with
    | false => exact Sp.runP_12_7_f q0 q1 c1a c1b c2a c2b
    | true => exact Sp.runP_12_7_t q0 q1 c1a c1b c2a c2b
  | 8, _ => cases b with
    | false => exact Sp.runP_12_8_f q0 q1 c1a c1b c2a c2b
    | true => exact Sp.runP_12_8_t q0 q1 c1a c1b c2a c2b
  | 9, _ => cases b with
    | false => exact Sp.runP_12_9_f q0 q1 c1a c1b c2a c2b
    | true => exact Sp.runP_12_9_t q0 q1 c1a c1b c2a c2b
  | 10, _ => cases b with
    | false => exact Sp.runP_12_10_f q0 q1 c1a c1b c2a c2b
    | true => exact Sp.runP_12_10_t q0 q1 c1a c1b c2a c2b
  | 11, _ => cases b with
    | false => exact Sp.runP_12_11_f q0 q1 c1a c1b c2a c2b
    | true => exact Sp.runP_12_11_t q0 q1 c1a c1b c2a c2b
  | 12, _ => cases b with
    | false => exact Sp.runP_12_12_f q0 q1 c1a c1b c2a c2b
    | true => exact Sp.runP_12_12_t q0 q1 c1a c1b c2a c2b
  | 13, _ => cases b with
    | false => exact Sp.runP_12_13_f q0 q1 c1a c1b c2a c2b
    | true => exact Sp.runP_12_13_t q0 q1 c1a c1b c2a c2b
  | 14, _ => cases b with
    | false => exact Sp.runP_12_14_f q0 q1 c1a c1b c2a c2b
    | true => exact Sp.runP_12_14_t q0 q1 c1a c1b c2a c2b
  | _ + 15, h => exact absurd h (by omega)
theorem all_13 (q0 q1 c1a c1b c2a c2b : AV) (i1 : Nat) (h1 : i1 < 15) (b : Bool) : okT (Sp.g5 c1a c1b (.lit (.int .i64 (.ofNat 13))) c2a c2b (.lit (.int .i64 (.ofNat i1))) [] q0 q1 (.lit (.bool b)) .nil 1) = true := by
  match i1, h1 with
  | 0, _ => cases b with
    | false => exact Sp.runP_13_0_f q0 q1 c1a c1b c2a c2b
    | true => exact Sp.runP_13_0_t q0 q1 c1a c1b c2a c2b
  | 1, _ => cases b with
    | false => exact Sp.runP_13_1_f q0 q1 c1a c1b c2a c2b
    | true => exact Sp.runP_13_1_t q0 q1 c1a c1b c2a c2b
  | 2, _ => cases b with
    | false => exact Sp.runP_13_2_f q0 q1 c1a c1b c2a c2b
    | true => exact Sp.runP_13_2_t q0 q1 c1a c1b c2a c2b
  | 3, _ => cases b with
    | false => exact Sp.runP_13_3_f q0 q1 c1a c1b c2a c2b
    | true => exact Sp.runP_13_3_t q0 q1 c1a c1b c2a c2b
  | 4, _ => cases b with
    | false => exact Sp.runP_13_4_f q0 q1 c1a c1b c2a c2b
    | true => exact Sp.runP_13_4_t q0 q1 c1a c1b c2a c2b
  | 5, _ => cases b with
    | false => exact Sp.runP_13_5_f q0 q1 c1a c1b c2a c2b
    | true => exact Sp.runP_13_5_t q0 q1 c1a c1b c2a c2b
  | 6, _ => cases b with
    | false => exact Sp.runP_13_6_f q0 q1 c1a c1b c2a c2b
    | true => exact Sp.runP_13_6_t q0 q1 c1a c1b c2a c2b
  | 7, _ => cases b with
    | false => exact Sp.runP_13_7_f q0 q1 c1a c1b c2a c2b
    | true => exact Sp.runP_13_7_t q0 q1 c1a c1b c2a c2b
  | 8, _ => cases b with
    | false => exact Sp.runP_13_8_f q0 q1 c1a c1b c2a c2b
    | true => exact Sp.runP_13_8_t q0 q1 c1a c1b c2a c2b
  | 9, _ => cases b with
    | false => exact Sp.runP_13_9_f q0 q1 c1a c1b c2a c2b
    | true => exact Sp.runP_13_9_t q0 q1 c1a c1b c2a c2b
  | 10, _ => cases b with
    | false => exact Sp.runP_13_10_f q0 q1 c1a c1b c2a c2b
    | true => exact Sp.runP_13_10_t q0 q1 c1a c1b c2a c2b
  | 11, _ => cases b with
    | false => exact Sp.runP_13_11_f q0 q1 c1a c1b c2a c2b
    | true => exact Sp.runP_13_11_t q0 q1 c1a c1b c2a c2b
  | 12, _ => cases b with
    | false => exact Sp.runP_13_12_f q0 q1 c1a c1b c2a c2b
    | true => exact Sp.runP_13_12_t q0 q1 c1a c1b c2a c2b
  | 13, _ => cases b with
    | false => exact Sp.runP_13_13_f q0 q1 c1a c1b c2a c2b
    | true => exact Sp.runP_13_13_t q0 q1 c1a c1b c2a c2b
  | 14, _ => cases b with
    | false => exact Sp.runP_13_14_f q0 q1 c1a c1b c2a c2b
    | true => exact Sp.runP_13_14_t q0 q1 c1a c1b c2a c2b
  | _ + 15, h => exact absurd h (by omega)
theorem all_14 (q0 q1 c1a c1b c2a c2b : AV) (i1 : Nat) (h1 : i1 < 15) (b : Bool) : okT (Sp.g5 c1a c1b (.lit (.int .i64 (.ofNat 14))) c2a c2b (.lit (.int .i64 (.ofNat i1))) [] q0 q1 (.lit (.bool b)) .nil 1) = true := by
  match i1, h1 with
  | 0, _ => cases b with
    | false => exact Sp.runP_14_0_f q0 q1 c1a c1b c2a c2b
    | true => exact Sp.runP_14_0_t q0 q1 c1a c1b c2a c2b
  | 1, _ => cases b with
    | false => exact Sp.runP_14_1_f q0 q1 c1a c1b c2a c2b
    | true => exact Sp.runP_14_1_t q0 q1 c1a c1b c2a c2b
  | 2, _ => cases b with
    | false => exact Sp.runP_14_2_f q0 q1 c1a c1b c2a c2b
    | true => exact Sp.runP_14_2_t q0 q1 c1a c1b c2a c2b
  | 3, _ => cases b with
    | false => exact Sp.runP_14_3_f q0 q1 c1a c1b c2a c2b
    | true => exact Sp.runP_14_3_t q0 q1 c1a c1b c2a c2b
  | 4, _ => cases b with
    | false => exact Sp.runP_14_4_f q0 q1 c1a c1b c2a c2b
    | true => exact Sp.runP_14_4_t q0 q1 c1a c1b c2a c2b
  | 5, _ => cases b with
    | false => exact Sp.runP_14_5_f q0 q1 c1a c1b c2a c2b
    | true => exact Sp.runP_14_5_t q0 q1 c1a c1b c2a c2b
  | 6, _ => cases b with
    | false => exact Sp.runP_14_6_f q0 q1 c1a c1b c2a c2b
    | true => exact Sp.runP_14_6_t q0 q1 c1a c1b c2a c2b
  | 7, _ => cases b with
    | false => exact Sp.runP_14_7_f q0 q1 c1a c1b c2a c2b
    | true => exact Sp.runP_14_7_t q0 q1 c1a c1b c2a c2b
  | 8, _ => cases b with
    | false => exact Sp.runP_14_8_f q0 q1 c1a c1b c2a c2b
    | true => exact Sp.runP_14_8_t q0 q1 c1a c1b c2a c2b
  | 9, _ => cases b with
    | false => exact Sp.runP_14_9_f q0 q1 c1a c1b c2a c2b
    | true => exact Sp.runP_14_9_t q0 q1 c1a c1b c2a c2b
  | 10, _ => cases b with
    | false => exact Sp.runP_14_10_f q0 q1 c1a c1b c2a c2b
    | true => exact Sp.runP_14_10_t q0 q1 c1a c1b c2a c2b
  | 11, _ => cases b with
    | false => exact Sp.runP_14_11_f q0 q1 c1a c1b c2a c2b
    | true => exact Sp.runP_14_11_t q0 q1 c1a c1b c2a c2b
  | 12, _ => cases b with
    | false => exact Sp.runP_14_12_f q0 q1 c1a c1b c2a c2b
    | true => exact Sp.runP_14_12_t q0 q1 c1a c1b c2a c2b
  | 13, _ => cases b with
    | false => exact Sp.runP_14_13_f q0 q1 c1a c1b c2a c2b
    | true => exact Sp.runP_14_13_t q0 q1 c1a c1b c2a c2b
  | 14, _ => cases b with
    | false => exact Sp.runP_14_14_f q0 q1 c1a c1b c2a c2b
    | true => exact Sp.runP_14_14_t q0 q1 c1a c1b c2a c2b
  | _ + 15, h => exact absurd h (by omega)
theorem all (q0 q1 c1a c1b c2a c2b : AV) (i0 : Nat) (h0 : i0 < 15) (i1 : Nat) (h1 : i1 < 15) (b : Bool) : okT (Sp.g5 c1a c1b (.lit (.int .i64 (.ofNat i0))) c2a c2b (.lit (.int .i64 (.ofNat i1))) [] q0 q1 (.lit (.bool b)) .nil 1) = true := by
  match i0, h0 with
  | 0, _ => exact all_0 q0 q1 c1a c1b c2a c2b i1 h1 b
  | 1, _ => exact all_1 q0 q1 c1a c1b c2a c2b i1 h1 b
  | 2, _ => exact all_2 q0 q1 c1a c1b c2a c2b i1 h1 b
  | 3, _ => exact all_3 q0 q1 c1a c1b c2a c2b i1 h1 b
  | 4, _ => exact all_4 q0 q1 c1a c1b c2a c2b i1 h1 b
  | 5, _ => exact all_5 q0 q1 c1a c1b c2a c2b i1 h1 b
  | 6, _ => exact all_6 q0 q1 c1a c1b c2a c2b i1 h1 b
  | 7, _ => exact all_7 q0 q1 c1a c1b c2a c2b i1 h1 b
  | 8, _ => exact all_8 q0 q1 c1a c1b c2a c2b i1 h1 b
  | 9, _ => exact all_9 q0 q1 c1a c1b c2a c2b i1 h1 b
  | 10, _ => exact all_10 q0 q1 c1a c1b c2a c2b i1 h1 b
  | 11, _ => exact all_11 q0 q1 c1a c1b c2a c2b i1 h1 b
  | 12, _ => exact all_12 q0 q1 c1a c1b c2a c2b i1 h1 b
  | 13, _ => exact all_13 q0 q1 c1a c1b c2a c2b i1 h1 b
  | 14, _ => exact all_14 q0 q1 c1a c1b c2a c2b i1 h1 b
  | _ + 15, h => exact absurd h (by omega)
/-- names for the errors that the variables hold -/
def errRho (aE : Nat → Addr) : Rho := ⟨[], fun i => .pointer (some (aE i))⟩
theorem errEE {w0 : World} {base : Nat} {aE : Nat → Addr} (hS : EnvS w0 base aE) : EE w0 base (errRho aE) Sp.envE := by
  have key : ∀ i g, sentG[i]? = some g → ∃ u, inst (errRho aE) (.iface 253 (.opq i)) = some u ∧ w0.cell? ⟨g, 0, none⟩ = some u ∧ g < base := fun i g hi => ⟨_, rfl, hS.at_ i g hi, hS.lt g (List.mem_of_getElem? hi)⟩
  intro g v hv
  unfold Sp.envE at hv
  simp only [lookE] at hv
  split at hv
  · rename_i hb
    cases hv
    obtain rfl := beqT hb
    exact key 0 _ rfl
  split at hv
  · rename_i hb
    cases hv
    obtain rfl := beqT hb
    exact key 1 _ rfl
  split at hv
  · rename_i hb
    cases hv
    obtain rfl := beqT hb
    exact key 2 _ rfl
  split at hv
  · rename_i hb
    cases hv
    obtain rfl := beqT hb
    exact key 3 _ rfl
  split at hv
  · rename_i hb
    cases hv
    obtain rfl := beqT hb
    exact key 4 _ rfl
  split at hv
  · rename_i hb
    cases hv
    obtain rfl := beqT hb
    exact key 5 _ rfl
  split at hv
  · rename_i hb
    cases hv
    obtain rfl := beqT hb
    exact key 6 _ rfl
  split at hv
  · rename_i hb
    cases hv
    obtain rfl := beqT hb
    exact key 7 _ rfl
  split at hv
  · rename_i hb
    cases hv
    obtain rfl := beqT hb
    exact key 8 _ rfl
  split at hv
  · rename_i hb
    cases hv
    obtain rfl := beqT hb
    exact key 9 _ rfl
  split at hv
  · rename_i hb
    cases hv
    obtain rfl := beqT hb
    exact key 10 _ rfl
  split at hv
  · rename_i hb
    cases hv
    obtain rfl := beqT hb
    exact key 11 _ rfl
  split at hv
  · rename_i hb
    cases hv
    obtain rfl := beqT hb
    exact key 12 _ rfl
  split at hv
  · rename_i hb
    cases hv
    obtain rfl := beqT hb
    exact key 13 _ rfl
  split at hv
  · rename_i hb
    cases hv
    obtain rfl := beqT hb
    exact key 14 _ rfl
  split at hv
  · rename_i hb
    cases hv
    obtain rfl := beqT hb
    exact key 15 _ rfl
  split at hv
  · rename_i hb
    cases hv
    obtain rfl := beqT hb
    exact key 16 _ rfl
  cases hv
theorem errOPQ {w0 : World} {base : Nat} {aE : Nat → Addr} (hS : EnvS w0 base aE) : OPQ w0 base (errRho aE) := ⟨aE, fun _ _ => rfl, hS.blk, hS.ne⟩
theorem first_run : okT (Sp.g18 [.nil] .nil 1) = true := by kernel_rfl
theorem law_c {w0 : World} {base : Nat} {aE : Nat → Addr} (hS : EnvS w0 base aE) (n0 n1 : Int) (b : Bool) : FnC Tryz.prog 5 #[.int .i64 n0, .int .i64 n1, .bool b] (WA w0 base []) (fun _ : Unit => .bool true) (fun _ => WA w0 base []) := by
  obtain ⟨i0, h0, e0⟩ := numI_ok n0 (show 0 < 15 by decide)
  obtain ⟨i1, h1, e1⟩ := numI_ok n1 (show 0 < 15 by decide)
  obtain ⟨T2, n2, hF0⟩ := okT_eq first_run
  have hF1 := Sp.g18_ok [.nil] .nil 1
  rw [hF0] at hF1
  exact okT_c (vs := [.int .i64 n0, .int .i64 n1, .bool b]) (Sp.g5_ok (.lit (.int .i64 (n0.tmod (Int.ofNat 15)))) (.lit (.int .i64 (n0.tmod (Int.ofNat 15) + Int.ofNat 15))) (.lit (.int .i64 (.ofNat i0))) (.lit (.int .i64 (n1.tmod (Int.ofNat 15)))) (.lit (.int .i64 (n1.tmod (Int.ofNat 15) + Int.ofNat 15))) (.lit (.int .i64 (.ofNat i1))) (.lit (.int .i64 n0)) (.lit (.int .i64 n1)) (.lit (.bool b)) (fun W ρ af hx => remA hx n0 (by decide)) (fun W ρ af hx => addA hx n0 (by decide) (by decide)) (fun W ρ af hx => remB hx e0 (by decide)) (fun W ρ af hx => remA hx n1 (by decide)) (fun W ρ af hx => addA hx n1 (by decide) (by decide)) (fun W ρ af hx => remB hx e1 (by decide)) [] .nil 1 (GOk.quiet hF1 rfl)) (all (.lit (.int .i64 n0)) (.lit (.int .i64 n1)) (.lit (.int .i64 (n0.tmod (Int.ofNat 15)))) (.lit (.int .i64 (n0.tmod (Int.ofNat 15) + Int.ofNat 15))) (.lit (.int .i64 (n1.tmod (Int.ofNat 15)))) (.lit (.int .i64 (n1.tmod (Int.ofNat 15) + Int.ofNat 15))) i0 h0 i1 h1 b) (errRho aE) (errEE hS) (errOPQ hS) (fun _ _ => rfl)
end Go.Proofs.YtdepmlcnllofiaaGreatDoor.SpP
