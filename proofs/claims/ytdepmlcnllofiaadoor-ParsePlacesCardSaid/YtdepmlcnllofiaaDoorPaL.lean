/-
  Proved here: the statement called with any numbers returns true.
-/
import Derived.Test.YtdepmlcnllofiaaDoorPaLa
import Derived.Test.YtdepmlcnllofiaaDoorPaLb
import Derived.Test.YtdepmlcnllofiaaDoorPaLc
import Derived.Test.YtdepmlcnllofiaaDoorPaLd
import Derived.Test.YtdepmlcnllofiaaDoorEnvQ
import Derived.Test.YtdepmlcnllofiaaDoorTmod
namespace Go.Proofs.YtdepmlcnllofiaaDoor.PaL
open Go.EY Go.EX Go.SX Go.RowKit Env
theorem all_0 (q0 q1 c1a c1b c2a c2b : AV) (i1 : Nat) (h1 : i1 < 8) : okT (Pa.g4 c1a c1b (.lit (.int .i64 (.ofNat 0))) c2a c2b (.lit (.int .i64 (.ofNat i1))) [] q0 q1 .nil 1) = true := by
  match i1, h1 with
  | 0, _ => exact Pa.runL_0_0 q0 q1 c1a c1b c2a c2b
  | 1, _ => exact Pa.runL_0_1 q0 q1 c1a c1b c2a c2b
  | 2, _ => exact Pa.runL_0_2 q0 q1 c1a c1b c2a c2b
  | 3, _ => exact Pa.runL_0_3 q0 q1 c1a c1b c2a c2b
  | 4, _ => exact Pa.runL_0_4 q0 q1 c1a c1b c2a c2b
  | 5, _ => exact Pa.runL_0_5 q0 q1 c1a c1b c2a c2b
  | 6, _ => exact Pa.runL_0_6 q0 q1 c1a c1b c2a c2b
  | 7, _ => exact Pa.runL_0_7 q0 q1 c1a c1b c2a c2b
  | _ + 8, h => exact absurd h (by omega)
theorem all_1 (q0 q1 c1a c1b c2a c2b : AV) (i1 : Nat) (h1 : i1 < 8) : okT (Pa.g4 c1a c1b (.lit (.int .i64 (.ofNat 1))) c2a c2b (.lit (.int .i64 (.ofNat i1))) [] q0 q1 .nil 1) = true := by
  match i1, h1 with
  | 0, _ => exact Pa.runL_1_0 q0 q1 c1a c1b c2a c2b
  | 1, _ => exact Pa.runL_1_1 q0 q1 c1a c1b c2a c2b
  | 2, _ => exact Pa.runL_1_2 q0 q1 c1a c1b c2a c2b
  | 3, _ => exact Pa.runL_1_3 q0 q1 c1a c1b c2a c2b
  | 4, _ => exact Pa.runL_1_4 q0 q1 c1a c1b c2a c2b
  | 5, _ => exact Pa.runL_1_5 q0 q1 c1a c1b c2a c2b
  | 6, _ => exact Pa.runL_1_6 q0 q1 c1a c1b c2a c2b
  | 7, _ => exact Pa.runL_1_7 q0 q1 c1a c1b c2a c2b
  | _ + 8, h => exact absurd h (by omega)
theorem all_2 (q0 q1 c1a c1b c2a c2b : AV) (i1 : Nat) (h1 : i1 < 8) : okT (Pa.g4 c1a c1b (.lit (.int .i64 (.ofNat 2))) c2a c2b (.lit (.int .i64 (.ofNat i1))) [] q0 q1 .nil 1) = true := by
  match i1, h1 with
  | 0, _ => exact Pa.runL_2_0 q0 q1 c1a c1b c2a c2b
  | 1, _ => exact Pa.runL_2_1 q0 q1 c1a c1b c2a c2b
  | 2, _ => exact Pa.runL_2_2 q0 q1 c1a c1b c2a c2b
  | 3, _ => exact Pa.runL_2_3 q0 q1 c1a c1b c2a c2b
  | 4, _ => exact Pa.runL_2_4 q0 q1 c1a c1b c2a c2b
  | 5, _ => exact Pa.runL_2_5 q0 q1 c1a c1b c2a c2b
  | 6, _ => exact Pa.runL_2_6 q0 q1 c1a c1b c2a c2b
  | 7, _ => exact Pa.runL_2_7 q0 q1 c1a c1b c2a c2b
  | _ + 8, h => exact absurd h (by omega)
theorem all_3 (q0 q1 c1a c1b c2a c2b : AV) (i1 : Nat) (h1 : i1 < 8) : okT (Pa.g4 c1a c1b (.lit (.int .i64 (.ofNat 3))) c2a c2b (.lit (.int .i64 (.ofNat i1))) [] q0 q1 .nil 1) = true := by
  match i1, h1 with
  | 0, _ => exact Pa.runL_3_0 q0 q1 c1a c1b c2a c2b
  | 1, _ => exact Pa.runL_3_1 q0 q1 c1a c1b c2a c2b
  | 2, _ => exact Pa.runL_3_2 q0 q1 c1a c1b c2a c2b
  | 3, _ => exact Pa.runL_3_3 q0 q1 c1a c1b c2a c2b
  | 4, _ => exact Pa.runL_3_4 q0 q1 c1a c1b c2a c2b
  | 5, _ => exact Pa.runL_3_5 q0 q1 c1a c1b c2a c2b
  | 6, _ => exact Pa.runL_3_6 q0 q1 c1a c1b c2a c2b
  | 7, _ => exact Pa.runL_3_7 q0 q1 c1a c1b c2a c2b
  | _ + 8, h => exact absurd h (by omega)
theorem all_4 (q0 q1 c1a c1b c2a c2b : AV) (i1 : Nat) (h1 : i1 < 8) : okT (Pa.g4 c1a c1b (.lit (.int .i64 (.ofNat 4))) c2a c2b (.lit (.int .i64 (.ofNat i1))) [] q0 q1 .nil 1) = true := by
  match i1, h1 with
  | 0, _ => exact Pa.runL_4_0 q0 q1 c1a c1b c2a c2b
  | 1, _ => exact Pa.runL_4_1 q0 q1 c1a c1b c2a c2b
  | 2, _ => exact Pa.runL_4_2 q0 q1 c1a c1b c2a c2b
  | 3, _ => exact Pa.runL_4_3 q0 q1 c1a c1b c2a c2b
  | 4, _ => exact Pa.runL_4_4 q0 q1 c1a c1b c2a c2b
  | 5, _ => exact Pa.runL_4_5 q0 q1 c1a c1b c2a c2b
  | 6, _ => exact Pa.runL_4_6 q0 q1 c1a c1b c2a c2b
  | 7, _ => exact Pa.runL_4_7 q0 q1 c1a c1b c2a c2b
  | _ + 8, h => exact absurd h (by omega)
theorem all_5 (q0 q1 c1a c1b c2a c2b : AV) (i1 : Nat) (h1 : i1 < 8) : okT (Pa.g4 c1a c1b (.lit (.int .i64 (.ofNat 5))) c2a c2b (.lit (.int .i64 (.ofNat i1))) [] q0 q1 .nil 1) = true := by
  match i1, h1 with
  | 0, _ => exact Pa.runL_5_0 q0 q1 c1a c1b c2a c2b
  | 1, _ => exact Pa.runL_5_1 q0 q1 c1a c1b c2a c2b
  | 2, _ => exact Pa.runL_5_2 q0 q1 c1a c1b c2a c2b
  | 3, _ => exact Pa.runL_5_3 q0 q1 c1a c1b c2a c2b
  | 4, _ => exact Pa.runL_5_4 q0 q1 c1a c1b c2a c2b
  | 5, _ => exact Pa.runL_5_5 q0 q1 c1a c1b c2a c2b
  | 6, _ => exact Pa.runL_5_6 q0 q1 c1a c1b c2a c2b
  | 7, _ => exact Pa.runL_5_7 q0 q1 c1a c1b c2a c2b
  | _ + 8, h => exact absurd h (by omega)
theorem all_6 (q0 q1 c1a c1b c2a c2b : AV) (i1 : Nat) (h1 : i1 < 8) : okT (Pa.g4 c1a c1b (.lit (.int .i64 (.ofNat 6))) c2a c2b (.lit (.int .i64 (.ofNat i1))) [] q0 q1 .nil 1) = true := by
  match i1, h1 with
  | 0, _ => exact Pa.runL_6_0 q0 q1 c1a c1b c2a c2b
  | 1, _ => exact Pa.runL_6_1 q0 q1 c1a c1b c2a c2b
  | 2, _ => exact Pa.runL_6_2 q0 q1 c1a c1b c2a c2b
  | 3, _ => exact Pa.runL_6_3 q0 q1 c1a c1b c2a c2b
  | 4, _ => exact Pa.runL_6_4 q0 q1 c1a c1b c2a c2b
  | 5, _ => exact Pa.runL_6_5 q0 q1 c1a c1b c2a c2b
  | 6, _ => exact Pa.runL_6_6 q0 q1 c1a c1b c2a c2b
  | 7, _ => exact Pa.runL_6_7 q0 q1 c1a c1b c2a c2b
  | _ + 8, h => exact absurd h (by omega)
theorem all_7 (q0 q1 c1a c1b c2a c2b : AV) (i1 : Nat) (h1 : i1 < 8) : okT (Pa.g4 c1a c1b (.lit (.int .i64 (.ofNat 7))) c2a c2b (.lit (.int .i64 (.ofNat i1))) [] q0 q1 .nil 1) = true := by
  match i1, h1 with
  | 0, _ => exact Pa.runL_7_0 q0 q1 c1a c1b c2a c2b
  | 1, _ => exact Pa.runL_7_1 q0 q1 c1a c1b c2a c2b
  | 2, _ => exact Pa.runL_7_2 q0 q1 c1a c1b c2a c2b
  | 3, _ => exact Pa.runL_7_3 q0 q1 c1a c1b c2a c2b
  | 4, _ => exact Pa.runL_7_4 q0 q1 c1a c1b c2a c2b
  | 5, _ => exact Pa.runL_7_5 q0 q1 c1a c1b c2a c2b
  | 6, _ => exact Pa.runL_7_6 q0 q1 c1a c1b c2a c2b
  | 7, _ => exact Pa.runL_7_7 q0 q1 c1a c1b c2a c2b
  | _ + 8, h => exact absurd h (by omega)
theorem all_8 (q0 q1 c1a c1b c2a c2b : AV) (i1 : Nat) (h1 : i1 < 8) : okT (Pa.g4 c1a c1b (.lit (.int .i64 (.ofNat 8))) c2a c2b (.lit (.int .i64 (.ofNat i1))) [] q0 q1 .nil 1) = true := by
  match i1, h1 with
  | 0, _ => exact Pa.runL_8_0 q0 q1 c1a c1b c2a c2b
  | 1, _ => exact Pa.runL_8_1 q0 q1 c1a c1b c2a c2b
  | 2, _ => exact Pa.runL_8_2 q0 q1 c1a c1b c2a c2b
  | 3, _ => exact Pa.runL_8_3 q0 q1 c1a c1b c2a c2b
  | 4, _ => exact Pa.runL_8_4 q0 q1 c1a c1b c2a c2b
  | 5, _ => exact Pa.runL_8_5 q0 q1 c1a c1b c2a c2b
  | 6, _ => exact Pa.runL_8_6 q0 q1 c1a c1b c2a c2b
  | 7, _ => exact Pa.runL_8_7 q0 q1 c1a c1b c2a c2b
  | _ + 8, h => exact absurd h (by omega)
theorem all_9 (q0 q1 c1a c1b c2a c2b : AV) (i1 : Nat) (h1 : i1 < 8) : okT (Pa.g4 c1a c1b (.lit (.int .i64 (.ofNat 9))) c2a c2b (.lit (.int .i64 (.ofNat i1))) [] q0 q1 .nil 1) = true := by
  match i1, h1 with
  | 0, _ => exact Pa.runL_9_0 q0 q1 c1a c1b c2a c2b
  | 1, _ => exact Pa.runL_9_1 q0 q1 c1a c1b c2a c2b
  | 2, _ => exact Pa.runL_9_2 q0 q1 c1a c1b c2a c2b
  | 3, _ => exact Pa.runL_9_3 q0 q1 c1a c1b c2a c2b
  | 4, _ => exact Pa.runL_9_4 q0 q1 c1a c1b c2a c2b
  | 5, _ => exact Pa.runL_9_5 q0 q1 c1a c1b c2a c2b
  | 6, _ => exact Pa.runL_9_6 q0 q1 c1a c1b c2a c2b
  | 7, _ => exact Pa.runL_9_7 q0 q1 c1a c1b c2a c2b
  | _ + 8, h => exact absurd h (by omega)
theorem all_10 (q0 q1 c1a c1b c2a c2b : AV) (i1 : Nat) (h1 : i1 < 8) : okT (Pa.g4 c1a c1b (.lit (.int .i64 (.ofNat 10))) c2a c2b (.lit (.int .i64 (.ofNat i1))) [] q0 q1 .nil 1) = true := by
  match i1, h1 with
  | 0, _ => exact Pa.runL_10_0 q0 q1 c1a c1b c2a c2b
  | 1, _ => exact Pa.runL_10_1 q0 q1 c1a c1b c2a c2b
  | 2, _ => exact Pa.runL_10_2 q0 q1 c1a c1b c2a c2b
  | 3, _ => exact Pa.runL_10_3 q0 q1 c1a c1b c2a c2b
  | 4, _ => exact Pa.runL_10_4 q0 q1 c1a c1b c2a c2b
  | 5, _ => exact Pa.runL_10_5 q0 q1 c1a c1b c2a c2b
  | 6, _ => exact Pa.runL_10_6 q0 q1 c1a c1b c2a c2b
  | 7, _ => exact Pa.runL_10_7 q0 q1 c1a c1b c2a c2b
  | _ + 8, h => exact absurd h (by omega)
theorem all_11 (q0 q1 c1a c1b c2a c2b : AV) (i1 : Nat) (h1 : i1 < 8) : okT (Pa.g4 c1a c1b (.lit (.int .i64 (.ofNat 11))) c2a c2b (.lit (.int .i64 (.ofNat i1))) [] q0 q1 .nil 1) = true := by
  match i1, h1 with
  | 0, _ => exact Pa.runL_11_0 q0 q1 c1a c1b c2a c2b
  | 1, _ => exact Pa.runL_11_1 q0 q1 c1a c1b c2a c2b
  | 2, _ => exact Pa.runL_11_2 q0 q1 c1a c1b c2a c2b
  | 3, _ => exact Pa.runL_11_3 q0 q1 c1a c1b c2a c2b
  | 4, _ => exact Pa.runL_11_4 q0 q1 c1a c1b c2a c2b
  | 5, _ => exact Pa.runL_11_5 q0 q1 c1a c1b c2a c2b
  | 6, _ => exact Pa.runL_11_6 q0 q1 c1a c1b c2a c2b
  | 7, _ => exact Pa.runL_11_7 q0 q1 c1a c1b c2a c2b
  | _ + 8, h => exact absurd h (by omega)
theorem all_12 (q0 q1 c1a c1b c2a c2b : AV) (i1 : Nat) (h1 : i1 < 8) : okT (Pa.g4 c1a c1b (.lit (.int .i64 (.ofNat 12))) c2a c2b (.lit (.int .i64 (.ofNat i1))) [] q0 q1 .nil 1) = true := by
  match i1, h1 with
  | 0, _ => exact Pa.runL_12_0 q0 q1 c1a c1b c2a c2b
  | 1, _ => exact Pa.runL_12_1 q0 q1 c1a c1b c2a c2b
  | 2, _ => exact Pa.runL_12_2 q0 q1 c1a c1b c2a c2b
  | 3, _ => exact Pa.runL_12_3 q0 q1 c1a c1b c2a c2b
  | 4, _ => exact Pa.runL_12_4 q0 q1 c1a c1b c2a c2b
  | 5, _ => exact Pa.runL_12_5 q0 q1 c1a c1b c2a c2b
  | 6, _ => exact Pa.runL_12_6 q0 q1 c1a c1b c2a c2b
  | 7, _ => exact Pa.runL_12_7 q0 q1 c1a c1b c2a c2b
  | _ + 8, h => exact absurd h (by omega)
theorem all_13 (q0 q1 c1a c1b c2a c2b : AV) (i1 : Nat) (h1 : i1 < 8) : okT (Pa.g4 c1a c1b (.lit (.int .i64 (.ofNat 13))) c2a c2b (.lit (.int .i64 (.ofNat i1))) [] q0 q1 .nil 1) = true := by
  match i1, h1 with
  | 0, _ => exact Pa.runL_13_0 q0 q1 c1a c1b c2a c2b
  | 1, _ => exact Pa.runL_13_1 q0 q1 c1a c1b c2a c2b
  | 2, _ => exact Pa.runL_13_2 q0 q1 c1a c1b c2a c2b
  | 3, _ => exact Pa.runL_13_3 q0 q1 c1a c1b c2a c2b
  | 4, _ => exact Pa.runL_13_4 q0 q1 c1a c1b c2a c2b
  | 5, _ => exact Pa.runL_13_5 q0 q1 c1a c1b c2a c2b
  | 6, _ => exact Pa.runL_13_6 q0 q1 c1a c1b c2a c2b
  | 7, _ => exact Pa.runL_13_7 q0 q1 c1a c1b c2a c2b
  | _ + 8, h => exact absurd h (by omega)
theorem all_14 (q0 q1 c1a c1b c2a c2b : AV) (i1 : Nat) (h1 : i1 < 8) : okT (Pa.g4 c1a c1b (.lit (.int .i64 (.ofNat 14))) c2a c2b (.lit (.int .i64 (.ofNat i1))) [] q0 q1 .nil 1) = true := by
  match i1, h1 with
  | 0, _ => exact Pa.runL_14_0 q0 q1 c1a c1b c2a c2b
  | 1, _ => exact Pa.runL_14_1 q0 q1 c1a c1b c2a c2b
  | 2, _ => exact Pa.runL_14_2 q0 q1 c1a c1b c2a c2b
  | 3, _ => exact Pa.runL_14_3 q0 q1 c1a c1b c2a c2b
  | 4, _ => exact Pa.runL_14_4 q0 q1 c1a c1b c2a c2b
  | 5, _ => exact Pa.runL_14_5 q0 q1 c1a c1b c2a c2b
  | 6, _ => exact Pa.runL_14_6 q0 q1 c1a c1b c2a c2b
  | 7, _ => exact Pa.runL_14_7 q0 q1 c1a c1b c2a c2b
  | _ + 8, h => exact absurd h (by omega)
theorem all_15 (q0 q1 c1a c1b c2a c2b : AV) (i1 : Nat) (h1 : i1 < 8) : okT (Pa.g4 c1a c1b (.lit (.int .i64 (.ofNat 15))) c2a c2b (.lit (.int .i64 (.ofNat i1))) [] q0 q1 .nil 1) = true := by
  match i1, h1 with
  | 0, _ => exact Pa.runL_15_0 q0 q1 c1a c1b c2a c2b
  | 1, _ => exact Pa.runL_15_1 q0 q1 c1a c1b c2a c2b
  | 2, _ => exact Pa.runL_15_2 q0 q1 c1a c1b c2a c2b
  | 3, _ => exact Pa.runL_15_3 q0 q1 c1a c1b c2a c2b
  | 4, _ => exact Pa.runL_15_4 q0 q1 c1a c1b c2a c2b
  | 5, _ => exact Pa.runL_15_5 q0 q1 c1a c1b c2a c2b
  | 6, _ => exact Pa.runL_15_6 q0 q1 c1a c1b c2a c2b
  | 7, _ => exact Pa.runL_15_7 q0 q1 c1a c1b c2a c2b
  | _ + 8, h => exact absurd h (by omega)
theorem all_16 (q0 q1 c1a c1b c2a c2b : AV) (i1 : Nat) (h1 : i1 < 8) : okT (Pa.g4 c1a c1b (.lit (.int .i64 (.ofNat 16))) c2a c2b (.lit (.int .i64 (.ofNat i1))) [] q0 q1 .nil 1) = true := by
  match i1, h1 with
  | 0, _ => exact Pa.runL_16_0 q0 q1 c1a c1b c2a c2b
  | 1, _ => exact Pa.runL_16_1 q0 q1 c1a c1b c2a c2b
  | 2, _ => exact Pa.runL_16_2 q0 q1 c1a c1b c2a c2b
  | 3, _ => exact Pa.runL_16_3 q0 q1 c1a c1b c2a c2b
  | 4, _ => exact Pa.runL_16_4 q0 q1 c1a c1b c2a c2b
  | 5, _ => exact Pa.runL_16_5 q0 q1 c1a c1b c2a c2b
  | 6, _ => exact Pa.runL_16_6 q0 q1 c1a c1b c2a c2b
  | 7, _ => exact Pa.runL_16_7 q0 q1 c1a c1b c2a c2b
  | _ + 8, h => exact absurd h (by omega)
theorem all_17 (q0 q1 c1a c1b c2a c2b : AV) (i1 : Nat) (h1 : i1 < 8) : okT (Pa.g4 c1a c1b (.lit (.int .i64 (.ofNat 17))) c2a c2b (.lit (.int .i64 (.ofNat i1))) [] q0 q1 .nil 1) = true := by
  match i1, h1 with
  | 0, _ => exact Pa.runL_17_0 q0 q1 c1a c1b c2a c2b
  | 1, _ => exact Pa.runL_17_1 q0 q1 c1a c1b c2a c2b
  | 2, _ => exact Pa.runL_17_2 q0 q1 c1a c1b c2a c2b
  | 3, _ => exact Pa.runL_17_3 q0 q1 c1a c1b c2a c2b
  | 4, _ => exact Pa.runL_17_4 q0 q1 c1a c1b c2a c2b
  | 5, _ => exact Pa.runL_17_5 q0 q1 c1a c1b c2a c2b
  | 6, _ => exact Pa.runL_17_6 q0 q1 c1a c1b c2a c2b
  | 7, _ => exact Pa.runL_17_7 q0 q1 c1a c1b c2a c2b
  | _ + 8, h => exact absurd h (by omega)
theorem all_18 (q0 q1 c1a c1b c2a c2b : AV) (i1 : Nat) (h1 : i1 < 8) : okT (Pa.g4 c1a c1b (.lit (.int .i64 (.ofNat 18))) c2a c2b (.lit (.int .i64 (.ofNat i1))) [] q0 q1 .nil 1) = true := by
  match i1, h1 with
  | 0, _ => exact Pa.runL_18_0 q0 q1 c1a c1b c2a c2b
  | 1, _ => exact Pa.runL_18_1 q0 q1 c1a c1b c2a c2b
  | 2, _ => exact Pa.runL_18_2 q0 q1 c1a c1b c2a c2b
  | 3, _ => exact Pa.runL_18_3 q0 q1 c1a c1b c2a c2b
  | 4, _ => exact Pa.runL_18_4 q0 q1 c1a c1b c2a c2b
  | 5, _ => exact Pa.runL_18_5 q0 q1 c1a c1b c2a c2b
  | 6, _ => exact Pa.runL_18_6 q0 q1 c1a c1b c2a c2b
  | 7, _ => exact Pa.runL_18_7 q0 q1 c1a c1b c2a c2b
  | _ + 8, h => exact absurd h (by omega)
theorem all_19 (q0 q1 c1a c1b c2a c2b : AV) (i1 : Nat) (h1 : i1 < 8) : okT (Pa.g4 c1a c1b (.lit (.int .i64 (.ofNat 19))) c2a c2b (.lit (.int .i64 (.ofNat i1))) [] q0 q1 .nil 1) = true := by
  match i1, h1 with
  | 0, _ => exact Pa.runL_19_0 q0 q1 c1a c1b c2a c2b
  | 1, _ => exact Pa.runL_19_1 q0 q1 c1a c1b c2a c2b
  | 2, _ => exact Pa.runL_19_2 q0 q1 c1a c1b c2a c2b
  | 3, _ => exact Pa.runL_19_3 q0 q1 c1a c1b c2a c2b
  | 4, _ => exact Pa.runL_19_4 q0 q1 c1a c1b c2a c2b
  | 5, _ => exact Pa.runL_19_5 q0 q1 c1a c1b c2a c2b
  | 6, _ => exact Pa.runL_19_6 q0 q1 c1a c1b c2a c2b
  | 7, _ => exact Pa.runL_19_7 q0 q1 c1a c1b c2a c2b
  | _ + 8, h => exact absurd h (by omega)
theorem all (q0 q1 c1a c1b c2a c2b : AV) (i0 : Nat) (h0 : i0 < 20) (i1 : Nat) (h1 : i1 < 8) : okT (Pa.g4 c1a c1b (.lit (.int .i64 (.ofNat i0))) c2a c2b (.lit (.int .i64 (.ofNat i1))) [] q0 q1 .nil 1) = true := by
  match i0, h0 with
  | 0, _ => exact all_0 q0 q1 c1a c1b c2a c2b i1 h1
  | 1, _ => exact all_1 q0 q1 c1a c1b c2a c2b i1 h1
  | 2, _ => exact all_2 q0 q1 c1a c1b c2a c2b i1 h1
  | 3, _ => exact all_3 q0 q1 c1a c1b c2a c2b i1 h1
  | 4, _ => exact all_4 q0 q1 c1a c1b c2a c2b i1 h1
  | 5, _ => exact all_5 q0 q1 c1a c1b c2a c2b i1 h1
  | 6, _ => exact all_6 q0 q1 c1a c1b c2a c2b i1 h1
  | 7, _ => exact all_7 q0 q1 c1a c1b c2a c2b i1 h1
  | 8, _ => exact all_8 q0 q1 c1a c1b c2a c2b i1 h1
  | 9, _ => exact all_9 q0 q1 c1a c1b c2a c2b i1 h1
  | 10, _ => exact all_10 q0 q1 c1a c1b c2a c2b i1 h1
  | 11, _ => exact all_11 q0 q1 c1a c1b c2a c2b i1 h1
  | 12, _ => exact all_12 q0 q1 c1a c1b c2a c2b i1 h1
  | 13, _ => exact all_13 q0 q1 c1a c1b c2a c2b i1 h1
  | 14, _ => exact all_14 q0 q1 c1a c1b c2a c2b i1 h1
  | 15, _ => exact all_15 q0 q1 c1a c1b c2a c2b i1 h1
  | 16, _ => exact all_16 q0 q1 c1a c1b c2a c2b i1 h1
  | 17, _ => exact all_17 q0 q1 c1a c1b c2a c2b i1 h1
  | 18, _ => exact all_18 q0 q1 c1a c1b c2a c2b i1 h1
  | 19, _ => exact all_19 q0 q1 c1a c1b c2a c2b i1 h1
  | _ + 20, h => exact absurd h (by omega)
/-- names for the errors that the variables hold -/
def errRho (aE : Nat → Addr) : Rho := ⟨[], fun i => .pointer (some (aE i))⟩
theorem errEE {w0 : World} {base : Nat} {aE : Nat → Addr} (hS : EnvS w0 base aE) : EE w0 base (errRho aE) Pa.envE := by
  have key : ∀ i g, sentG[i]? = some g → ∃ u, inst (errRho aE) (.iface 108 (.opq i)) = some u ∧ w0.cell? ⟨g, 0, none⟩ = some u ∧ g < base := fun i g hi => ⟨_, rfl, hS.at_ i g hi, hS.lt g (List.mem_of_getElem? hi)⟩
  intro g v hv
  unfold Pa.envE at hv
  simp only [lookE] at hv
  split at hv
  · rename_i hb
    cases hv
    obtain rfl := beqT hb
    exact key 0 _ rfl
  split at hv
  · rename_i hb
    cases hv
    obtain rfl := beqT hb
    exact key 1 _ rfl
  split at hv
  · rename_i hb
    cases hv
    obtain rfl := beqT hb
    exact key 2 _ rfl
  split at hv
  · rename_i hb
    cases hv
    obtain rfl := beqT hb
    exact key 3 _ rfl
  split at hv
  · rename_i hb
    cases hv
    obtain rfl := beqT hb
    exact key 4 _ rfl
  split at hv
  · rename_i hb
    cases hv
    obtain rfl := beqT hb
    exact key 5 _ rfl
  split at hv
  · rename_i hb
    cases hv
    obtain rfl := beqT hb
    exact key 6 _ rfl
  split at hv
  · rename_i hb
    cases hv
    obtain rfl := beqT hb
    exact key 7 _ rfl
  split at hv
  · rename_i hb
    cases hv
    obtain rfl := beqT hb
    exact key 8 _ rfl
  split at hv
  · rename_i hb
    cases hv
    obtain rfl := beqT hb
    exact key 9 _ rfl
  split at hv
  · rename_i hb
    cases hv
    obtain rfl := beqT hb
    exact key 10 _ rfl
  split at hv
  · rename_i hb
    cases hv
    obtain rfl := beqT hb
    exact key 11 _ rfl
  split at hv
  · rename_i hb
    cases hv
    obtain rfl := beqT hb
    exact key 12 _ rfl
  split at hv
  · rename_i hb
    cases hv
    obtain rfl := beqT hb
    exact key 13 _ rfl
  split at hv
  · rename_i hb
    cases hv
    obtain rfl := beqT hb
    exact key 14 _ rfl
  split at hv
  · rename_i hb
    cases hv
    obtain rfl := beqT hb
    exact key 15 _ rfl
  split at hv
  · rename_i hb
    cases hv
    obtain rfl := beqT hb
    exact key 16 _ rfl
  cases hv
theorem errOPQ {w0 : World} {base : Nat} {aE : Nat → Addr} (hS : EnvS w0 base aE) : OPQ w0 base (errRho aE) := ⟨aE, fun _ _ => rfl, hS.blk, hS.ne⟩
theorem first_run : okT (Pa.g6 [.nil] .nil 1) = true := by kernel_rfl
theorem law_c {w0 : World} {base : Nat} {aE : Nat → Addr} (hS : EnvS w0 base aE) (n0 n1 : Int) : FnC Tryd.prog 4 #[.int .i64 n0, .int .i64 n1] (WA w0 base []) (fun _ : Unit => .bool true) (fun _ => WA w0 base []) := by
  obtain ⟨i0, h0, e0⟩ := numI_ok n1 (show 0 < 20 by decide)
  obtain ⟨i1, h1, e1⟩ := numI_ok n0 (show 0 < 8 by decide)
  obtain ⟨T2, n2, hF0⟩ := okT_eq first_run
  have hF1 := Pa.g6_ok [.nil] .nil 1
  rw [hF0] at hF1
  exact okT_c (vs := [.int .i64 n0, .int .i64 n1]) (Pa.g4_ok (.lit (.int .i64 (n1.tmod (Int.ofNat 20)))) (.lit (.int .i64 (n1.tmod (Int.ofNat 20) + Int.ofNat 20))) (.lit (.int .i64 (.ofNat i0))) (.lit (.int .i64 (n0.tmod (Int.ofNat 8)))) (.lit (.int .i64 (n0.tmod (Int.ofNat 8) + Int.ofNat 8))) (.lit (.int .i64 (.ofNat i1))) (.lit (.int .i64 n0)) (.lit (.int .i64 n1)) (fun W ρ af hx => remA hx n1 (by decide)) (fun W ρ af hx => addA hx n1 (by decide) (by decide)) (fun W ρ af hx => remB hx e0 (by decide)) (fun W ρ af hx => remA hx n0 (by decide)) (fun W ρ af hx => addA hx n0 (by decide) (by decide)) (fun W ρ af hx => remB hx e1 (by decide)) [] .nil 1 (GOk.quiet hF1 rfl)) (all (.lit (.int .i64 n0)) (.lit (.int .i64 n1)) (.lit (.int .i64 (n1.tmod (Int.ofNat 20)))) (.lit (.int .i64 (n1.tmod (Int.ofNat 20) + Int.ofNat 20))) (.lit (.int .i64 (n0.tmod (Int.ofNat 8)))) (.lit (.int .i64 (n0.tmod (Int.ofNat 8) + Int.ofNat 8))) i0 h0 i1 h1) (errRho aE) (errEE hS) (errOPQ hS) (fun _ _ => rfl)
end Go.Proofs.YtdepmlcnllofiaaDoor.PaL
