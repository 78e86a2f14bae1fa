/-
  Proved here: the statement called with any numbers returns true.
-/
import Derived.Test.YtdepmlcnllofiaaGreatDoorPdDa
import Derived.Test.YtdepmlcnllofiaaGreatDoorPdDb
import Derived.Test.YtdepmlcnllofiaaGreatDoorPdDc
import Derived.Test.YtdepmlcnllofiaaGreatDoorPdDd
import Derived.Test.YtdepmlcnllofiaaGreatDoorPdDe
import Derived.Test.YtdepmlcnllofiaaGreatDoorPdDf
import Derived.Test.YtdepmlcnllofiaaGreatDoorPdDg
import Derived.Test.YtdepmlcnllofiaaGreatDoorPdDh
import Derived.Test.YtdepmlcnllofiaaGreatDoorPdDi
import Derived.Test.YtdepmlcnllofiaaGreatDoorPdDj
import Derived.Test.YtdepmlcnllofiaaGreatDoorPdDk
import Derived.Test.YtdepmlcnllofiaaGreatDoorPdDl
import Derived.Test.YtdepmlcnllofiaaGreatDoorPdDm
import Derived.Test.YtdepmlcnllofiaaGreatDoorPdDn
import Derived.Test.YtdepmlcnllofiaaGreatDoorPdDo
import Derived.Test.YtdepmlcnllofiaaGreatDoorPdDp
import Derived.Test.YtdepmlcnllofiaaGreatDoorEnvQ
import Derived.Test.YtdepmlcnllofiaaGreatDoorTmod
namespace Go.Proofs.YtdepmlcnllofiaaGreatDoor.PdD
open Go.EY Go.EX Go.SX Go.RowKit Env
theorem all_0 (q0 q1 c1a c1b c2a c2b : AV) (i1 : Nat) (h1 : i1 < 4) : okT (Pd.g4 c1a c1b (.lit (.int .i64 (.ofNat 0))) c2a c2b (.lit (.int .i64 (.ofNat i1))) [] q0 q1 .nil 1) = true := by
  match i1, h1 with
  | 0, _ => exact Pd.runD_0_0 q0 q1 c1a c1b c2a c2b
  | 1, _ => exact Pd.runD_0_1 q0 q1 c1a c1b c2a c2b
  | 2, _ => exact Pd.runD_0_2 q0 q1 c1a c1b c2a c2b
  | 3, _ => exact Pd.runD_0_3 q0 q1 c1a c1b c2a c2b
  | _ + 4, h => exact absurd h (by omega)
theorem all_1 (q0 q1 c1a c1b c2a c2b : AV) (i1 : Nat) (h1 : i1 < 4) : okT (Pd.g4 c1a c1b (.lit (.int .i64 (.ofNat 1))) c2a c2b (.lit (.int .i64 (.ofNat i1))) [] q0 q1 .nil 1) = true := by
  match i1, h1 with
  | 0, _ => exact Pd.runD_1_0 q0 q1 c1a c1b c2a c2b
  | 1, _ => exact Pd.runD_1_1 q0 q1 c1a c1b c2a c2b
  | 2, _ => exact Pd.runD_1_2 q0 q1 c1a c1b c2a c2b
  | 3, _ => exact Pd.runD_1_3 q0 q1 c1a c1b c2a c2b
  | _ + 4, h => exact absurd h (by omega)
theorem all_2 (q0 q1 c1a c1b c2a c2b : AV) (i1 : Nat) (h1 : i1 < 4) : okT (Pd.g4 c1a c1b (.lit (.int .i64 (.ofNat 2))) c2a c2b (.lit (.int .i64 (.ofNat i1))) [] q0 q1 .nil 1) = true := by
  match i1, h1 with
  | 0, _ => exact Pd.runD_2_0 q0 q1 c1a c1b c2a c2b
  | 1, _ => exact Pd.runD_2_1 q0 q1 c1a c1b c2a c2b
  | 2, _ => exact Pd.runD_2_2 q0 q1 c1a c1b c2a c2b
  | 3, _ => exact Pd.runD_2_3 q0 q1 c1a c1b c2a c2b
  | _ + 4, h => exact absurd h (by omega)
theorem all_3 (q0 q1 c1a c1b c2a c2b : AV) (i1 : Nat) (h1 : i1 < 4) : okT (Pd.g4 c1a c1b (.lit (.int .i64 (.ofNat 3))) c2a c2b (.lit (.int .i64 (.ofNat i1))) [] q0 q1 .nil 1) = true := by
  match i1, h1 with
  | 0, _ => exact Pd.runD_3_0 q0 q1 c1a c1b c2a c2b
  | 1, _ => exact Pd.runD_3_1 q0 q1 c1a c1b c2a c2b
  | 2, _ => exact Pd.runD_3_2 q0 q1 c1a c1b c2a c2b
  | 3, _ => exact Pd.runD_3_3 q0 q1 c1a c1b c2a c2b
  | _ + 4, h => exact absurd h (by omega)
theorem all_4 (q0 q1 c1a c1b c2a c2b : AV) (i1 : Nat) (h1 : i1 < 4) : okT (Pd.g4 c1a c1b (.lit (.int .i64 (.ofNat 4))) c2a c2b (.lit (.int .i64 (.ofNat i1))) [] q0 q1 .nil 1) = true := by
  match i1, h1 with
  | 0, _ => exact Pd.runD_4_0 q0 q1 c1a c1b c2a c2b
  | 1, _ => exact Pd.runD_4_1 q0 q1 c1a c1b c2a c2b
  | 2, _ => exact Pd.runD_4_2 q0 q1 c1a c1b c2a c2b
  | 3, _ => exact Pd.runD_4_3 q0 q1 c1a c1b c2a c2b
  | _ + 4, h => exact absurd h (by omega)
theorem all_5 (q0 q1 c1a c1b c2a c2b : AV) (i1 : Nat) (h1 : i1 < 4) : okT (Pd.g4 c1a c1b (.lit (.int .i64 (.ofNat 5))) c2a c2b (.lit (.int .i64 (.ofNat i1))) [] q0 q1 .nil 1) = true := by
  match i1, h1 with
  | 0, _ => exact Pd.runD_5_0 q0 q1 c1a c1b c2a c2b
  | 1, _ => exact Pd.runD_5_1 q0 q1 c1a c1b c2a c2b
  | 2, _ => exact Pd.runD_5_2 q0 q1 c1a c1b c2a c2b
  | 3, _ => exact Pd.runD_5_3 q0 q1 c1a c1b c2a c2b
  | _ + 4, h => exact absurd h (by omega)
theorem all_6 (q0 q1 c1a c1b c2a c2b : AV) (i1 : Nat) (h1 : i1 < 4) : okT (Pd.g4 c1a c1b (.lit (.int .i64 (.ofNat 6))) c2a c2b (.lit (.int .i64 (.ofNat i1))) [] q0 q1 .nil 1) = true := by
  match i1, h1 with
  | 0, _ => exact Pd.runD_6_0 q0 q1 c1a c1b c2a c2b
  | 1, _ => exact Pd.runD_6_1 q0 q1 c1a c1b c2a c2b
  | 2, _ => exact Pd.runD_6_2 q0 q1 c1a c1b c2a c2b
  | 3, _ => exact Pd.runD_6_3 q0 q1 c1a c1b c2a c2b
  | _ + 4, h => exact absurd h (by omega)
theorem all_7 (q0 q1 c1a c1b c2a c2b : AV) (i1 : Nat) (h1 : i1 < 4) : okT (Pd.g4 c1a c1b (.lit (.int .i64 (.ofNat 7))) c2a c2b (.lit (.int .i64 (.ofNat i1))) [] q0 q1 .nil 1) = true := by
  match i1, h1 with
  | 0, _ => exact Pd.runD_7_0 q0 q1 c1a c1b c2a c2b
  | 1, _ => exact Pd.runD_7_1 q0 q1 c1a c1b c2a c2b
  | 2, _ => exact Pd.runD_7_2 q0 q1 c1a c1b c2a c2b
  | 3, _ => exact Pd.runD_7_3 q0 q1 c1a c1b c2a c2b
  | _ + 4, h => exact absurd h (by omega)
theorem all_8 (q0 q1 c1a c1b c2a c2b : AV) (i1 : Nat) (h1 : i1 < 4) : okT (Pd.g4 c1a c1b (.lit (.int .i64 (.ofNat 8))) c2a c2b (.lit (.int .i64 (.ofNat i1))) [] q0 q1 .nil 1) = true := by
  match i1, h1 with
  | 0, _ => exact Pd.runD_8_0 q0 q1 c1a c1b c2a c2b
  | 1, _ => exact Pd.runD_8_1 q0 q1 c1a c1b c2a c2b
  | 2, _ => exact Pd.runD_8_2 q0 q1 c1a c1b c2a c2b
  | 3, _ => exact Pd.runD_8_3 q0 q1 c1a c1b c2a c2b
  | _ + 4, h => exact absurd h (by omega)
theorem all_9 (q0 q1 c1a c1b c2a c2b : AV) (i1 : Nat) (h1 : i1 < 4) : okT (Pd.g4 c1a c1b (.lit (.int .i64 (.ofNat 9))) c2a c2b (.lit (.int .i64 (.ofNat i1))) [] q0 q1 .nil 1) = true := by
  match i1, h1 with
  | 0, _ => exact Pd.runD_9_0 q0 q1 c1a c1b c2a c2b
  | 1, _ => exact Pd.runD_9_1 q0 q1 c1a c1b c2a c2b
  | 2, _ => exact Pd.runD_9_2 q0 q1 c1a c1b c2a c2b
  | 3, _ => exact Pd.runD_9_3 q0 q1 c1a c1b c2a c2b
  | _ + 4, h => exact absurd h (by omega)
theorem all_10 (q0 q1 c1a c1b c2a c2b : AV) (i1 : Nat) (h1 : i1 < 4) : okT (Pd.g4 c1a c1b (.lit (.int .i64 (.ofNat 10))) c2a c2b (.lit (.int .i64 (.ofNat i1))) [] q0 q1 .nil 1) = true := by
  match i1, h1 with
  | 0, _ => exact Pd.runD_10_0 q0 q1 c1a c1b c2a c2b
  | 1, _ => exact Pd.runD_10_1 q0 q1 c1a c1b c2a c2b
  | 2, _ => exact Pd.runD_10_2 q0 q1 c1a c1b c2a c2b
  | 3, _ => exact Pd.runD_10_3 q0 q1 c1a c1b c2a c2b
  | _ + 4, h => exact absurd h (by omega)
theorem all_11 (q0 q1 c1a c1b c2a c2b : AV) (i1 : Nat) (h1 : i1 < 4) : okT (Pd.g4 c1a c1b (.lit (.int .i64 (.ofNat 11))) c2a c2b (.lit (.int .i64 (.ofNat i1))) [] q0 q1 .nil 1) = true := by
  match i1, h1 with
  | 0, _ => exact Pd.runD_11_0 q0 q1 c1a c1b c2a c2b
  | 1, _ => exact Pd.runD_11_1 q0 q1 c1a c1b c2a c2b
  | 2, _ => exact Pd.runD_11_2 q0 q1 c1a c1b c2a c2b
  | 3, _ => exact Pd.runD_11_3 q0 q1 c1a c1b c2a c2b
  | _ + 4, h => exact absurd h (by omega)
theorem all_12 (q0 q1 c1a c1b c2a c2b : AV) (i1 : Nat) (h1 : i1 < 4) : okT (Pd.g4 c1a c1b (.lit (.int .i64 (.ofNat 12))) c2a c2b (.lit (.int .i64 (.ofNat i1))) [] q0 q1 .nil 1) = true := by
  match i1, h1 with
  | 0, _ => exact Pd.runD_12_0 q0 q1 c1a c1b c2a c2b
  | 1, _ => exact Pd.runD_12_1 q0 q1 c1a c1b c2a c2b
  | 2, _ => exact Pd.runD_12_2 q0 q1 c1a c1b c2a c2b
  | 3, _ => exact Pd.runD_12_3 q0 q1 c1a c1b c2a c2b
  | _ + 4, h => exact absurd h (by omega)
theorem all_13 (q0 q1 c1a c1b c2a c2b : AV) (i1 : Nat) (h1 : i1 < 4) : okT (Pd.g4 c1a c1b (.lit (.int .i64 (.ofNat 13))) c2a c2b (.lit (.int .i64 (.ofNat i1))) [] q0 q1 .nil 1) = true := by
  match i1, h1 with
  | 0, _ => exact Pd.runD_13_0 q0 q1 c1a c1b c2a c2b
  | 1, _ => exact Pd.runD_13_1 q0 q1 c1a c1b c2a c2b
  | 2, _ => exact Pd.runD_13_2 q0 q1 c1a c1b c2a c2b
  | 3, _ => exact Pd.runD_13_3 q0 q1 c1a c1b c2a c2b
  | _ + 4, h => exact absurd h (by omega)
theorem all_14 (q0 q1 c1a c1b c2a c2b : AV) (i1 : Nat) (h1 : i1 < 4) : okT (Pd.g4 c1a c1b (.lit (.int .i64 (.ofNat 14))) c2a c2b (.lit (.int .i64 (.ofNat i1))) [] q0 q1 .nil 1) = true := by
  match i1, h1 with
  | 0, _ => exact Pd.runD_14_0 q0 q1 c1a c1b c2a c2b
  | 1, _ => exact Pd.runD_14_1 q0 q1 c1a c1b c2a c2b
  | 2, _ => exact Pd.runD_14_2 q0 q1 c1a c1b c2a c2b
  | 3, _ => exact Pd.runD_14_3 q0 q1 c1a c1b c2a c2b
  | _ + 4, h => exact absurd h (by omega)
theorem all_15 (q0 q1 c1a c1b c2a c2b : AV) (i1 : Nat) (h1 : i1 < 4) : okT (Pd.g4 c1a c1b (.lit (.int .i64 (.ofNat 15))) c2a c2b (.lit (.int .i64 (.ofNat i1))) [] q0 q1 .nil 1) = true := by
  match i1, h1 with
  | 0, _ => exact Pd.runD_15_0 q0 q1 c1a c1b c2a c2b
  | 1, _ => exact Pd.runD_15_1 q0 q1 c1a c1b c2a c2b
  | 2, _ => exact Pd.runD_15_2 q0 q1 c1a c1b c2a c2b
  | 3, _ => exact Pd.runD_15_3 q0 q1 c1a c1b c2a c2b
  | _ + 4, h => exact absurd h (by omega)
theorem all_16 (q0 q1 c1a c1b c2a c2b : AV) (i1 : Nat) (h1 : i1 < 4) : okT (Pd.g4 c1a c1b (.lit (.int .i64 (.ofNat 16))) c2a c2b (.lit (.int .i64 (.ofNat i1))) [] q0 q1 .nil 1) = true := by
  match i1, h1 with
  | 0, _ => exact Pd.runD_16_0 q0 q1 c1a c1b c2a c2b
  | 1, _ => exact Pd.runD_16_1 q0 q1 c1a c1b c2a c2b
  | 2, _ => exact Pd.runD_16_2 q0 q1 c1a c1b c2a c2b
  | 3, _ => exact Pd.runD_16_3 q0 q1 c1a c1b c2a c2b
  | _ + 4, h => exact absurd h (by omega)
theorem all_17 (q0 q1 c1a c1b c2a c2b : AV) (i1 : Nat) (h1 : i1 < 4) : okT (Pd.g4 c1a c1b (.lit (.int .i64 (.ofNat 17))) c2a c2b (.lit (.int .i64 (.ofNat i1))) [] q0 q1 .nil 1) = true := by
  match i1, h1 with
  | 0, _ => exact Pd.runD_17_0 q0 q1 c1a c1b c2a c2b
  | 1, _ => exact Pd.runD_17_1 q0 q1 c1a c1b c2a c2b
  | 2, _ => exact Pd.runD_17_2 q0 q1 c1a c1b c2a c2b
  | 3, _ => exact Pd.runD_17_3 q0 q1 c1a c1b c2a c2b
  | _ + 4, h => exact absurd h (by omega)
theorem all_18 (q0 q1 c1a c1b c2a c2b : AV) (i1 : Nat) (h1 : i1 < 4) : okT (Pd.g4 c1a c1b (.lit (.int .i64 (.ofNat 18))) c2a c2b (.lit (.int .i64 (.ofNat i1))) [] q0 q1 .nil 1) = true := by
  match i1, h1 with
  | 0, _ => exact Pd.runD_18_0 q0 q1 c1a c1b c2a c2b
  | 1, _ => exact Pd.runD_18_1 q0 q1 c1a c1b c2a c2b
  | 2, _ => exact Pd.runD_18_2 q0 q1 c1a c1b c2a c2b
  | 3, _ => exact Pd.runD_18_3 q0 q1 c1a c1b c2a c2b
  | _ + 4, h => exact absurd h (by omega)
theorem all_19 (q0 q1 c1a c1b c2a c2b : AV) (i1 : Nat) (h1 : i1 < 4) : okT (Pd.g4 c1a c1b (.lit (.int .i64 (.ofNat 19))) c2a c2b (.lit (.int .i64 (.ofNat i1))) [] q0 q1 .nil 1) = true := by
  match i1, h1 with
  | 0, _ => exact Pd.runD_19_0 q0 q1 c1a c1b c2a c2b
  | 1, _ => exact Pd.runD_19_1 q0 q1 c1a c1b c2a c2b
  | 2, _ => exact Pd.runD_19_2 q0 q1 c1a c1b c2a c2b
  | 3, _ => exact Pd.runD_19_3 q0 q1 c1a c1b c2a c2b
  | _ + 4, h => exact absurd h (by omega)
theorem all_20 (q0 q1 c1a c1b c2a c2b : AV) (i1 : Nat) (h1 : i1 < 4) : okT (Pd.g4 c1a c1b (.lit (.int .i64 (.ofNat 20))) c2a c2b (.lit (.int .i64 (.ofNat i1))) [] q0 q1 .nil 1) = true := by
  match i1, h1 with
  | 0, _ => exact Pd.runD_20_0 q0 q1 c1a c1b c2a c2b
  | 1, _ => exact Pd.runD_20_1 q0 q1 c1a c1b c2a c2b
  | 2, _ => exact Pd.runD_20_2 q0 q1 c1a c1b c2a c2b
  | 3, _ => exact Pd.runD_20_3 q0 q1 c1a c1b c2a c2b
  | _ + 4, h => exact absurd h (by omega)
theorem all_21 (q0 q1 c1a c1b c2a c2b : AV) (i1 : Nat) (h1 : i1 < 4) : okT (Pd.g4 c1a c1b (.lit (.int .i64 (.ofNat 21))) c2a c2b (.lit (.int .i64 (.ofNat i1))) [] q0 q1 .nil 1) = true := by
  match i1, h1 with
  | 0, _ => exact Pd.runD_21_0 q0 q1 c1a c1b c2a c2b
  | 1, _ => exact Pd.runD_21_1 q0 q1 c1a c1b c2a c2b
  | 2, _ => exact Pd.runD_21_2 q0 q1 c1a c1b c2a c2b
  | 3, _ => exact Pd.runD_21_3 q0 q1 c1a c1b c2a c2b
  | _ + 4, h => exact absurd h (by omega)
theorem all_22 (q0 q1 c1a c1b c2a c2b : AV) (i1 : Nat) (h1 : i1 < 4) : okT (Pd.g4 c1a c1b (.lit (.int .i64 (.ofNat 22))) c2a c2b (.lit (.int .i64 (.ofNat i1))) [] q0 q1 .nil 1) = true := by
  match i1, h1 with
  | 0, _ => exact Pd.runD_22_0 q0 q1 c1a c1b c2a c2b
  | 1, _ => exact Pd.runD_22_1 q0 q1 c1a c1b c2a c2b
  | 2, _ => exact Pd.runD_22_2 q0 q1 c1a c1b c2a c2b
  | 3, _ => exact Pd.runD_22_3 q0 q1 c1a c1b c2a c2b
  | _ + 4, h => exact absurd h (by omega)
theorem all_23 (q0 q1 c1a c1b c2a c2b : AV) (i1 : Nat) (h1 : i1 < 4) : okT (Pd.g4 c1a c1b (.lit (.int .i64 (.ofNat 23))) c2a c2b (.lit (.int .i64 (.ofNat i1))) [] q0 q1 .nil 1) = true := by
  match i1, h1 with
  | 0, _ => exact Pd.runD_23_0 q0 q1 c1a c1b c2a c2b
  | 1, _ => exact Pd.runD_23_1 q0 q1 c1a c1b c2a c2b
  | 2, _ => exact Pd.runD_23_2 q0 q1 c1a c1b c2a c2b
  | 3, _ => exact Pd.runD_23_3 q0 q1 c1a c1b c2a c2b
  | _ + 4, h => exact absurd h (by omega)
theorem all_24 (q0 q1 c1a c1b c2a c2b : AV) (i1 : Nat) (h1 : i1 < 4) : okT (Pd.g4 c1a c1b (.lit (.int .i64 (.ofNat 24))) c2a c2b (.lit (.int .i64 (.ofNat i1))) [] q0 q1 .nil 1) = true := by
  match i1, h1 with
  | 0, _ => exact Pd.runD_24_0 q0 q1 c1a c1b c2a c2b
  | 1, _ => exact Pd.runD_24_1 q0 q1 c1a c1b c2a c2b
  | 2, _ => exact Pd.runD_24_2 q0 q1 c1a c1b c2a c2b
  | 3, _ => exact Pd.runD_24_3 q0 q1 c1a c1b c2a c2b
  | _ + 4, h => exact absurd h (by omega)
theorem all_25 (q0 q1 c1a c1b c2a c2b : AV) (i1 : Nat) (h1 : i1 < 4) : okT (Pd.g4 c1a c1b (.lit (.int .i64 (.ofNat 25))) c2a c2b (.lit (.int .i64 (.ofNat i1))) [] q0 q1 .nil 1) = true := by
  match i1, h1 with
  | 0, _ => exact Pd.runD_25_0 q0 q1 c1a c1b c2a c2b
  | 1, _ => exact Pd.runD_25_1 q0 q1 c1a c1b c2a c2b
  | 2, _ => exact Pd.runD_25_2 q0 q1 c1a c1b c2a c2b
  | 3, _ => exact Pd.runD_25_3 q0 q1 c1a c1b c2a c2b
  | _ + 4, h => exact absurd h (by omega)
theorem all_26 (q0 q1 c1a c1b c2a c2b : AV) (i1 : Nat) (h1 : i1 < 4) : okT (Pd.g4 c1a c1b (.lit (.int .i64 (.ofNat 26))) c2a c2b (.lit (.int .i64 (.ofNat i1))) [] q0 q1 .nil 1) = true := by
  match i1, h1 with
  | 0, _ => exact Pd.runD_26_0 q0 q1 c1a c1b c2a c2b
  | 1, _ => exact Pd.runD_26_1 q0 q1 c1a c1b c2a c2b
  | 2, _ => exact Pd.runD_26_2 q0 q1 c1a c1b c2a c2b
  | 3, _ => exact Pd.runD_26_3 q0 q1 c1a c1b c2a c2b
  | _ + 4, h => exact absurd h (by omega)
theorem all_27 (q0 q1 c1a c1b c2a c2b : AV) (i1 : Nat) (h1 : i1 < 4) : okT (Pd.g4 c1a c1b (.lit (.int .i64 (.ofNat 27))) c2a c2b (.lit (.int .i64 (.ofNat i1))) [] q0 q1 .nil 1) = true := by
  match i1, h1 with
  | 0, _ => exact Pd.runD_27_0 q0 q1 c1a c1b c2a c2b
  | 1, _ => exact Pd.runD_27_1 q0 q1 c1a c1b c2a c2b
  | 2, _ => exact Pd.runD_27_2 q0 q1 c1a c1b c2a c2b
  | 3, _ => exact Pd.runD_27_3 q0 q1 c1a c1b c2a c2b
  | _ + 4, h => exact absurd h (by omega)
theorem all_28 (q0 q1 c1a c1b c2a c2b : AV) (i1 : Nat) (h1 : i1 < 4) : okT (Pd.g4 c1a c1b (.lit (.int .i64 (.ofNat 28))) c2a c2b (.lit (.int .i64 (.ofNat i1))) [] q0 q1 .nil 1) = true := by
  match i1, h1 with
  | 0, _ => exact Pd.runD_28_0 q0 q1 c1a c1b c2a c2b
  | 1, _ => exact Pd.runD_28_1 q0 q1 c1a c1b c2a c2b
  | 2, _ => exact Pd.runD_28_2 q0 q1 c1a c1b c2a c2b
  | 3, _ => exact Pd.runD_28_3 q0 q1 c1a c1b c2a c2b
  | _ + 4, h => exact absurd h (by omega)
theorem all_29 (q0 q1 c1a c1b c2a c2b : AV) (i1 : Nat) (h1 : i1 < 4) : okT (Pd.g4 c1a c1b (.lit (.int .i64 (.ofNat 29))) c2a c2b (.lit (.int .i64 (.ofNat i1))) [] q0 q1 .nil 1) = true := by
  match i1, h1 with
  | 0, _ => exact Pd.runD_29_0 q0 q1 c1a c1b c2a c2b
  | 1, _ => exact Pd.runD_29_1 q0 q1 c1a c1b c2a c2b
  | 2, _ => exact Pd.runD_29_2 q0 q1 c1a c1b c2a c2b
  | 3, _ => exact Pd.runD_29_3 q0 q1 c1a c1b c2a c2b
  | _ + 4, h => exact absurd h (by omega)
theorem all_30 (q0 q1 c1a c1b c2a c2b : AV) (i1 : Nat) (h1 : i1 < 4) : okT (Pd.g4 c1a c1b (.lit (.int .i64 (.ofNat 30))) c2a c2b (.lit (.int .i64 (.ofNat i1))) [] q0 q1 .nil 1) = true := by
  match i1, h1 with
  | 0, _ => exact Pd.runD_30_0 q0 q1 c1a c1b c2a c2b
  | 1, _ => exact Pd.runD_30_1 q0 q1 c1a c1b c2a c2b
  | 2, _ => exact Pd.runD_30_2 q0 q1 c1a c1b c2a c2b
  | 3, _ => exact Pd.runD_30_3 q0 q1 c1a c1b c2a c2b
  | _ + 4, h => exact absurd h (by omega)
theorem all_31 (q0 q1 c1a c1b c2a c2b : AV) (i1 : Nat) (h1 : i1 < 4) : okT (Pd.g4 c1a c1b (.lit (.int .i64 (.ofNat 31))) c2a c2b (.lit (.int .i64 (.ofNat i1))) [] q0 q1 .nil 1) = true := by
  match i1, h1 with
  | 0, _ => exact Pd.runD_31_0 q0 q1 c1a c1b c2a c2b
  | 1, _ => exact Pd.runD_31_1 q0 q1 c1a c1b c2a c2b
  | 2, _ => exact Pd.runD_31_2 q0 q1 c1a c1b c2a c2b
  | 3, _ => exact Pd.runD_31_3 q0 q1 c1a c1b c2a c2b
  | _ + 4, h => exact absurd h (by omega)
theorem all_32 (q0 q1 c1a c1b c2a c2b : AV) (i1 : Nat) (h1 : i1 < 4) : okT (Pd.g4 c1a c1b (.lit (.int .i64 (.ofNat 32))) c2a c2b (.lit (.int .i64 (.ofNat i1))) [] q0 q1 .nil 1) = true := by
  match i1, h1 with
  | 0, _ => exact Pd.runD_32_0 q0 q1 c1a c1b c2a c2b
  | 1, _ => exact Pd.runD_32_1 q0 q1 c1a c1b c2a c2b
  | 2, _ => exact Pd.runD_32_2 q0 q1 c1a c1b c2a c2b
  | 3, _ => exact Pd.runD_32_3 q0 q1 c1a c1b c2a c2b
  | _ + 4, h => exact absurd h (by omega)
theorem all_33 (q0 q1 c1a c1b c2a c2b : AV) (i1 : Nat) (h1 : i1 < 4) : okT (Pd.g4 c1a c1b (.lit (.int .i64 (.ofNat 33))) c2a c2b (.lit (.int .i64 (.ofNat i1))) [] q0 q1 .nil 1) = true := by
  match i1, h1 with
  | 0, _ => exact Pd.runD_33_0 q0 q1 c1a c1b c2a c2b
  | 1, _ => exact Pd.runD_33_1 q0 q1 c1a c1b c2a c2b
  | 2, _ => exact Pd.runD_33_2 q0 q1 c1a c1b c2a c2b
  | 3, _ => exact Pd.runD_33_3 q0 q1 c1a c1b c2a c2b
  | _ + 4, h => exact absurd h (by omega)
theorem all_34 (q0 q1 c1a c1b c2a c2b : AV) (i1 : Nat) (h1 : i1 < 4) : okT (Pd.g4 c1a c1b (.lit (.int .i64 (.ofNat 34))) c2a c2b (.lit (.int .i64 (.ofNat i1))) [] q0 q1 .nil 1) = true := by
  match i1, h1 with
  | 0, _ => exact Pd.runD_34_0 q0 q1 c1a c1b c2a c2b
  | 1, _ => exact Pd.runD_34_1 q0 q1 c1a c1b c2a c2b
  | 2, _ => exact Pd.runD_34_2 q0 q1 c1a c1b c2a c2b
  | 3, _ => exact Pd.runD_34_3 q0 q1 c1a c1b c2a c2b
  | _ + 4, h => exact absurd h (by omega)
theorem all_35 (q0 q1 c1a c1b c2a c2b : AV) (i1 : Nat) (h1 : i1 < 4) : okT (Pd.g4 c1a c1b (.lit (.int .i64 (.ofNat 35))) c2a c2b (.lit (.int .i64 (.ofNat i1))) [] q0 q1 .nil 1) = true := by
  match i1, h1 with
  | 0, _ => exact Pd.runD_35_0 q0 q1 c1a c1b c2a c2b
  | 1, _ => exact Pd.runD_35_1 q0 q1 c1a c1b c2a c2b
  | 2, _ => exact Pd.runD_35_2 q0 q1 c1a c1b c2a c2b
  | 3, _ => exact Pd.runD_35_3 q0 q1 c1a c1b c2a c2b
  | _ + 4, h => exact absurd h (by omega)
theorem all_36 (q0 q1 c1a c1b c2a c2b : AV) (i1 : Nat) (h1 : i1 < 4) : okT (Pd.g4 c1a c1b (.lit (.int .i64 (.ofNat 36))) c2a c2b (.lit (.int .i64 (.ofNat i1))) [] q0 q1 .nil 1) = true := by
  match i1, h1 with
  | 0, _ => exact Pd.runD_36_0 q0 q1 c1a c1b c2a c2b
  | 1, _ => exact Pd.runD_36_1 q0 q1 c1a c1b c2a c2b
  | 2, _ => exact Pd.runD_36_2 q0 q1 c1a c1b c2a c2b
  | 3, _ => exact Pd.runD_36_3 q0 q1 c1a c1b c2a c2b
  | _ + 4, h => exact absurd h (by omega)
theorem all_37 (q0 q1 c1a c1b c2a c2b : AV) (i1 : Nat) (h1 : i1 < 4) : okT (Pd.g4 c1a c1b (.lit (.int .i64 (.ofNat 37))) c2a c2b (.lit (.int .i64 (.ofNat i1))) [] q0 q1 .nil 1) = true := by
  match i1, h1 with
  | 0, _ => exact Pd.runD_37_0 q0 q1 c1a c1b c2a c2b
  | 1, _ => exact Pd.runD_37_1 q0 q1 c1a c1b c2a c2b
  | 2, _ => exact Pd.runD_37_2 q0 q1 c1a c1b c2a c2b
  | 3, _ => exact Pd.runD_37_3 q0 q1 c1a c1b c2a c2b
  | _ + 4, h => exact absurd h (by omega)
theorem all_38 (q0 q1 c1a c1b c2a c2b : AV) (i1 : Nat) (h1 : i1 < 4) : okT (Pd.g4 c1a c1b (.lit (.int .i64 (.ofNat 38))) c2a c2b (.lit (.int .i64 (.ofNat i1))) [] q0 q1 .nil 1) = true := by
  match i1, h1 with
  | 0, _ => exact Pd.runD_38_0 q0 q1 c1a c1b c2a c2b
  | 1, _ => exact Pd.runD_38_1 q0 q1 c1a c1b c2a c2b
  | 2, _ => exact Pd.runD_38_2 q0 q1 c1a c1b c2a c2b
  | 3, _ => exact Pd.runD_38_3 q0 q1 c1a c1b c2a c2b
  | _ + 4, h => exact absurd h (by omega)
theorem all_39 (q0 q1 c1a c1b c2a c2b : AV) (i1 : Nat) (h1 : i1 < 4) : okT (Pd.g4 c1a c1b (.lit (.int .i64 (.ofNat 39))) c2a c2b (.lit (.int .i64 (.ofNat i1))) [] q0 q1 .nil 1) = true := by
  match i1, h1 with
  | 0, _ => exact Pd.runD_39_0 q0 q1 c1a c1b c2a c2b
  | 1, _ => exact Pd.runD_39_1 q0 q1 c1a c1b c2a c2b
  | 2, _ => exact Pd.runD_39_2 q0 q1 c1a c1b c2a c2b
  | 3, _ => exact Pd.runD_39_3 q0 q1 c1a c1b c2a c2b
  | _ + 4, h => exact absurd h (by omega)
theorem all_40 (q0 q1 c1a c1b c2a c2b : AV) (i1 : Nat) (h1 : i1 < 4) : okT (Pd.g4 c1a c1b (.lit (.int .i64 (.ofNat 40))) c2a c2b (.lit (.int .i64 (.ofNat i1))) [] q0 q1 .nil 1) = true := by
  match i1, h1 with
  | 0, _ => exact Pd.runD_40_0 q0 q1 c1a c1b c2a c2b
  | 1, _ => exact Pd.runD_40_1 q0 q1 c1a c1b c2a c2b
  | 2, _ => exact Pd.runD_40_2 q0 q1 c1a c1b c2a c2b
  | 3, _ => exact Pd.runD_40_3 q0 q1 c1a c1b c2a c2b
  | _ + 4, h => exact absurd h (by omega)
theorem all_41 (q0 q1 c1a c1b c2a c2b : AV) (i1 : Nat) (h1 : i1 < 4) : okT (Pd.g4 c1a c1b (.lit (.int .i64 (.ofNat 41))) c2a c2b (.lit (.int .i64 (.ofNat i1))) [] q0 q1 .nil 1) = true := by
  match i1, h1 with
  | 0, _ => exact Pd.runD_41_0 q0 q1 c1a c1b c2a c2b
  | 1, _ => exact Pd.runD_41_1 q0 q1 c1a c1b c2a c2b
  | 2, _ => exact Pd.runD_41_2 q0 q1 c1a c1b c2a c2b
  | 3, _ => exact Pd.runD_41_3 q0 q1 c1a c1b c2a c2b
  | _ + 4, h => exact absurd h (by omega)
theorem all_42 (q0 q1 c1a c1b c2a c2b : AV) (i1 : Nat) (h1 : i1 < 4) : okT (Pd.g4 c1a c1b (.lit (.int .i64 (.ofNat 42))) c2a c2b (.lit (.int .i64 (.ofNat i1))) [] q0 q1 .nil 1) = true := by
  match i1, h1 with
  | 0, _ => exact Pd.runD_42_0 q0 q1 c1a c1b c2a c2b
  | 1, _ => exact Pd.runD_42_1 q0 q1 c1a c1b c2a c2b
  | 2, _ => exact Pd.runD_42_2 q0 q1 c1a c1b c2a c2b
  | 3, _ => exact Pd.runD_42_3 q0 q1 c1a c1b c2a c2b
  | _ + 4, h => exact absurd h (by omega)
theorem all_43 (q0 q1 c1a c1b c2a c2b : AV) (i1 : Nat) (h1 : i1 < 4) : okT (Pd.g4 c1a c1b (.lit (.int .i64 (.ofNat 43))) c2a c2b (.lit (.int .i64 (.ofNat i1))) [] q0 q1 .nil 1) = true := by
  match i1, h1 with
  | 0, _ => exact Pd.runD_43_0 q0 q1 c1a c1b c2a c2b
  | 1, _ => exact Pd.runD_43_1 q0 q1 c1a c1b c2a c2b
  | 2, _ => exact Pd.runD_43_2 q0 q1 c1a c1b c2a c2b
  | 3, _ => exact Pd.runD_43_3 q0 q1 c1a c1b c2a c2b
  | _ + 4, h => exact absurd h (by omega)
theorem all_44 (q0 q1 c1a c1b c2a c2b : AV) (i1 : Nat) (h1 : i1 < 4) : okT (Pd.g4 c1a c1b (.lit (.int .i64 (.ofNat 44))) c2a c2b (.lit (.int .i64 (.ofNat i1))) [] q0 q1 .nil 1) = true := by
  match i1, h1 with
  | 0, _ => exact Pd.runD_44_0 q0 q1 c1a c1b c2a c2b
  | 1, _ => exact Pd.runD_44_1 q0 q1 c1a c1b c2a c2b
  | 2, _ => exact Pd.runD_44_2 q0 q1 c1a c1b c2a c2b
  | 3, _ => exact Pd.runD_44_3 q0 q1 c1a c1b c2a c2b
  | _ + 4, h => exact absurd h (by omega)
theorem all_45 (q0 q1 c1a c1b c2a c2b : AV) (i1 : Nat) (h1 : i1 < 4) : okT (Pd.g4 c1a c1b (.lit (.int .i64 (.ofNat 45))) c2a c2b (.lit (.int .i64 (.ofNat i1))) [] q0 q1 .nil 1) = true := by
  match i1, h1 with
  | 0, _ => exact Pd.runD_45_0 q0 q1 c1a c1b c2a c2b
  | 1, _ => exact Pd.runD_45_1 q0 q1 c1a c1b c2a c2b
  | 2, _ => exact Pd.runD_45_2 q0 q1 c1a c1b c2a c2b
  | 3, _ => exact Pd.runD_45_3 q0 q1 c1a c1b c2a c2b
  | _ + 4, h => exact absurd h (by omega)
theorem all_46 (q0 q1 c1a c1b c2a c2b : AV) (i1 : Nat) (h1 : i1 < 4) : okT (Pd.g4 c1a c1b (.lit (.int .i64 (.ofNat 46))) c2a c2b (.lit (.int .i64 (.ofNat i1))) [] q0 q1 .nil 1) = true := by
  match i1, h1 with
  | 0, _ => exact Pd.runD_46_0 q0 q1 c1a c1b c2a c2b
  | 1, _ => exact Pd.runD_46_1 q0 q1 c1a c1b c2a c2b
  | 2, _ => exact Pd.runD_46_2 q0 q1 c1a c1b c2a c2b
  | 3, _ => exact Pd.runD_46_3 q0 q1 c1a c1b c2a c2b
  | _ + 4, h => exact absurd h (by omega)
theorem all_47 (q0 q1 c1a c1b c2a c2b : AV) (i1 : Nat) (h1 : i1 < 4) : okT (Pd.g4 c1a c1b (.lit (.int .i64 (.ofNat 47))) c2a c2b (.lit (.int .i64 (.ofNat i1))) [] q0 q1 .nil 1) = true := by
  match i1, h1 with
  | 0, _ => exact Pd.runD_47_0 q0 q1 c1a c1b c2a c2b
  | 1, _ => exact Pd.runD_47_1 q0 q1 c1a c1b c2a c2b
  | 2, _ => exact Pd.runD_47_2 q0 q1 c1a c1b c2a c2b
  | 3, _ => exact Pd.runD_47_3 q0 q1 c1a c1b c2a c2b
  | _ + 4, h => exact absurd h (by omega)
theorem all_48 (q0 q1 c1a c1b c2a c2b : AV) (i1 : Nat) (h1 : i1 < 4) : okT (Pd.g4 c1a c1b (.lit (.int .i64 (.ofNat 48))) c2a c2b (.lit (.int .i64 (.ofNat i1))) [] q0 q1 .nil 1) = true := by
  match i1, h1 with
  | 0, _ => exact Pd.runD_48_0 q0 q1 c1a c1b c2a c2b
  | 1, _ => exact Pd.runD_48_1 q0 q1 c1a c1b c2a c2b
  | 2, _ => exact Pd.runD_48_2 q0 q1 c1a c1b c2a c2b
  | 3, _ => exact Pd.runD_48_3 q0 q1 c1a c1b c2a c2b
  | _ + 4, h => exact absurd h (by omega)
theorem all_49 (q0 q1 c1a c1b c2a c2b : AV) (i1 : Nat) (h1 : i1 < 4) : okT (Pd.g4 c1a c1b (.lit (.int .i64 (.ofNat 49))) c2a c2b (.lit (.int .i64 (.ofNat i1))) [] q0 q1 .nil 1) = true := by
  match i1, h1 with
  | 0, _ => exact Pd.runD_49_0 q0 q1 c1a c1b c2a c2b
  | 1, _ => exact Pd.runD_49_1 q0 q1 c1a c1b c2a c2b
  | 2, _ => exact Pd.runD_49_2 q0 q1 c1a c1b c2a c2b
  | 3, _ => exact Pd.runD_49_3 q0 q1 c1a c1b c2a c2b
  | _ + 4, h => exact absurd h (by omega)
theorem all_50 (q0 q1 c1a c1b c2a c2b : AV) (i1 : Nat) (h1 : i1 < 4) : okT (Pd.g4 c1a c1b (.lit (.int .i64 (.ofNat 50))) c2a c2b (.lit (.int .i64 (.ofNat i1))) [] q0 q1 .nil 1) = true := by
  match i1, h1 with
  | 0, _ => exact Pd.runD_50_0 q0 q1 c1a c1b c2a c2b
  | 1, _ => exact Pd.runD_50_1 q0 q1 c1a c1b c2a c2b
  | 2, _ => exact Pd.runD_50_2 q0 q1 c1a c1b c2a c2b
  | 3, _ => exact Pd.runD_50_3 q0 q1 c1a c1b c2a c2b
  | _ + 4, h => exact absurd h (by omega)
theorem all_51 (q0 q1 c1a c1b c2a c2b : AV) (i1 : Nat) (h1 : i1 < 4) : okT (Pd.g4 c1a c1b (.lit (.int .i64 (.ofNat 51))) c2a c2b (.lit (.int .i64 (.ofNat i1))) [] q0 q1 .nil 1) = true := by
  match i1, h1 with
  | 0, _ => exact Pd.runD_51_0 q0 q1 c1a c1b c2a c2b
  | 1, _ => exact Pd.runD_51_1 q0 q1 c1a c1b c2a c2b
  | 2, _ => exact Pd.runD_51_2 q0 q1 c1a c1b c2a c2b
  | 3, _ => exact Pd.runD_51_3 q0 q1 c1a c1b c2a c2b
  | _ + 4, h => exact absurd h (by omega)
theorem all_52 (q0 q1 c1a c1b c2a c2b : AV) (i1 : Nat) (h1 : i1 < 4) : okT (Pd.g4 c1a c1b (.lit (.int .i64 (.ofNat 52))) c2a c2b (.lit (.int .i64 (.ofNat i1))) [] q0 q1 .nil 1) = true := by
  match i1, h1 with
  | 0, _ => exact Pd.runD_52_0 q0 q1 c1a c1b c2a c2b
  | 1, _ => exact Pd.runD_52_1 q0 q1 c1a c1b c2a c2b
  | 2, _ => exact Pd.runD_52_2 q0 q1 c1a c1b c2a c2b
  | 3, _ => exact Pd.runD_52_3 q0 q1 c1a c1b c2a c2b
  | _ + 4, h => exact absurd h (by omega)
theorem all_53 (q0 q1 c1a c1b c2a c2b : AV) (i1 : Nat) (h1 : i1 < 4) : okT (Pd.g4 c1a c1b (.lit (.int .i64 (.ofNat 53))) c2a c2b (.lit (.int .i64 (.ofNat i1))) [] q0 q1 .nil 1) = true := by
  match i1, h1 with
  | 0, _ => exact Pd.runD_53_0 q0 q1 c1a c1b c2a c2b
  | 1, _ => exact Pd.runD_53_1 q0 q1 c1a c1b c2a c2b
  | 2, _ => exact Pd.runD_53_2 q0 q1 c1a c1b c2a c2b
  | 3, _ => exact Pd.runD_53_3 q0 q1 c1a c1b c2a c2b
  | _ + 4, h => exact absurd h (by omega)
theorem all_54 (q0 q1 c1a c1b c2a c2b : AV) (i1 : Nat) (h1 : i1 < 4) : okT (Pd.g4 c1a c1b (.lit (.int .i64 (.ofNat 54))) c2a c2b (.lit (.int .i64 (.ofNat i1))) [] q0 q1 .nil 1) = true := by
  match i1, h1 with
  | 0, _ => exact Pd.runD_54_0 q0 q1 c1a c1b c2a c2b
  | 1, _ => exact Pd.runD_54_1 q0 q1 c1a c1b c2a c2b
  | 2, _ => exact Pd.runD_54_2 q0 q1 c1a c1b c2a c2b
  | 3, _ => exact Pd.runD_54_3 q0 q1 c1a c1b c2a c2b
  | _ + 4, h => exact absurd h (by omega)
theorem all_55 (q0 q1 c1a c1b c2a c2b : AV) (i1 : Nat) (h1 : i1 < 4) : okT (Pd.g4 c1a c1b (.lit (.int .i64 (.ofNat 55))) c2a c2b (.lit (.int .i64 (.ofNat i1))) [] q0 q1 .nil 1) = true := by
  match i1, h1 with
  | 0, _ => exact Pd.runD_55_0 q0 q1 c1a c1b c2a c2b
  | 1, _ => exact Pd.runD_55_1 q0 q1 c1a c1b c2a c2b
  | 2, _ => exact Pd.runD_55_2 q0 q1 c1a c1b c2a c2b
  | 3, _ => exact Pd.runD_55_3 q0 q1 c1a c1b c2a c2b
  | _ + 4, h => exact absurd h (by omega)
theorem all_56 (q0 q1 c1a c1b c2a c2b : AV) (i1 : Nat) (h1 : i1 < 4) : okT (Pd.g4 c1a c1b (.lit (.int .i64 (.ofNat 56))) c2a c2b (.lit (.int .i64 (.ofNat i1))) [] q0 q1 .nil 1) = true := by
  match i1, h1 with
  | 0, _ => exact Pd.runD_56_0 q0 q1 c1a c1b c2a c2b
  | 1, _ => exact Pd.runD_56_1 q0 q1 c1a c1b c2a c2b
  | 2, _ => exact Pd.runD_56_2 q0 q1 c1a c1b c2a c2b
  | 3, _ => exact Pd.runD_56_3 q0 q1 c1a c1b c2a c2b
  | _ + 4, h => exact absurd h (by omega)
theorem all_57 (q0 q1 c1a c1b c2a c2b : AV) (i1 : Nat) (h1 : i1 < 4) : okT (Pd.g4 c1a c1b (.lit (.int .i64 (.ofNat 57))) c2a c2b (.lit (.int .i64 (.ofNat i1))) [] q0 q1 .nil 1) = true := by
  match i1, h1 with
  | 0, _ => exact Pd.runD_57_0 q0 q1 c1a c1b c2a c2b
  | 1, _ => exact Pd.runD_57_1 q0 q1 c1a c1b c2a c2b
  | 2, _ => exact Pd.runD_57_2 q0 q1 c1a c1b c2a c2b
  | 3, _ => exact Pd.runD_57_3 q0 q1 c1a c1b c2a c2b
  | _ + 4, h => exact absurd h (by omega)
theorem all_58 (q0 q1 c1a c1b c2a c2b : AV) (i1 : Nat) (h1 : i1 < 4) : okT (Pd.g4 c1a c1b (.lit (.int .i64 (.ofNat 58))) c2a c2b (.lit (.int .i64 (.ofNat i1))) [] q0 q1 .nil 1) = true := by
  match i1, h1 with
  | 0, _ => exact Pd.runD_58_0 q0 q1 c1a c1b c2a c2b
  | 1, _ => exact Pd.runD_58_1 q0 q1 c1a c1b c2a c2b
  | 2, _ => exact Pd.runD_58_2 q0 q1 c1a c1b c2a c2b
  | 3, _ => exact Pd.runD_58_3 q0 q1 c1a c1b c2a c2b
  | _ + 4, h => exact absurd h (by omega)
theorem all_59 (q0 q1 c1a c1b c2a c2b : AV) (i1 : Nat) (h1 : i1 < 4) : okT (Pd.g4 c1a c1b (.lit (.int .i64 (.ofNat 59))) c2a c2b (.lit (.int .i64 (.ofNat i1))) [] q0 q1 .nil 1) = true := by
  match i1, h1 with
  | 0, _ => exact Pd.runD_59_0 q0 q1 c1a c1b c2a c2b
  | 1, _ => exact Pd.runD_59_1 q0 q1 c1a c1b c2a c2b
  | 2, _ => exact Pd.runD_59_2 q0 q1 c1a c1b c2a c2b
  | 3, _ => exact Pd.runD_59_3 q0 q1 c1a c1b c2a c2b
  | _ + 4, h => exact absurd h (by omega)
theorem all_60 (q0 q1 c1a c1b c2a c2b : AV) (i1 : Nat) (h1 : i1 < 4) : okT (Pd.g4 c1a c1b (.lit (.int .i64 (.ofNat 60))) c2a c2b (.lit (.int .i64 (.ofNat i1))) [] q0 q1 .nil 1) = true := by
  match i1, h1 with
  | 0, _ => exact Pd.runD_60_0 q0 q1 c1a c1b c2a c2b
  | 1, _ => exact Pd.runD_60_1 q0 q1 c1a c1b c2a c2b
  | 2, _ => exact Pd.runD_60_2 q0 q1 c1a c1b c2a c2b
  | 3, _ => exact Pd.runD_60_3 q0 q1 c1a c1b c2a c2b
  | _ + 4, h => exact absurd h (by omega)
theorem all_61 (q0 q1 c1a c1b c2a c2b : AV) (i1 : Nat) (h1 : i1 < 4) : okT (Pd.g4 c1a c1b (.lit (.int .i64 (.ofNat 61))) c2a c2b (.lit (.int .i64 (.ofNat i1))) [] q0 q1 .nil 1) = true := by
  match i1, h1 with
  | 0, _ => exact Pd.runD_61_0 q0 q1 c1a c1b c2a c2b
  | 1, _ => exact Pd.runD_61_1 q0 q1 c1a c1b c2a c2b
  | 2, _ => exact Pd.runD_61_2 q0 q1 c1a c1b c2a c2b
  | 3, _ => exact Pd.runD_61_3 q0 q1 c1a c1b c2a c2b
  | _ + 4, h => exact absurd h (by omega)
theorem all_62 (q0 q1 c1a c1b c2a c2b : AV) (i1 : Nat) (h1 : i1 < 4) : okT (Pd.g4 c1a c1b (.lit (.int .i64 (.ofNat 62))) c2a c2b (.lit (.int .i64 (.ofNat i1))) [] q0 q1 .nil 1) = true := by
  match i1, h1 with
  | 0, _ => exact Pd.runD_62_0 q0 q1 c1a c1b c2a c2b
  | 1, _ => exact Pd.runD_62_1 q0 q1 c1a c1b c2a c2b
  | 2, _ => exact Pd.runD_62_2 q0 q1 c1a c1b c2a c2b
  | 3, _ => exact Pd.runD_62_3 q0 q1 c1a c1b c2a c2b
  | _ + 4, h => exact absurd h (by omega)
theorem all_63 (q0 q1 c1a c1b c2a c2b : AV) (i1 : Nat) (h1 : i1 < 4) : okT (Pd.g4 c1a c1b (.lit (.int .i64 (.ofNat 63))) c2a c2b (.lit (.int .i64 (.ofNat i1))) [] q0 q1 .nil 1) = true := by
  match i1, h1 with
  | 0, _ => exact Pd.runD_63_0 q0 q1 c1a c1b c2a c2b
  | 1, _ => exact Pd.runD_63_1 q0 q1 c1a c1b c2a c2b
  | 2, _ => exact Pd.runD_63_2 q0 q1 c1a c1b c2a c2b
  | 3, _ => exact Pd.runD_63_3 q0 q1 c1a c1b c2a c2b
  | _ + 4, h => exact absurd h (by omega)
theorem all_64 (q0 q1 c1a c1b c2a c2b : AV) (i1 : Nat) (h1 : i1 < 4) : okT (Pd.g4 c1a c1b (.lit (.int .i64 (.ofNat 64))) c2a c2b (.lit (.int .i64 (.ofNat i1))) [] q0 q1 .nil 1) = true := by
  match i1, h1 with
  | 0, _ => exact Pd.runD_64_0 q0 q1 c1a c1b c2a c2b
  | 1, _ => exact Pd.runD_64_1 q0 q1 c1a c1b c2a c2b
  | 2, _ => exact Pd.runD_64_2 q0 q1 c1a c1b c2a c2b
  | 3, _ => exact Pd.runD_64_3 q0 q1 c1a c1b c2a c2b
  | _ + 4, h => exact absurd h (by omega)
theorem all_65 (q0 q1 c1a c1b c2a c2b : AV) (i1 : Nat) (h1 : i1 < 4) : okT (Pd.g4 c1a c1b (.lit (.int .i64 (.ofNat 65))) c2a c2b (.lit (.int .i64 (.ofNat i1))) [] q0 q1 .nil 1) = true := by
  match i1, h1 with
  | 0, _ => exact Pd.runD_65_0 q0 q1 c1a c1b c2a c2b
  | 1, _ => exact Pd.runD_65_1 q0 q1 c1a c1b c2a c2b
  | 2, _ => exact Pd.runD_65_2 q0 q1 c1a c1b c2a c2b
  | 3, _ => exact Pd.runD_65_3 q0 q1 c1a c1b c2a c2b
  | _ + 4, h => exact absurd h (by omega)
theorem all_66 (q0 q1 c1a c1b c2a c2b : AV) (i1 : Nat) (h1 : i1 < 4) : okT (Pd.g4 c1a c1b (.lit (.int .i64 (.ofNat 66))) c2a c2b (.lit (.int .i64 (.ofNat i1))) [] q0 q1 .nil 1) = true := by
  match i1, h1 with
  | 0, _ => exact Pd.runD_66_0 q0 q1 c1a c1b c2a c2b
  | 1, _ => exact Pd.runD_66_1 q0 q1 c1a c1b c2a c2b
  | 2, _ => exact Pd.runD_66_2 q0 q1 c1a c1b c2a c2b
  | 3, _ => exact Pd.runD_66_3 q0 q1 c1a c1b c2a c2b
  | _ + 4, h => exact absurd h (by omega)
theorem all_67 (q0 q1 c1a c1b c2a c2b : AV) (i1 : Nat) (h1 : i1 < 4) : okT (Pd.g4 c1a c1b (.lit (.int .i64 (.ofNat 67))) c2a c2b (.lit (.int .i64 (.ofNat i1))) [] q0 q1 .nil 1) = true := by
  match i1, h1 with
  | 0, _ => exact Pd.runD_67_0 q0 q1 c1a c1b c2a c2b
  | 1, _ => exact Pd.runD_67_1 q0 q1 c1a c1b c2a c2b
  | 2, _ => exact Pd.runD_67_2 q0 q1 c1a c1b c2a c2b
  | 3, _ => exact Pd.runD_67_3 q0 q1 c1a c1b c2a c2b
  | _ + 4, h => exact absurd h (by omega)
theorem all_68 (q0 q1 c1a c1b c2a c2b : AV) (i1 : Nat) (h1 : i1 < 4) : okT (Pd.g4 c1a c1b (.lit (.int .i64 (.ofNat 68))) c2a c2b (.lit (.int .i64 (.ofNat i1))) [] q0 q1 .nil 1) = true := by
  match i1, h1 with
  | 0, _ => exact Pd.runD_68_0 q0 q1 c1a c1b c2a c2b
  | 1, _ => exact Pd.runD_68_1 q0 q1 c1a c1b c2a c2b
  | 2, _ => exact Pd.runD_68_2 q0 q1 c1a c1b c2a c2b
  | 3, _ => exact Pd.runD_68_3 q0 q1 c1a c1b c2a c2b
  | _ + 4, h => exact absurd h (by omega)
theorem all_69 (q0 q1 c1a c1b c2a c2b : AV) (i1 : Nat) (h1 : i1 < 4) : okT (Pd.g4 c1a c1b (.lit (.int .i64 (.ofNat 69))) c2a c2b (.lit (.int .i64 (.ofNat i1))) [] q0 q1 .nil 1) = true := by
  match i1, h1 with
  | 0, _ => exact Pd.runD_69_0 q0 q1 c1a c1b c2a c2b
  | 1, _ => exact Pd.runD_69_1 q0 q1 c1a c1b c2a c2b
  | 2, _ => exact Pd.runD_69_2 q0 q1 c1a c1b c2a c2b
  | 3, _ => exact Pd.runD_69_3 q0 q1 c1a c1b c2a c2b
  | _ + 4, h => exact absurd h (by omega)
theorem all_70 (q0 q1 c1a c1b c2a c2b : AV) (i1 : Nat) (h1 : i1 < 4) : okT (Pd.g4 c1a c1b (.lit (.int .i64 (.ofNat 70))) c2a c2b (.lit (.int .i64 (.ofNat i1))) [] q0 q1 .nil 1) = true := by
  match i1, h1 with
  | 0, _ => exact Pd.runD_70_0 q0 q1 c1a c1b c2a c2b
  | 1, _ => exact Pd.runD_70_1 q0 q1 c1a c1b c2a c2b
  | 2, _ => exact Pd.runD_70_2 q0 q1 c1a c1b c2a c2b
  | 3, _ => exact Pd.runD_70_3 q0 q1 c1a c1b c2a c2b
  | _ + 4, h => exact absurd h (by omega)
theorem all_71 (q0 q1 c1a c1b c2a c2b : AV) (i1 : Nat) (h1 : i1 < 4) : okT (Pd.g4 c1a c1b (.lit (.int .i64 (.ofNat 71))) c2a c2b (.lit (.int .i64 (.ofNat i1))) [] q0 q1 .nil 1) = true := by
  match i1, h1 with
  | 0, _ => exact Pd.runD_71_0 q0 q1 c1a c1b c2a c2b
  | 1, _ => exact Pd.runD_71_1 q0 q1 c1a c1b c2a c2b
  | 2, _ => exact Pd.runD_71_2 q0 q1 c1a c1b c2a c2b
  | 3, _ => exact Pd.runD_71_3 q0 q1 c1a c1b c2a c2b
  | _ + 4, h => exact absurd h (by omega)
theorem all_72 (q0 q1 c1a c1b c2a c2b : AV) (i1 : Nat) (h1 : i1 < 4) : okT (Pd.g4 c1a c1b (.lit (.int .i64 (.ofNat 72))) c2a c2b (.lit (.int .i64 (.ofNat i1))) [] q0 q1 .nil 1) = true := by
  match i1, h1 with
  | 0, _ => exact Pd.runD_72_0 q0 q1 c1a c1b c2a c2b
  | 1, _ => exact Pd.runD_72_1 q0 q1 c1a c1b c2a c2b
  | 2, _ => exact Pd.runD_72_2 q0 q1 c1a c1b c2a c2b
  | 3, _ => exact Pd.runD_72_3 q0 q1 c1a c1b c2a c2b
  | _ + 4, h => exact absurd h (by omega)
theorem all_73 (q0 q1 c1a c1b c2a c2b : AV) (i1 : Nat) (h1 : i1 < 4) : okT (Pd.g4 c1a c1b (.lit (.int .i64 (.ofNat 73))) c2a c2b (.lit (.int .i64 (.ofNat i1))) [] q0 q1 .nil 1) = true := by
  match i1, h1 with
  | 0, _ => exact Pd.runD_73_0 q0 q1 c1a c1b c2a c2b
  | 1, _ => exact Pd.runD_73_1 q0 q1 c1a c1b c2a c2b
  | 2, _ => exact Pd.runD_73_2 q0 q1 c1a c1b c2a c2b
  | 3, _ => exact Pd.runD_73_3 q0 q1 c1a c1b c2a c2b
  | _ + 4, h => exact absurd h (by omega)
theorem all_74 (q0 q1 c1a c1b c2a c2b : AV) (i1 : Nat) (h1 : i1 < 4) : okT (Pd.g4 c1a c1b (.lit (.int .i64 (.ofNat 74))) c2a c2b (.lit (.int .i64 (.ofNat i1))) [] q0 q1 .nil 1) = true := by
  match i1, h1 with
  | 0, _ => exact Pd.runD_74_0 q0 q1 c1a c1b c2a c2b
  | 1, _ => exact Pd.runD_74_1 q0 q1 c1a c1b c2a c2b
  | 2, _ => exact Pd.runD_74_2 q0 q1 c1a c1b c2a c2b
  | 3, _ => exact Pd.runD_74_3 q0 q1 c1a c1b c2a c2b
  | _ + 4, h => exact absurd h (by omega)
theorem all_75 (q0 q1 c1a c1b c2a c2b : AV) (i1 : Nat) (h1 : i1 < 4) : okT (Pd.g4 c1a c1b (.lit (.int .i64 (.ofNat 75))) c2a c2b (.lit (.int .i64 (.ofNat i1))) [] q0 q1 .nil 1) = true := by
  match i1, h1 with
  | 0, _ => exact Pd.runD_75_0 q0 q1 c1a c1b c2a c2b
  | 1, _ => exact Pd.runD_75_1 q0 q1 c1a c1b c2a c2b
  | 2, _ => exact Pd.runD_75_2 q0 q1 c1a c1b c2a c2b
  | 3, _ => exact Pd.runD_75_3 q0 q1 c1a c1b c2a c2b
  | _ + 4, h => exact absurd h (by omega)
theorem all_76 (q0 q1 c1a c1b c2a c2b : AV) (i1 : Nat) (h1 : i1 < 4) : okT (Pd.g4 c1a c1b (.lit (.int .i64 (.ofNat 76))) c2a c2b (.lit (.int .i64 (.ofNat i1))) [] q0 q1 .nil 1) = true := by
  match i1, h1 with
  | 0, _ => exact Pd.runD_76_0 q0 q1 c1a c1b c2a c2b
  | 1, _ => exact Pd.runD_76_1 q0 q1 c1a c1b c2a c2b
  | 2, _ => exact Pd.runD_76_2 q0 q1 c1a c1b c2a c2b
  | 3, _ => exact Pd.runD_76_3 q0 q1 c1a c1b c2a c2b
  | _ + 4, h => exact absurd h (by omega)
theorem all_77 (q0 q1 c1a c1b c2a c2b : AV) (i1 : Nat) (h1 : i1 < 4) : okT (Pd.g4 c1a c1b (.lit (.int .i64 (.ofNat 77))) c2a c2b (.lit (.int .i64 (.ofNat i1))) [] q0 q1 .nil 1) = true := by
  match i1, h1 with
  | 0, _ => exact Pd.runD_77_0 q0 q1 c1a c1b c2a c2b
  | 1, _ => exact Pd.runD_77_1 q0 q1 c1a c1b c2a c2b
  | 2, _ => exact Pd.runD_77_2 q0 q1 c1a c1b c2a c2b
  | 3, _ => exact Pd.runD_77_3 q0 q1 c1a c1b c2a c2b
  | _ + 4, h => exact absurd h (by omega)
theorem all_78 (q0 q1 c1a c1b c2a c2b : AV) (i1 : Nat) (h1 : i1 < 4) : okT (Pd.g4 c1a c1b (.lit (.int .i64 (.ofNat 78))) c2a c2b (.lit (.int .i64 (.ofNat i1))) [] q0 q1 .nil 1) = true := by
  match i1, h1 with
  | 0, _ => exact Pd.runD_78_0 q0 q1 c1a c1b c2a c2b
  | 1, _ => exact Pd.runD_78_1 q0 q1 c1a c1b c2a c2b
  | 2, _ => exact Pd.runD_78_2 q0 q1 c1a c1b c2a c2b
  | 3, _ => exact Pd.runD_78_3 q0 q1 c1a c1b c2a c2b
  | _ + 4, h => exact absurd h (by omega)
theorem all_79 (q0 q1 c1a c1b c2a c2b : AV) (i1 : Nat) (h1 : i1 < 4) : okT (Pd.g4 c1a c1b (.lit (.int .i64 (.ofNat 79))) c2a c2b (.lit (.int .i64 (.ofNat i1))) [] q0 q1 .nil 1) = true := by
  match i1, h1 with
  | 0, _ => exact Pd.runD_79_0 q0 q1 c1a c1b c2a c2b
  | 1, _ => exact Pd.runD_79_1 q0 q1 c1a c1b c2a c2b
  | 2, _ => exact Pd.runD_79_2 q0 q1 c1a c1b c2a c2b
  | 3, _ => exact Pd.runD_79_3 q0 q1 c1a c1b c2a c2b
  | _ + 4, h => exact absurd h (by omega)
theorem all (q0 q1 c1a c1b c2a c2b : AV) (i0 : Nat) (h0 : i0 < 80) (i1 : Nat) (h1 : i1 < 4) : okT (Pd.g4 c1a c1b (.lit (.int .i64 (.ofNat i0))) c2a c2b (.lit (.int .i64 (.ofNat i1))) [] q0 q1 .nil 1) = true := by
  match i0, h0 with
  | 0, _ => exact all_0 q0 q1 c1a c1b c2a c2b i1 h1
  | 1, _ => exact all_1 q0 q1 c1a c1b c2a c2b i1 h1
  | 2, _ => exact all_2 q0 q1 c1a c1b c2a c2b i1 h1
  | 3, _ => exact all_3 q0 q1 c1a c1b c2a c2b i1 h1
  | 4, _ => exact all_4 q0 q1 c1a c1b c2a c2b i1 h1
  | 5, _ => exact all_5 q0 q1 c1a c1b c2a c2b i1 h1
  | 6, _ => exact all_6 q0 q1 c1a c1b c2a c2b i1 h1
  | 7, _ => exact all_7 q0 q1 c1a c1b c2a c2b i1 h1
  | 8, _ => exact all_8 q0 q1 c1a c1b c2a c2b i1 h1
  | 9, _ => exact all_9 q0 q1 c1a c1b c2a c2b i1 h1
  | 10, _ => exact all_10 q0 q1 c1a c1b c2a c2b i1 h1
  | 11, _ => exact all_11 q0 q1 c1a c1b c2a c2b i1 h1
  | 12, _ => exact all_12 q0 q1 c1a c1b c2a c2b i1 h1
  | 13, _ => exact all_13 q0 q1 c1a c1b c2a c2b i1 h1
  | 14, _ => exact all_14 q0 q1 c1a c1b c2a c2b i1 h1
  | 15, _ => exact all_15 q0 q1 c1a c1b c2a c2b i1 h1
  | 16, _ => exact all_16 q0 q1 c1a c1b c2a c2b i1 h1
  | 17, _ => exact all_17 q0 q1 c1a c1b c2a c2b i1 h1
  | 18, _ => exact all_18 q0 q1 c1a c1b c2a c2b i1 h1
  | 19, _ => exact all_19 q0 q1 c1a c1b c2a c2b i1 h1
  | 20, _ => exact all_20 q0 q1 c1a c1b c2a c2b i1 h1
  | 21, _ => exact all_21 q0 q1 c1a c1b c2a c2b i1 h1
  | 22, _ => exact all_22 q0 q1 c1a c1b c2a c2b i1 h1
  | 23, _ => exact all_23 q0 q1 c1a c1b c2a c2b i1 h1
  | 24, _ => exact all_24 q0 q1 c1a c1b c2a c2b i1 h1
  | 25, _ => exact all_25 q0 q1 c1a c1b c2a c2b i1 h1
  | 26, _ => exact all_26 q0 q1 c1a c1b c2a c2b i1 h1
  | 27, _ => exact all_27 q0 q1 c1a c1b c2a c2b i1 h1
  | 28, _ => exact all_28 q0 q1 c1a c1b c2a c2b i1 h1
  | 29, _ => exact all_29 q0 q1 c1a c1b c2a c2b i1 h1
  | 30, _ => exact all_30 q0 q1 c1a c1b c2a c2b i1 h1
  | 31, _ => exact all_31 q0 q1 c1a c1b c2a c2b i1 h1
  | 32, _ => exact all_32 q0 q1 c1a c1b c2a c2b i1 h1
  | 33, _ => exact all_33 q0 q1 c1a c1b c2a c2b i1 h1
  | 34, _ => exact all_34 q0 q1 c1a c1b c2a c2b i1 h1
  | 35, _ => exact all_35 q0 q1 c1a c1b c2a c2b i1 h1
  | 36, _ => exact all_36 q0 q1 c1a c1b c2a c2b i1 h1
  | 37, _ => exact all_37 q0 q1 c1a c1b c2a c2b i1 h1
  | 38, _ => exact all_38 q0 q1 c1a c1b c2a c2b i1 h1
  | 39, _ => exact all_39 q0 q1 c1a c1b c2a c2b i1 h1
  | 40, _ => exact all_40 q0 q1 c1a c1b c2a c2b i1 h1
  | 41, _ => exact all_41 q0 q1 c1a c1b c2a c2b i1 h1
  | 42, _ => exact all_42 q0 q1 c1a c1b c2a c2b i1 h1
  | 43, _ => exact all_43 q0 q1 c1a c1b c2a c2b i1 h1
  | 44, _ => exact all_44 q0 q1 c1a c1b c2a c2b i1 h1
  | 45, _ => exact all_45 q0 q1 c1a c1b c2a c2b i1 h1
  | 46, _ => exact all_46 q0 q1 c1a c1b c2a c2b i1 h1
  | 47, _ => exact all_47 q0 q1 c1a c1b c2a c2b i1 h1
  | 48, _ => exact all_48 q0 q1 c1a c1b c2a c2b i1 h1
  | 49, _ => exact all_49 q0 q1 c1a c1b c2a c2b i1 h1
  | 50, _ => exact all_50 q0 q1 c1a c1b c2a c2b i1 h1
  | 51, _ => exact all_51 q0 q1 c1a c1b c2a c2b i1 h1
  | 52, _ => exact all_52 q0 q1 c1a c1b c2a c2b i1 h1
  | 53, _ => exact all_53 q0 q1 c1a c1b c2a c2b i1 h1
  | 54, _ => exact all_54 q0 q1 c1a c1b c2a c2b i1 h1
  | 55, _ => exact all_55 q0 q1 c1a c1b c2a c2b i1 h1
  | 56, _ => exact all_56 q0 q1 c1a c1b c2a c2b i1 h1
  | 57, _ => exact all_57 q0 q1 c1a c1b c2a c2b i1 h1
  | 58, _ => exact all_58 q0 q1 c1a c1b c2a c2b i1 h1
  | 59, _ => exact all_59 q0 q1 c1a c1b c2a c2b i1 h1
  | 60, _ => exact all_60 q0 q1 c1a c1b c2a c2b i1 h1
  | 61, _ => exact all_61 q0 q1 c1a c1b c2a c2b i1 h1
  | 62, _ => exact all_62 q0 q1 c1a c1b c2a c2b i1 h1
  | 63, _ => exact all_63 q0 q1 c1a c1b c2a c2b i1 h1
  | 64, _ => exact all_64 q0 q1 c1a c1b c2a c2b i1 h1
  | 65, _ => exact all_65 q0 q1 c1a c1b c2a c2b i1 h1
  | 66, _ => exact all_66 q0 q1 c1a c1b c2a c2b i1 h1
  | 67, _ => exact all_67 q0 q1 c1a c1b c2a c2b i1 h1
  | 68, _ => exact all_68 q0 q1 c1a c1b c2a c2b i1 h1
  | 69, _ => exact all_69 q0 q1 c1a c1b c2a c2b i1 h1
  | 70, _ => exact all_70 q0 q1 c1a c1b c2a c2b i1 h1
  | 71, _ => exact all_71 q0 q1 c1a c1b c2a c2b i1 h1
  | 72, _ => exact all_72 q0 q1 c1a c1b c2a c2b i1 h1
  | 73, _ => exact all_73 q0 q1 c1a c1b c2a c2b i1 h1
  | 74, _ => exact all_74 q0 q1 c1a c1b c2a c2b i1 h1
  | 75, _ => exact all_75 q0 q1 c1a c1b c2a c2b i1 h1
  | 76, _ => exact all_76 q0 q1 c1a c1b c2a c2b i1 h1
  | 77, _ => exact all_77 q0 q1 c1a c1b c2a c2b i1 h1
  | 78, _ => exact all_78 q0 q1 c1a c1b c2a c2b i1 h1
  | 79, _ => exact all_79 q0 q1 c1a c1b c2a c2b i1 h1
  | _ + 80, h => exact absurd h (by omega)
/-- names for the errors that the variables hold -/
def errRho (aE : Nat → Addr) : Rho := ⟨[], fun i => .pointer (some (aE i))⟩
theorem errEE {w0 : World} {base : Nat} {aE : Nat → Addr} (hS : EnvS w0 base aE) : EE w0 base (errRho aE) Pd.envE := by
  have key : ∀ i g, sentG[i]? = some g → ∃ u, inst (errRho aE) (.iface 253 (.opq i)) = some u ∧ w0.cell? ⟨g, 0, none⟩ = some u ∧ g < base := fun i g hi => ⟨_, rfl, hS.at_ i g hi, hS.lt g (List.mem_of_getElem? hi)⟩
  intro g v hv
  unfold Pd.envE at hv
  simp only [lookE] at hv
  split at hv
  · rename_i hb
    cases hv
    obtain rfl := beqT hb
    exact key 0 _ rfl
  split at hv
  · rename_i hb
    cases hv
    obtain rfl := beqT hb
    exact key 1 _ rfl
  split at hv
  · rename_i hb
    cases hv
    obtain rfl := beqT hb
    exact key 2 _ rfl
  split at hv
  · rename_i hb
    cases hv
    obtain rfl := beqT hb
    exact key 3 _ rfl
  split at hv
  · rename_i hb
    cases hv
    obtain rfl := beqT hb
    exact key 4 _ rfl
  split at hv
  · rename_i hb
    cases hv
    obtain rfl := beqT hb
    exact key 5 _ rfl
  split at hv
  · rename_i hb
    cases hv
    obtain rfl := beqT hb
    exact key 6 _ rfl
  split at hv
  · rename_i hb
    cases hv
    obtain rfl := beqT hb
    exact key 7 _ rfl
  split at hv
  · rename_i hb
    cases hv
    obtain rfl := beqT hb
    exact key 8 _ rfl
  split at hv
  · rename_i hb
    cases hv
    obtain rfl := beqT hb
    exact key 9 _ rfl
  split at hv
  · rename_i hb
    cases hv
    obtain rfl := beqT hb
    exact key 10 _ rfl
  split at hv
  · rename_i hb
    cases hv
    obtain rfl := beqT hb
    exact key 11 _ rfl
  split at hv
  · rename_i hb
    cases hv
    obtain rfl := beqT hb
    exact key 12 _ rfl
  split at hv
  · rename_i hb
    cases hv
    obtain rfl := beqT hb
    exact key 13 _ rfl
  split at hv
  · rename_i hb
    cases hv
    obtain rfl := beqT hb
    exact key 14 _ rfl
  split at hv
  · rename_i hb
    cases hv
    obtain rfl := beqT hb
    exact key 15 _ rfl
  split at hv
  · rename_i hb
    cases hv
    obtain rfl := beqT hb
    exact key 16 _ rfl
  cases hv
theorem errOPQ {w0 : World} {base : Nat} {aE : Nat → Addr} (hS : EnvS w0 base aE) : OPQ w0 base (errRho aE) := ⟨aE, fun _ _ => rfl, hS.blk, hS.ne⟩
theorem first_run : okT (Pd.g10 [.nil] .nil 1) = true := by kernel_rfl
theorem law_c {w0 : World} {base : Nat} {aE : Nat → Addr} (hS : EnvS w0 base aE) (n0 n1 : Int) : FnC Tryz.prog 4 #[.int .i64 n0, .int .i64 n1] (WA w0 base []) (fun _ : Unit => .bool true) (fun _ => WA w0 base []) := by
  obtain ⟨i0, h0, e0⟩ := numI_ok n0 (show 0 < 80 by decide)
  obtain ⟨i1, h1, e1⟩ := numI_ok n1 (show 0 < 4 by decide)
  obtain ⟨T2, n2, hF0⟩ := okT_eq first_run
  have hF1 := Pd.g10_ok [.nil] .nil 1
  rw [hF0] at hF1
  exact okT_c (vs := [.int .i64 n0, .int .i64 n1]) (Pd.g4_ok (.lit (.int .i64 (n0.tmod (Int.ofNat 80)))) (.lit (.int .i64 (n0.tmod (Int.ofNat 80) + Int.ofNat 80))) (.lit (.int .i64 (.ofNat i0))) (.lit (.int .i64 (n1.tmod (Int.ofNat 4)))) (.lit (.int .i64 (n1.tmod (Int.ofNat 4) + Int.ofNat 4))) (.lit (.int .i64 (.ofNat i1))) (.lit (.int .i64 n0)) (.lit (.int .i64 n1)) (fun W ρ af hx => remA hx n0 (by decide)) (fun W ρ af hx => addA hx n0 (by decide) (by decide)) (fun W ρ af hx => remB hx e0 (by decide)) (fun W ρ af hx => remA hx n1 (by decide)) (fun W ρ af hx => addA hx n1 (by decide) (by decide)) (fun W ρ af hx => remB hx e1 (by decide)) [] .nil 1 (GOk.quiet hF1 rfl)) (all (.lit (.int .i64 n0)) (.lit (.int .i64 n1)) (.lit (.int .i64 (n0.tmod (Int.ofNat 80)))) (.lit (.int .i64 (n0.tmod (Int.ofNat 80) + Int.ofNat 80))) (.lit (.int .i64 (n1.tmod (Int.ofNat 4)))) (.lit (.int .i64 (n1.tmod (Int.ofNat 4) + Int.ofNat 4))) i0 h0 i1 h1) (errRho aE) (errEE hS) (errOPQ hS) (fun _ _ => rfl)
end Go.Proofs.YtdepmlcnllofiaaGreatDoor.PdD
